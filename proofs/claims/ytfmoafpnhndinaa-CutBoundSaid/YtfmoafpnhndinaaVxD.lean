/- A symbolic executor for the model's code, and its soundness (part 4 of 7): a general tool, no statement about this program. -/
import Derived.Test.YtfmoafpnhndinaaVxC
import Derived.Laws.BytesString
import Derived.Laws.BytesArg
import Derived.Lib.ConvBytes
import Derived.Laws.StructEq
import Derived.Laws.Small
set_option linter.unusedSimpArgs false
set_option linter.unusedVariables false
/- VX 17: literals as operations; strings to bytes and back; copy; the builtins. -/
namespace VX
open Go

section
variable {P : Program} {T : Tab} (hT : TabOK P T.l)
variable {Γ : Ctx} {I : Imm} {ρ : Ren} {r : List (Nat × Option Obj)} {us : List Nat} {w : World} {nm : Nat}

theorem parts_ok {e : Operand → Value} : ∀ (ps : List (Nat × Operand)) (vs : List A), RL I ρ vs (ps.map fun p => e p.2) → A.surePL vs → Parts I ρ (zipParts ps vs) (ps.map fun p => (p.1, e p.2))
  | [], [], _, _ => .nil
  | (i, x) :: ps, v :: vs, .cons h1 h2, hs => .cons h1 hs.1 (parts_ok ps vs h2 hs.2)
theorem zipParts_pure : ∀ (ps : List (Nat × Operand)) (vs : List A), A.purePL vs → ∀ p ∈ zipParts ps vs, (p.2).pureP
  | [], _, _, p, hp => by simp [zipParts] at hp
  | _ :: _, [], _, p, hp => by simp [zipParts] at hp
  | (i, x) :: ps, v :: vs, h, p, hp => by
    simp only [zipParts, List.mem_cons] at hp
    rcases hp with rfl | hp
    · exact h.1
    · exact zipParts_pure ps vs h.2 p hp

theorem repl_eq (z : A) (n : Nat) : repl z n = List.replicate n z := by
  induction n with
  | zero => rfl
  | succ n ih => simp [repl, ih, List.replicate_succ]
theorem sizeL_repl {z : A} {sz : Nat} (h : z.size = sz) (n : Nat) : A.sizeL (List.replicate n z) = n * sz := by
  induction n with
  | zero => simp [A.sizeL]
  | succ n ih => rw [List.replicate_succ, A.sizeL, ih, h, Nat.succ_mul]; omega
theorem wfL_repl {z : A} (h : z.wf) (n : Nat) : A.wfL (List.replicate n z) := by
  induction n with
  | zero => trivial
  | succ n ih => exact ⟨h, ih⟩
theorem purePL_repl {z : A} (h : z.pureP) (n : Nat) : A.purePL (List.replicate n z) := by
  induction n with
  | zero => trivial
  | succ n ih => exact ⟨h, ih⟩
theorem RL_repl {z : A} {zv : List Value} (h : RL I ρ z.cells zv) (n : Nat) : RL I ρ (A.cellsL (List.replicate n z)) (List.replicate n zv).flatten := by
  induction n with
  | zero => exact .nil
  | succ n ih =>
    rw [List.replicate_succ, List.replicate_succ, A.cellsL, List.flatten_cons]
    exact h.append ih

theorem Fits.repl {z : A} {sz n : Nat} (h : z.size = sz) : Fits (fun i => some (i * sz, sz)) (List.replicate n z) := fun i x hx => by
  rw [nth_getElem?, List.getElem?_replicate] at hx
  split at hx
  · cases hx
    rw [List.take_replicate, Nat.min_eq_left (by omega), sizeL_repl h, h]
  · cases hx

theorem listF_cells {z : A} : ∀ (l : List A), (List.range l.length).flatMap (fun i => (listF z l i).cells) = A.cellsL l
  | [] => rfl
  | x :: l => by
    rw [List.length_cons, List.range_succ_eq_map, List.flatMap_cons, List.flatMap_map]
    have := listF_cells (z := z) l
    simp only [listF] at this ⊢
    rw [A.cellsL, ← this]
    simp

theorem mem_wfL : ∀ {l : List A}, A.wfL l → ∀ x ∈ l, x.wf
  | y :: l, h, x, hx => by
    rcases List.mem_cons.1 hx with rfl | hx
    · exact h.1
    · exact mem_wfL h.2 x hx

theorem listF_ok {z : A} {l : List A} {sz : Nat} (hw : A.wfL l) (hp : A.purePL l) (hs : ∀ x ∈ l, x.size = sz) : ∀ i, i < l.length → (listF z l i).wf ∧ (listF z l i).size = sz ∧ (listF z l i).pureP := fun i hi => by
  have : listF z l i = l[i] := by simp [listF, List.getD_eq_getElem?_getD, hi]
  rw [this]
  exact ⟨mem_wfL hw _ (List.getElem_mem hi), hs _ (List.getElem_mem hi), purePL_mem hp _ (List.getElem_mem hi)⟩

include hT in
theorem build_ok {t : Nat} {ps : Array (Nat × Operand)} {e : Operand → Value} {vs : List A} {out : Out} (hp : pBuild T t ps.toList vs = some out) (h : RW Γ I ρ r us w) (hv : RL I ρ vs (ps.toList.map fun p => e p.2)) (hc : allP out.c) :
    ∃ v, (Instr.build t (ps.map fun (i, x) => (i, e x))).run P w = .ok v w ∧ Done Γ I ρ r us nm out (.ok (.value v) w) := by
  have hl : (ps.map fun (i, x) => (i, e x)).toList = ps.toList.map fun p => (p.1, e p.2) := by simp
  unfold pBuild at hp
  split at hp
  · rename_i fs hd
    obtain ⟨fl, hfl, hfs⟩ := Tab.struct hT hd
    split at hp
    · rename_i d sz bt z q hti
      obtain ⟨hd0, ⟨i, hi, his, hbt, hz⟩, hbld, heq⟩ := hT t _ hti
      clear hd0 hbt heq
      simp only at his hz hbld
      split at hp
      · rename_i zs
        cases e1 : sizesOk zs (zipParts ps.toList vs) with
        | false => rw [e1] at hp; cases hp
        | true =>
          rw [e1] at hp
          simp only [cond_true, Option.some.injEq] at hp
          subst hp
          obtain ⟨c1, c2, _⟩ := hc
          obtain ⟨zv, hzv, hzR, hzz, hzp⟩ := hz c2
          have hdd : d = .struct fs := by
            simp only [Tab.d, hti] at hd
            exact hd
          obtain ⟨u, pl, hu, hpl, hpll, hplg⟩ := hbld fs zs hdd rfl
          obtain ⟨zc, rfl, hzw, hzr⟩ := (hzR I ρ).agg_inv rfl
          have hfits : Fits (fun i => pl.toArray[i]?) zs := fun i x hx => by
            rw [nth_getElem?] at hx
            simpa using hplg i x hx
          obtain ⟨cs', k1, k2, k3, _, _, k6, _, _⟩ := fill_ok (I := I) (ρ := ρ) _ _ zs zc.toArray hfits hzw (by simpa [A.cells] using hzr) (parts_ok ps.toList vs hv c1) e1
          have hb : P.built t (ps.map fun (i, x) => (i, e x)).toList = some cs' := by
            unfold Program.built
            rw [hi, hu]
            simp only [hzv, hpl, hl]
            exact k1
          refine ⟨_, run_build w t _ cs' hb, .value h ?_⟩
          have := R.agg (I := I) (ρ := ρ) (x := .agg (fillL zs (zipParts ps.toList vs))) rfl k3 k2
          simpa using this
      · cases hp
    · cases hp
  · rename_i n el hd
    have hu := Tab.array hT hd
    split at hp
    · rename_i d se bt z q hti
      obtain ⟨hd0, ⟨i, hi, his, hbt, hz⟩, hbld, heq⟩ := hT t _ hti
      clear hd0 hbt heq hbld
      simp only at his hz
      split at hp
      · rename_i sz n' g
        cases e2 : nth T.l el with
        | none => rw [e2] at hp; cases hp
        | some ti =>
        obtain ⟨dE, se, bE, zE, qE⟩ := ti
        rw [e2] at hp
        simp only at hp
        cases e1 : sizesOk (lstF g 0 n') (zipParts ps.toList vs) && (Nat.beq n n' && Nat.beq sz se) with
        | false => rw [e1] at hp; cases hp
        | true =>
          rw [e1] at hp
          simp only [cond_true, Option.some.injEq] at hp
          subst hp
          obtain ⟨a1, a2⟩ := andb e1
          obtain ⟨a2, a3⟩ := andb a2
          obtain rfl : n = n' := beqn a2
          have hsz := beqn a3
          obtain ⟨c1, c2, _⟩ := hc
          obtain ⟨zv, hzv, hzR, hzz, hzp⟩ := hz c2
          obtain ⟨zc, rfl, hzw, hzr⟩ := (hzR I ρ).agg_inv rfl
          have hzs : ∀ k c, (∀ i, k ≤ i → i < k + c → (g i).wf ∧ (g i).size = sz ∧ (g i).pureP) → A.wfL (lstF g k c) ∧ A.purePL (lstF g k c) ∧ (lstF g k c).length = c ∧ (∀ x ∈ lstF g k c, x.size = sz) ∧ A.cellsL (lstF g k c) = (List.range' k c).flatMap fun i => (g i).cells := fun k c => by
            induction c generalizing k with
            | zero => intro _; exact ⟨trivial, trivial, rfl, by simp [lstF], rfl⟩
            | succ c ih =>
              intro hg
              obtain ⟨i1, i2, i3, i4, i5⟩ := ih (k + 1) (fun i h1 h2 => hg i (by omega) (by omega))
              have hk := hg k (Nat.le_refl _) (by omega)
              refine ⟨⟨hk.1, i1⟩, ⟨hk.2.2, i2⟩, by simp [lstF, i3], fun x hx => ?_, ?_⟩
              · simp only [lstF, List.mem_cons] at hx
                rcases hx with rfl | hx
                · exact hk.2.1
                · exact i4 x hx
              · simp only [lstF, A.cellsL, i5, List.range'_succ, List.flatMap_cons]
          obtain ⟨z1, z2, z3, z4, z5⟩ := hzs 0 n (fun i _ hi => hzw i (by omega))
          have hfits : Fits (fun i => some (i * sz, sz)) (lstF g 0 n) := fun i x hx => by
            rw [nth_getElem?] at hx
            have hxs := z4 x (List.mem_iff_getElem?.2 ⟨i, hx⟩)
            have : ∀ (l : List A), (∀ x ∈ l, x.size = sz) → A.sizeL l = l.length * sz := fun l => by
              induction l with
              | nil => intro _; simp [A.sizeL]
              | cons y l ih => intro h; rw [A.sizeL, ih (fun x hx => h x (List.mem_cons_of_mem _ hx)), h y List.mem_cons_self, List.length_cons, Nat.succ_mul]; omega
            have hi : i < (lstF g 0 n).length := (List.getElem?_eq_some_iff.1 hx).1
            rw [this _ (fun x hx => z4 x (List.mem_of_mem_take hx)), List.length_take, Nat.min_eq_left (by omega), hxs]
          rw [A.cells, List.range_eq_range', ← z5] at hzr
          obtain ⟨cs', k1, k2, k3, _, k5, _, k7, k8⟩ := fill_ok (I := I) (ρ := ρ) _ _ (lstF g 0 n) zc.toArray hfits z1 (by simpa using hzr) (parts_ok ps.toList vs hv (pure_sureL _ c1)) a1
          obtain ⟨_, ⟨ie, hie, hse, _, _⟩, _⟩ := hT el _ e2
          simp only at hse
          rw [← hsz] at hse
          have hb : P.built t (ps.map fun (i, x) => (i, e x)).toList = some cs' := by
            unfold Program.built
            rw [hi, hu]
            simp only [hzv, hie, hl, hse]
            exact k1
          refine ⟨_, run_build w t _ cs' hb, .value h ?_⟩
          have hlen : (fillL (lstF g 0 n) (zipParts ps.toList vs)).length = n := by rw [k5, z3]
          have hok := listF_ok (z := .any) k3 (k7 z2 (zipParts_pure _ _ c1)) (k8 sz z4)
          rw [hlen] at hok
          have hcells := listF_cells (z := .any) (fillL (lstF g 0 n) (zipParts ps.toList vs))
          rw [hlen] at hcells
          have := R.agg (I := I) (ρ := ρ) (x := .vec sz n (listF .any (fillL (lstF g 0 n) (zipParts ps.toList vs)))) rfl hok (by rw [A.cells, hcells]; exact k2)
          simpa using this
      · cases hp
    · cases hp
  · cases hp

include hT in
theorem buildSlice_ok {t n : Nat} {ps : Array (Nat × Operand)} {e : Operand → Value} {vs : List A} {out : Out} (hp : pBuildSlice T t n ps.toList nm vs = some out) (h : RW Γ I ρ r us w) (hnm : usedN us nm = false)
    (hv : RL I ρ vs (ps.toList.map fun p => e p.2)) (hc : allP out.c) :
    ∃ v w', (Instr.buildSlice t n (ps.map fun (i, x) => (i, e x))).run P w = .ok v w' ∧ Done Γ I ρ r us nm out (.ok (.value v) w') := by
  have hl : (ps.map fun (i, x) => (i, e x)).toList = ps.toList.map fun p => (p.1, e p.2) := by simp
  unfold pBuildSlice at hp
  split at hp
  · rename_i el hd
    have hu := Tab.slice hT hd
    split at hp
    · rename_i d se bt z q hti
      obtain ⟨_, ⟨ie, hie, hse, _, hz⟩, _⟩ := hT el _ hti
      simp only at hse hz
      cases e1 : sizesOk (repl z n) (zipParts ps.toList vs) && Nat.ble (n * se) 4096 with
      | false => rw [e1] at hp; cases hp
      | true =>
        rw [e1] at hp
        simp only [cond_true, Option.some.injEq] at hp
        subst hp
        obtain ⟨a1, a2⟩ := andb e1
        have hle := Nat.le_of_ble_eq_true a2
        obtain ⟨c1, c2, _⟩ := hc
        obtain ⟨zv, hzv, hzR, hzz, hzp⟩ := hz c2
        obtain ⟨hzc, hz1⟩ := (hzR I ρ).cells c2
        have hzl := hzc.length
        rw [A.length_cells z (hzR I ρ).wf, hzz] at hzl
        have hzs : zv.cells.size = se := by rw [hzl]; simp
        have hrow : ((Array.range (n * se)).map fun i => (if n * se = 0 then (#[] : Array Value) else zv.cells)[i % (if n * se = 0 then (#[] : Array Value) else zv.cells).size]!).toList = (List.replicate n zv.cells.toList).flatten := by
          by_cases h0 : n * se = 0
          · rw [h0]
            have : (List.replicate n zv.cells.toList).flatten.length = 0 := by simp [hzs, h0]
            rw [List.eq_nil_of_length_eq_zero this]
            simp
          · rw [if_neg h0, ← noughts_eq, hzs]
        rw [repl_eq] at a1
        obtain ⟨cs', k1, k2, k3, k4, k5, _, k7, k8⟩ := fill_ok (I := I) (ρ := ρ) _ _ (List.replicate n z) ((Array.range (n * se)).map fun i => (if n * se = 0 then (#[] : Array Value) else zv.cells)[i % (if n * se = 0 then (#[] : Array Value) else zv.cells).size]!)
          (Fits.repl hzz) (wfL_repl (hzR I ρ).wf n) (by rw [hrow]; exact RL_repl hzc n) (parts_ok ps.toList vs hv (pure_sureL _ c1)) a1
        have hlen : (fillL (List.replicate n z) (zipParts ps.toList vs)).length = n := by rw [k5]; simp
        have hpure := k7 (purePL_repl hzp n) (zipParts_pure _ _ c1)
        have hok := listF_ok (z := z) k3 hpure (k8 se (fun x hx => by rw [List.mem_replicate] at hx; rw [hx.2, hzz]))
        rw [hlen] at hok
        have hcells := listF_cells (z := z) (fillL (List.replicate n z) (zipParts ps.toList vs))
        rw [hlen] at hcells
        have hcl := k2.length
        rw [A.length_cellsL _ k3, k4, sizeL_repl hzz] at hcl
        have hrun : (Instr.buildSlice t n (ps.map fun (i, x) => (i, e x))).run P w = .ok (.slice (some ⟨w.heap.size, 0, none⟩) n n) (w.alloc (.cells cs' el)) := by
          unfold Instr.buildSlice
          have h24 : ¬ (n * se > 2 ^ 24) := by omega
          simp only [Sem.run_bind, underlying, run_program, Result.andThen_ok, hu, Sem.run_pure, sizeOf_run hie, hse]
          rw [if_neg h24]
          by_cases h0 : n * se = 0
          · simp only [h0, if_true, Sem.run_pure, Result.andThen_ok] at k1 ⊢
            simp only [hl, k1, Sem.run_bind, newRow, Sem.run_pure, run_newObj, Result.andThen_ok, World.alloc_eq]
          · simp only [h0, if_false, Sem.run_bind, zeroValue_run hie hzv, Sem.run_pure, Result.andThen_ok] at k1 ⊢
            simp only [hl, k1, Sem.run_bind, newRow, Sem.run_pure, run_newObj, Result.andThen_ok, World.alloc_eq]
        have hcells1 : ∀ v ∈ cs'.toList, v.oneCell' = true := k2.oneCell (cells_pureL _ k3 hpure)
        refine ⟨_, _, hrun, _, _, _, ρ.set nm (.blk w.heap.size (n * se)), rfl, rfl, Ren.le_set (h.names nm hnm), h.alloc hnm ⟨by rw [hcl]; simp, Thawed.none _, ⟨?_, ?_, ?_⟩, hcells1⟩, ?_⟩
        · rw [← hcl]; exact Nat.le_refl _
        · rw [repl_eq]; exact hok
        · intro i hi
          rw [repl_eq]
          have hlenf : ∀ j, j < n → ((fun i => (listF z (fillL (List.replicate n z) (zipParts ps.toList vs)) i).cells) j).length = se := fun j hj => by
            simp only []
            rw [A.length_cells _ (hok j hj).1, (hok j hj).2.1]
          obtain ⟨l, m, hf, hll, _⟩ := flat_split (f := fun i => (listF z (fillL (List.replicate n z) (zipParts ps.toList vs)) i).cells) hlenf hi
          have hr2 := k2
          rw [← hcells, hf] at hr2
          have := RL.middle hr2
          rw [A.length_cells _ (hok i hi).1, (hok i hi).2.1, hll] at this
          exact RL.pure this (cells_pureP (hok i hi).1 (hok i hi).2.2)
        · have := R.own (I := I) (ρ := ρ.set nm (.blk w.heap.size (n * se))) (sz := se) (id := nm) (off := 0) (n := n) (b := w.heap.size) (N := n * se) (c := n) (by simp [Ren.set]) (Nat.le_refl _) (by simp)
          simpa using this
    · cases hp
  · cases hp
end
end VX

/- VX 18: conversions, copy, the other builtins, equality. -/
namespace VX
open Go

section
variable {P : Program} {T : Tab} (hT : TabOK P T.l)
variable {Γ : Ctx} {I : Imm} {ρ : Ren} {r : List (Nat × Option Obj)} {us : List Nat} {w : World} {nm : Nat}

/-- Bytes' elements as bytes. -/
theorem bytes_run {n : Nat} {g : Nat → A} {cs : List Value} (hE : Elems I 1 n g cs) (hi : ∀ i, i < n → isInt .u8 (g i)) : ∃ ns : List Int, cs = ns.map (Value.int .u8) ∧ (ns.map fun k => UInt8.ofNat k.toNat) = bytesOf n g := by
  have hlen : cs.length = n := by simpa using hE.len
  have hat : ∀ i, i < n → ∃ k, g i = .int .u8 k ∧ cs[i]? = some (.int .u8 k) := fun i hin => by
    obtain ⟨k, hk⟩ := hi i hin
    have := hE.at_ i hin
    rw [hk] at this
    simp only [A.cells] at this
    obtain ⟨v, hv, hR⟩ := this.one_inv
    cases hR.int_inv
    refine ⟨k, hk, ?_⟩
    have h0 := congrArg (·[0]?) hv
    simpa using h0
  refine ⟨(List.range n).map fun i => (match g i with | .int _ k => k | _ => 0), ?_, ?_⟩
  · apply List.ext_getElem?
    intro j
    by_cases hj : j < n
    · obtain ⟨k, hk, hc⟩ := hat j hj
      simp [hc, hj, hk]
    · rw [List.getElem?_eq_none (by omega), List.getElem?_eq_none (by simp; omega)]
  · unfold bytesOf
    rw [List.map_map]
    apply List.map_congr_left
    intro j hj
    obtain ⟨k, hk, hc⟩ := hat j (by simpa using hj)
    simp [hk, byteOf]

theorem elems0_slice {x : A} {v : Value} {obs : List Obj} {se : Nat} {q : Nat × Nat × (Nat → A) × List Prop} (hx : R I ρ x v) (he : elems0 x obs se = some q) (hn : ∀ l, x ≠ .str l) : ∃ a n c, v = .slice a n c := by
  cases hx <;> first | exact ⟨_, _, _, rfl⟩ | (exfalso; exact hn _ rfl) | (exfalso; simp [elems0, elems, isNils] at he; done) | skip
  rename_i hagg _ _
  cases x <;> first | (simp [isAgg] at hagg; done) | (exfalso; simp [elems0, elems, isNils] at he)

theorem bytesWorld_eq (w : World) (e : TypeId) (s : ByteArray) : Lib.bytesWorld w e s = w.drew.alloc (.cells (Lib.bytesCells w e s) e ((Lib.bytesCells w e s).size, (Lib.bytesCells w e s).size + 1)) := by
  have hh : (Lib.bytesWorld w e s).heap = (w.drew.alloc (.cells (Lib.bytesCells w e s) e ((Lib.bytesCells w e s).size, (Lib.bytesCells w e s).size + 1))).heap := by
    apply Array.ext_getElem?
    intro k
    rcases Nat.lt_trichotomy k w.heap.size with h | h | h
    · rw [Lib.bytesWorld_at_old w e s k h, heap_alloc_lt _ _ (by simpa using h)]
      rfl
    · subst h
      rw [Lib.bytesWorld_at_new]
      exact (heap_alloc_at w.drew _).symm
    · rw [Array.getElem?_eq_none (by rw [Lib.bytesWorld_size]; omega), Array.getElem?_eq_none (by simp; omega)]
  have h1 : (Lib.bytesWorld w e s).tape = w.tape := by simp [Lib.bytesWorld, World.freeze]
  have h2 : (Lib.bytesWorld w e s).drawn = w.drawn + 1 := by simp [Lib.bytesWorld, World.freeze]
  have h3 : (Lib.bytesWorld w e s).os = w.os := by unfold Lib.bytesWorld World.freeze; rfl
  have h4 : (Lib.bytesWorld w e s).output = w.output := by unfold Lib.bytesWorld World.freeze; rfl
  cases hb : Lib.bytesWorld w e s
  rw [hb] at hh h1 h2 h3 h4
  simp only at hh h1 h2 h3 h4
  subst hh h1 h2 h3 h4
  rfl

include hT in
theorem convert_ok {s d : Nat} {vs : List A} {xs : List Value} {obs : List Obj} {out : Out} (hp : pConvert T s d nm obs vs = some out) (h : RW Γ I ρ r us w) (hnm' : out.al = true → usedN us nm = false) (hv : RL I ρ vs xs) (ho : looks r (idsOf vs) = some obs) (hc : allP out.c) :
    ∃ x, xs = [x] ∧ ∃ v w', (convert s d x).run P w = .ok v w' ∧ Done Γ I ρ r us nm out (.ok (.value v) w') := by
  unfold pConvert at hp
  split at hp
  · rename_i x
    obtain ⟨v, rfl, hx⟩ := hv.one_inv
    refine ⟨v, rfl, ?_⟩
    have ho' : looks r (idOf x) = some obs := by simpa [idsOf] using ho
    split at hp
    · cases hp
    · rename_i e hs
      have hus := Tab.slice hT hs
      split at hp
      · rename_i hd
        have hud := Tab.str hT hd
        split at hp
        · rename_i he
          have hue := Tab.int hT he
          split at hp
          · cases hp
          · rename_i hnstr
            split at hp
            · rename_i sz n g c hel
              cases e1 : Nat.beq sz 1 with
              | false => rw [e1] at hp; cases hp
              | true =>
                rw [e1] at hp
                simp only [cond_true, Option.some.injEq] at hp
                subst hp
                obtain rfl : sz = 1 := beqn e1
                obtain ⟨c1, c2⟩ := hc
                obtain ⟨cs, hR⟩ := elems0_ok (P := P) h hx ho' (o2 := []) (by rw [List.append_nil]; exact hel) c2
                obtain ⟨ns, rfl, k2⟩ := bytes_run hR.el c1
                obtain ⟨a, l, c0, rfl⟩ := elems0_slice hx hel (fun l hl => hnstr l hl)
                have hln : l = n := by
                  have := hR.len w
                  simpa [Builtin.lenOf] using this
                subst hln
                have hf := hR.first l (Nat.le_refl _) w rfl
                rw [List.take_of_length_le (by rw [hR.el.len]; exact Nat.le_refl _)] at hf
                refine ⟨.string ⟨(bytesOf l g).toArray⟩, w, ?_, .value h .str⟩
                rw [run_convert_bytes_string w s d e a l c0 hus hue hud]
                cases a with
                | none =>
                  simp only [Builtin.firstCells, Sem.run_pure, Result.ok.injEq, and_true] at hf
                  have : ns = [] := by
                    have := congrArg Array.toList hf
                    simpa using this.symm
                  subst this
                  rw [← k2]
                  rfl
                | some a =>
                  simp only [Builtin.firstCells, Nat.mul_one] at hf
                  rw [run_bytesToString w a l c0 ns hf, foldl_push_bytes, ← k2]
                  have : ByteArray.empty.data ++ (ns.map fun n => UInt8.ofNat n.toNat).toArray = (ns.map fun n => UInt8.ofNat n.toNat).toArray := by
                    have h0 : ByteArray.empty.data = #[] := rfl
                    rw [h0]
                    simp
                  rw [this]
            · cases hp
        · cases hp
      · cases hp
    · rename_i hne hns
      obtain ⟨us', hus, _⟩ := Tab.under hT rfl (fun he => hne he)
      split at hp
      · rename_i k0 n
        rw [hx.int_inv]
        split at hp
        · rename_i k hd
          have hud := Tab.int hT hd
          have hrun : (convert s d (.int k0 n)).run P w = .ok (.int k (k.wrap n)) w := by
            unfold convert
            simp only [Sem.run_bind, underlying, run_program, Result.andThen_ok, hus, hud, Sem.run_pure, Conv.intToInt]
          split at hp
          · simp only [Option.some.injEq] at hp
            subst hp
            rw [wrap_inr hc.1] at hrun
            exact ⟨_, _, hrun, .value h .int⟩
          · exact ⟨_, _, hrun, val_done h hp .int⟩
        · cases hp
      · rename_i l
        rw [hx.str_inv]
        split at hp
        · rename_i hd
          have hud := Tab.str hT hd
          refine ⟨_, _, ?_, val_done h hp .str⟩
          unfold convert
          simp only [Sem.run_bind, underlying, run_program, Result.andThen_ok, hus, hud, Sem.run_pure]
        · rename_i e hd
          have hud := Tab.slice hT hd
          split at hp
          · rename_i he
            have hue := Tab.int hT he
            simp only [Option.some.injEq] at hp
            subst hp
            have hrun := Lib.run_convert_string_bytes (P := P) w s d e ⟨l.toArray⟩ hus hud hue
            rw [bytesWorld_eq] at hrun
            have hsz : (ByteArray.mk l.toArray).size = l.length := by simp [ByteArray.size]
            rw [hsz] at hrun
            have hcap : l.length ≤ grownCap w l.length 0 e := by simp [grownCap, Question.cut]
            have hN : (Lib.bytesCells w e ⟨l.toArray⟩).size = grownCap w l.length 0 e := by
              simp [Lib.bytesCells, hsz]
              omega
            have hE : Elems I 1 l.length (byteAt l) (l.map fun b => .int .u8 b.toNat) := by
              have := (elems0_ok (P := P) (x := .str l) (o1 := []) (o2 := []) (se := 1) (sz := 1) (n := l.length) (g := byteAt l) (c := []) h (.str) rfl rfl trivial)
              refine ⟨by simp, fun i hi => by simp [byteAt, byte, A.wf, A.size, A.pureP], fun i hi => ?_, fun v hv => ?_⟩
              · have : ((l.map fun b => Value.int .u8 b.toNat).drop (i * 1)).take 1 = [.int .u8 (l[i].toNat)] := by
                  apply List.ext_getElem?
                  intro j
                  rw [slice_get]
                  cases j with
                  | zero => simp [hi]
                  | succ j => simp
                rw [this]
                simp only [byteAt, byte, List.getD_eq_getElem?_getD, List.getElem?_eq_getElem hi, Option.getD_some, A.cells]
                exact .cons .int .nil
              · simp only [List.mem_map] at hv
                obtain ⟨b, _, rfl⟩ := hv
                rfl
            have hcells : (Lib.bytesCells w e ⟨l.toArray⟩).toList = (l.map fun b => Value.int .u8 b.toNat) ++ List.replicate (grownCap w l.length 0 e - l.length) (.int .u8 0) := by
              simp [Lib.bytesCells, hsz]
            have hnm := hnm' rfl
            refine ⟨_, _, hrun, _, _, _, ρ.set nm (.blk w.heap.size (grownCap w l.length 0 e)), rfl, rfl, Ren.le_set (h.names nm hnm), h.drew.alloc hnm ⟨hN, ?_, ?_, fun v hv => ?_⟩, ?_⟩
            · intro o ho
              rw [hN]
              simp
              omega
            · rw [hcells]; exact hE.holds _
            · rw [hcells, List.mem_append] at hv
              rcases hv with hv | hv
              · exact hE.one v hv
              · rw [List.mem_replicate] at hv; rw [hv.2]; rfl
            · have := R.own (I := I) (ρ := ρ.set nm (.blk w.heap.size (grownCap w l.length 0 e))) (sz := 1) (id := nm) (off := 0) (n := l.length) (b := w.heap.size) (N := grownCap w l.length 0 e) (c := grownCap w l.length 0 e) (by simp [Ren.set]) hcap (by simp)
              simpa using this
          · cases hp
        · cases hp
      · cases hp
  · cases hp
end
end VX

/- VX 19: equality; the built-in functions; shifts. -/
namespace VX
open Go

section
variable {P : Program} {T : Tab} (hT : TabOK P T.l)
variable {Γ : Ctx} {I : Imm} {ρ : Ren} {r : List (Nat × Option Obj)} {us : List Nat} {w : World} {nm : Nat}

/-- 'for i in l': the first false one ends it. -/
theorem all_run {q : Nat → Sem Bool} {f : Nat → Bool} : ∀ (l : List Nat), (∀ i ∈ l, (q i).run P w = .ok (f i) w) →
    (forIn l ((none, ()) : Option Bool × Unit) fun i _ => do
      if (!(← q i)) = true then pure (ForInStep.done ((some false, ()) : Option Bool × Unit)) else do pure PUnit.unit; pure (ForInStep.yield ((none, ()) : Option Bool × Unit))).run P w =
      .ok (bif l.all f then (none, ()) else (some false, ())) w
  | [], _ => by simp
  | i :: l, h => by
    have hi := h i List.mem_cons_self
    have hl := all_run (q := q) (f := f) l fun j hj => h j (List.mem_cons_of_mem _ hj)
    simp only [List.forIn_cons, Sem.run_bind, hi, Result.andThen_ok, List.all_cons]
    by_cases hf : f i = true
    · simp only [hf, Bool.not_true, Bool.false_eq_true, if_false, Sem.run_bind, Sem.run_pure, Result.andThen_ok, Bool.true_and]
      simpa using hl
    · rw [Bool.not_eq_true] at hf
      simp [hf]

theorem vec_at {sz n : Nat} {g : Nat → A} {vs : List Value} (hw : (A.vec sz n g).wf) (h : RL I ρ (A.vec sz n g).cells vs) {i : Nat} (hi : i < n) : RL I ρ (g i).cells ((vs.drop (i * sz)).take sz) := by
  have hlen : ∀ j, j < n → ((fun i => (g i).cells) j).length = sz := fun j hj => by
    simp only []
    rw [A.length_cells _ (hw j hj).1, (hw j hj).2.1]
  obtain ⟨l, m, hf, hl, _⟩ := flat_split (f := fun i => (g i).cells) hlen hi
  simp only [A.cells] at h
  rw [hf] at h
  have := h.middle
  rw [hl, hlen i hi] at this
  exact this

include hT in
theorem eqA_ok : ∀ (n : Nat), (∀ (t : Nat) (x y : A) (b : Bool) (c : List Prop) (u v : Value) (m d : Nat), eqA T n t x y = some (b, c) → allP c → R I ρ x u → R I ρ y v → eqTypeOK P m t = true → n ≤ d →
      (Op.equalIn (d + 1) t u v).run P w = .ok b w) ∧
    (∀ (fs : List (Nat × Nat)) (ps qs : List A) (b : Bool) (c : List Prop) (us vs : List Value) (m d : Nat) (fl : List Field), eqFs T n fs ps qs = some (b, c) → allP c → A.wfL ps → A.wfL qs →
      RL I ρ (A.cellsL ps) us → RL I ρ (A.cellsL qs) vs → fl.map (fun f => (f.offset, f.type)) = fs → (fl.all fun f => f.name != "_" && eqTypeOK P m f.type) = true → n ≤ d →
      (Op.eqFields d us.toArray vs.toArray fl).run P w = .ok b w)
  | 0 => by
    refine ⟨fun t x y b c u v m d h => by simp [eqA] at h, fun fs ps qs b c us vs m d fl h hc hp hq hu hv hfl hok hd => ?_⟩
    cases fs with
    | nil =>
      simp only [eqFs, Option.some.injEq, Prod.mk.injEq] at h
      cases fl with
      | nil => simp [Op.eqFields, ← h.1]
      | cons => simp at hfl
    | cons => simp [eqFs] at h
  | n + 1 => by
    obtain ⟨ihA, ihF⟩ := eqA_ok n
    refine ⟨fun t x y b c u v m d h hc hu hv hok hd => ?_, fun fs => ?_⟩
    · unfold eqA at h
      split at h
      · rename_i k hk
        split at h
        · rename_i k1 a k2 b'
          cases hu.int_inv
          cases hv.int_inv
          cases e : Nat.beq (kIdx k1) (kIdx k2) with
          | false => rw [e] at h; cases h
          | true =>
            rw [e] at h
            simp only [cond_true, Option.some.injEq, Prod.mk.injEq] at h
            have hk12 := kIdx_inj (Nat.eq_of_beq_eq_true e)
            subst hk12
            rw [run_equalIn_int _ _ _ _ _ _ _ (Tab.int hT hk), ← h.1, beq_dec]
        · cases h
      · rename_i hk
        split at h
        · cases hu.bool_inv
          cases hv.bool_inv
          simp only [Option.some.injEq, Prod.mk.injEq] at h
          obtain ⟨uu, hun, hd'⟩ := Tab.under hT hk (by simp)
          have : P.underlying t = some .bool := by
            cases uu <;> simp [tdOf] at hd'
            exact hun
          rw [run_equalIn_bool' _ _ _ _ _ this, ← h.1]
        · cases h
      · rename_i hk
        split at h
        · cases hu.str_inv
          cases hv.str_inv
          simp only [Option.some.injEq, Prod.mk.injEq] at h
          rw [run_equalIn_string _ _ _ _ _ (Tab.str hT hk), ← h.1]
          rw [← beq_toListBytes]
          congr 1
          rename_i a b'
          show (a.toArray == b'.toArray) = decide (a = b')
          rw [beq_dec]
          simp
        · cases h
      · rename_i len e hk
        split at h
        · rename_i s1 m1 g s2 m2 g'
          split at h
          · rename_i k se _ _ _ hti
            cases e1 : Nat.beq se 1 && (Nat.beq s1 1 && (Nat.beq s2 1 && (Nat.beq len m1 && Nat.beq len m2))) with
            | false => rw [e1] at h; cases h
            | true =>
              rw [e1] at h
              simp only [cond_true, Option.some.injEq, Prod.mk.injEq] at h
              obtain ⟨h1, h2⟩ := andb e1
              obtain ⟨h2, h3⟩ := andb h2
              obtain ⟨h3, h4⟩ := andb h3
              obtain ⟨h4, h5⟩ := andb h4
              have h1 := beqn h1
              have h2 := beqn h2
              have h3 := beqn h3
              have h4 := beqn h4
              have h5 := beqn h5
              subst h1 h2 h3 h4 h5
              obtain ⟨hb, rfl⟩ := h
              obtain ⟨hint, _⟩ := hc
              obtain ⟨us, rfl, hwx, hrx⟩ := hu.agg_inv rfl
              obtain ⟨vs, rfl, hwy, hry⟩ := hv.agg_inv rfl
              obtain ⟨⟨ue, hue, hde⟩, ⟨i, hi, his, _, _⟩, _, _⟩ := hT e _ hti
              simp only at hde his
              have hui : P.underlying e = some (.int k) := by
                cases ue <;> simp [tdOf] at hde
                rw [hue, hde]
              have hul := hrx.length
              have hvl := hry.length
              rw [A.length_cells _ hwx] at hul
              rw [A.length_cells _ hwy] at hvl
              simp only [A.size, Nat.mul_one] at hul hvl
              simp only [Op.equalIn, Sem.run_bind, run_underlying (Tab.array hT hk), Result.andThen_ok, sizeOf_run hi, his, Std.Legacy.Range.forIn_eq_forIn_range', Std.Legacy.Range.size, Nat.sub_zero, Nat.add_sub_cancel, Nat.div_one]
              have key : ∀ j ∈ List.range' 0 len 1, ((do
                  let a ← part e us.toArray (j * 1)
                  let b ← part e vs.toArray (j * 1)
                  Op.equalIn d e a b) : Sem Bool).run P w = .ok (aeq (g j) (g' j)) w := fun j hj => by
                have hj : j < len := by simpa using (List.mem_range'_1.1 hj).2
                obtain ⟨⟨a, ha⟩, ⟨a', ha'⟩⟩ := hint j hj
                have e1 := vec_at hwx hrx hj
                have e2 := vec_at hwy hry hj
                rw [ha] at e1
                rw [ha'] at e2
                have hp1 := part_ok (P := P) (w := w) hue hi (vs := us) (o := j * 1) (y := .int k a) (by simp [A.wf]) (by simp [A.size, his]) (by rw [hde]; rfl) (by simpa [A.size] using e1) (by simp [A.size]; omega)
                have hp2 := part_ok (P := P) (w := w) hue hi (vs := vs) (o := j * 1) (y := .int k a') (by simp [A.wf]) (by simp [A.size, his]) (by rw [hde]; rfl) (by simpa [A.size] using e2) (by simp [A.size]; omega)
                obtain ⟨x1, hx1, hr1⟩ := hp1
                obtain ⟨x2, hx2, hr2⟩ := hp2
                cases hr1.int_inv
                cases hr2.int_inv
                obtain ⟨d', rfl⟩ : ∃ d', d = d' + 1 := ⟨d - 1, by omega⟩
                simp only [Sem.run_bind, hx1, hx2, Result.andThen_ok, run_equalIn_int _ _ _ _ _ _ _ hui, ha, ha', aeq, beq_dec]
              have hall := all_run (P := P) (w := w) _ key
              simp only [Sem.run_bind, bind_assoc, Sem.run_pure, Result.andThen_ok] at hall ⊢
              rw [List.range_eq_range'] at hb
              rw [hall, hb]
              cases b <;> simp
          · cases h
        · cases h
      · rename_i fs hk
        split at h
        · rename_i ps qs
          obtain ⟨us, rfl, hwx, hrx⟩ := hu.agg_inv rfl
          obtain ⟨vs, rfl, hwy, hry⟩ := hv.agg_inv rfl
          obtain ⟨fl, hun, hfl⟩ := Tab.struct hT hk
          have hfo : P.fieldsOf t = fl := by simp [Program.fieldsOf, hun]
          have hok' : P.stoodInHeld t = false ∧ ∃ m', (fl.toList.all fun f => f.name != "_" && eqTypeOK P m' f.type) = true := by
            cases m with
            | zero => simp [eqTypeOK] at hok
            | succ m =>
              simp only [eqTypeOK, hun, Bool.and_eq_true, Bool.not_eq_true'] at hok
              exact ⟨hok.1, m, hok.2⟩
          obtain ⟨hsi, m', hall⟩ := hok'
          rw [run_equalIn_struct w d t _ _ (by rw [hfo]; exact hun) hsi, hfo]
          exact ihF fs ps qs b c us vs m' d fl.toList h hc hwx hwy hrx hry hfl hall (by omega)
        · cases h
      · cases h
    · induction fs with
      | nil =>
        intro ps qs b c us vs m d fl h hc hp hq hu hv hfl hok hd
        simp only [eqFs, Option.some.injEq, Prod.mk.injEq] at h
        cases fl with
        | nil => simp [Op.eqFields, ← h.1]
        | cons => simp at hfl
      | cons f fs ih =>
        intro ps qs b c us vs m d fl h hc hp hq hu hv hfl hok hd
        obtain ⟨off, ft⟩ := f
        cases fl with
        | nil => simp at hfl
        | cons f fl =>
          simp only [List.map_cons, List.cons.injEq, Prod.mk.injEq] at hfl
          obtain ⟨⟨rfl, rfl⟩, hfl⟩ := hfl
          simp only [List.all_cons, Bool.and_eq_true] at hok
          obtain ⟨⟨hname, hft⟩, hok⟩ := hok
          unfold eqFs at h
          split at h
          · cases h
          · rename_i a ha
            split at h
            · cases h
            · rename_i a' ha'
              split at h
              · cases h
              · rename_i dd sz _ _ _ hti
                obtain ⟨⟨ue, hue, hde⟩, ⟨i, hi, his, _, _⟩, _, _⟩ := hT _ _ hti
                simp only at hde his
                cases e1 : Nat.beq a.size sz && Nat.beq a'.size sz with
                | false => rw [e1] at h; cases h
                | true =>
                  rw [e1] at h
                  simp only [cond_true] at h
                  split at h
                  · cases h
                  · rename_i r1 c1 hr1
                    split at h
                    · cases h
                    · rename_i r2 c2 hr2
                      simp only [Option.some.injEq, Prod.mk.injEq] at h
                      obtain ⟨hb, rfl⟩ := h
                      obtain ⟨ha1, ha2, hc⟩ := hc
                      obtain ⟨hc1, hc2⟩ := allP_append.1 hc
                      obtain ⟨e1, e2⟩ := andb e1
                      have e1 := beqn e1
                      have e2 := beqn e2
                      obtain ⟨l1, m1, hps, hl1, _⟩ := partL_ok ps _ a ha
                      obtain ⟨l2, m2, hqs, hl2, _⟩ := partL_ok qs _ a' ha'
                      have hwa := hp; have hwb := hq
                      rw [hps, wfL_append] at hwa
                      rw [hqs, wfL_append] at hwb
                      have hra := hu; have hrb := hv
                      rw [hps, cellsL_append, A.cellsL, ← List.append_assoc] at hra
                      rw [hqs, cellsL_append, A.cellsL, ← List.append_assoc] at hrb
                      have hla := hra.length
                      have hlb := hrb.length
                      have q1 := hra.middle
                      have q2 := hrb.middle
                      rw [A.length_cellsL _ hwa.1, hl1, A.length_cells _ hwa.2.1] at q1
                      rw [A.length_cellsL _ hwb.1, hl2, A.length_cells _ hwb.2.1] at q2
                      simp only [List.length_append, A.length_cellsL _ hwa.1, hl1, A.length_cells _ hwa.2.1] at hla
                      simp only [List.length_append, A.length_cellsL _ hwb.1, hl2, A.length_cells _ hwb.2.1] at hlb
                      obtain ⟨x1, hx1, hr1'⟩ := part_ok (P := P) (w := w) hue hi (vs := us) (o := f.offset) (y := a) hwa.2.1 (by omega) (by rw [ha1, hde]) q1 (by omega)
                      obtain ⟨x2, hx2, hr2'⟩ := part_ok (P := P) (w := w) hue hi (vs := vs) (o := f.offset) (y := a') hwb.2.1 (by omega) (by rw [ha2, hde]) q2 (by omega)
                      obtain ⟨d', rfl⟩ : ∃ d', d = d' + 1 := ⟨d - 1, by omega⟩
                      have q := ihA _ _ _ _ _ _ _ m d' hr1 hc1 hr1' hr2' hft (by omega)
                      have hn : f.name ≠ "_" := by simpa using hname
                      simp only [Op.eqFields, if_pos hn, Sem.run_bind, hx1, hx2, q, Result.andThen_ok]
                      cases r1 with
                      | false =>
                        simp only [Bool.not_false, if_true, Sem.run_pure, ← hb, Bool.false_and]
                      | true =>
                        simp only [Bool.not_true, Bool.false_eq_true, if_false]
                        rw [ih ps qs r2 c2 us vs m (d' + 1) fl hr2 hc2 hp hq hu hv hfl hok hd, ← hb, Bool.true_and]
end
end VX

/- VX 20: every operation that calls no Go function. -/
namespace VX
open Go

section
variable {P : Program} {T : Tab} (hT : TabOK P T.l)
variable {Γ : Ctx} {I : Imm} {ρ : Ren} {r : List (Nat × Option Obj)} {us : List Nat} {w : World} {nm : Nat}

theorem eqGuard_ok {op : BinOp} {t : Nat} {x y : Operand} {a b : Value} (h1 : ∀ us vs, a = .agg us → b = .agg vs → P.eqGuardType P.depth t = false) (h2 : a ≠ .nilIface) : (eqGuard op t x y a b).run P w = .ok () w := by
  cases op <;> (try rfl) <;> cases a <;> (try rfl) <;> (try exact absurd rfl h2) <;> cases b <;> (try rfl)
  · exact run_eqGuard_agg w .eql t x y _ _ (h1 _ _ rfl rfl)
  · exact run_eqGuard_agg w .neq t x y _ _ (h1 _ _ rfl rfl)

/-- Equality as the program has it. -/
theorem binOp_equal {op : BinOp} {t : Nat} {u v : Value} {b : Bool} (hu : (∀ k n, u ≠ .int k n) ∧ (∀ s, u ≠ .string s) ∧ (∀ k n, u ≠ .float k n) ∧ (∀ k n m, u ≠ .complex k n m)) (he : (Op.equal t u v).run P w = .ok b w) :
    (op = .eql → (Go.binOp op t u v).run P w = .ok (.bool b) w) ∧ (op = .neq → (Go.binOp op t u v).run P w = .ok (.bool !b) w) := by
  obtain ⟨h1, h2, h3, h4⟩ := hu
  constructor
  · rintro rfl
    unfold Go.binOp
    split <;> (try (rename_i e _ _; cases e; done)) <;> (try (rename_i e _; cases e; done)) <;> (try (rename_i e; cases e; done)) <;> (try exact absurd rfl (h1 _ _)) <;> (try exact absurd rfl (h2 _)) <;> (try exact absurd rfl (h3 _ _)) <;> (try exact absurd rfl (h4 _ _ _))
    all_goals simp_all [Sem.run_bind]
  · rintro rfl
    unfold Go.binOp
    split <;> (try (rename_i e _ _; cases e; done)) <;> (try (rename_i e _; cases e; done)) <;> (try (rename_i e; cases e; done)) <;> (try exact absurd rfl (h1 _ _)) <;> (try exact absurd rfl (h2 _)) <;> (try exact absurd rfl (h3 _ _)) <;> (try exact absurd rfl (h4 _ _ _))
    all_goals simp_all [Sem.run_bind]

theorem eqRes_ok {op : BinOp} {t : Nat} {u v : Value} {q : Option (Bool × List Prop)} {out : Out} (hp : eqRes op q = some out) (hc : allP out.c) (hu : (∀ k n, u ≠ .int k n) ∧ (∀ s, u ≠ .string s) ∧ (∀ k n, u ≠ .float k n) ∧ (∀ k n m, u ≠ .complex k n m))
    (he : ∀ b c, q = some (b, c) → allP c → (Op.equal t u v).run P w = .ok b w) (h : RW Γ I ρ r us w) :
    ∃ z, (Go.binOp op t u v).run P w = .ok z w ∧ Done Γ I ρ r us nm out (.ok (.value z) w) := by
  unfold eqRes at hp
  split at hp
  · rename_i b c
    split at hp
    · cases hp
      have := he b _ rfl hc
      exact ⟨_, (binOp_equal hu this).1 rfl, .value h .bool⟩
    · cases hp
      have := he b _ rfl hc
      exact ⟨_, (binOp_equal hu this).2 rfl, .value h .bool⟩
    · cases hp
  · cases hp

theorem eqlNil_run {op : BinOp} {t : Nat} {u v : Value} {b : Bool} {out : Out} (hp : eqlNil op b = some out) (hu : (∀ k n, u ≠ .int k n) ∧ (∀ s, u ≠ .string s) ∧ (∀ k n, u ≠ .float k n) ∧ (∀ k n m, u ≠ .complex k n m))
    (he : (Op.equal t u v).run P w = .ok b w) (h : RW Γ I ρ r us w) :
    ∃ z, (Go.binOp op t u v).run P w = .ok z w ∧ Done Γ I ρ r us nm out (.ok (.value z) w) := by
  rcases eqlNil_ok (nm := nm) hp h with ⟨e, h⟩ | ⟨e, h⟩
  · exact ⟨_, (binOp_equal hu he).1 e, h⟩
  · exact ⟨_, (binOp_equal hu he).2 e, h⟩

theorem eq_ptr_ (d : Nat) {t e : Nat} (hu : P.underlying t = some (.pointer e)) (b : Option Addr) : (Op.equalIn (d + 1) t (.pointer none) (.pointer b)).run P w = .ok b.isNone w := by
  simp only [Op.equalIn, Sem.run_bind, run_underlying hu, Result.andThen_ok, Sem.run_pure]
theorem eq_ptr {t e : Nat} (hu : P.underlying t = some (.pointer e)) (b : Option Addr) : (Op.equal t (.pointer none) (.pointer b)).run P w = .ok b.isNone w :=
  eq_ptr_ 9999 hu b
theorem eq_ptr'_ (d : Nat) {t e : Nat} (hu : P.underlying t = some (.pointer e)) (b : Addr) : (Op.equalIn (d + 1) t (.pointer (some b)) (.pointer none)).run P w = .ok false w := by
  simp only [Op.equalIn, Sem.run_bind, run_underlying hu, Result.andThen_ok, Sem.run_pure]
theorem eq_ptr' {t e : Nat} (hu : P.underlying t = some (.pointer e)) (b : Addr) : (Op.equal t (.pointer (some b)) (.pointer none)).run P w = .ok false w :=
  eq_ptr'_ 9999 hu b
theorem eq_slice_ (d : Nat) {t e : Nat} (hu : P.underlying t = some (.slice e)) (b : Option Addr) (n m k l : Nat) : (Op.equalIn (d + 1) t (.slice none n m) (.slice b k l)).run P w = .ok b.isNone w := by
  simp only [Op.equalIn, Sem.run_bind, run_underlying hu, Result.andThen_ok, Sem.run_pure]
theorem eq_slice {t e : Nat} (hu : P.underlying t = some (.slice e)) (b : Option Addr) (n m k l : Nat) : (Op.equal t (.slice none n m) (.slice b k l)).run P w = .ok b.isNone w :=
  eq_slice_ 9999 hu b n m k l
theorem eq_func_ (d : Nat) {t : Nat} {a b c} (hu : P.underlying t = some (.func a b c)) : (Op.equalIn (d + 1) t .nilFunc .nilFunc).run P w = .ok true w := by
  simp only [Op.equalIn, Sem.run_bind, run_underlying hu, Result.andThen_ok, Sem.run_pure]
theorem eq_func {t : Nat} {a b c} (hu : P.underlying t = some (.func a b c)) : (Op.equal t .nilFunc .nilFunc).run P w = .ok true w :=
  eq_func_ 9999 hu
theorem eq_func1_ (d : Nat) {t : Nat} {a b c} (hu : P.underlying t = some (.func a b c)) (f : Fn) (x y : Array Value) : (Op.equalIn (d + 1) t .nilFunc (.func f x y)).run P w = .ok false w := by
  simp only [Op.equalIn, Sem.run_bind, run_underlying hu, Result.andThen_ok, Sem.run_pure]
theorem eq_func1 {t : Nat} {a b c} (hu : P.underlying t = some (.func a b c)) (f : Fn) (x y : Array Value) : (Op.equal t .nilFunc (.func f x y)).run P w = .ok false w :=
  eq_func1_ 9999 hu f x y
theorem eq_func2_ (d : Nat) {t : Nat} {a b c} (hu : P.underlying t = some (.func a b c)) (f : Fn) (x y : Array Value) : (Op.equalIn (d + 1) t (.func f x y) .nilFunc).run P w = .ok false w := by
  simp only [Op.equalIn, Sem.run_bind, run_underlying hu, Result.andThen_ok, Sem.run_pure]
theorem eq_func2 {t : Nat} {a b c} (hu : P.underlying t = some (.func a b c)) (f : Fn) (x y : Array Value) : (Op.equal t (.func f x y) .nilFunc).run P w = .ok false w :=
  eq_func2_ 9999 hu f x y

include hT in
theorem Tab.pointer {t e : Nat} (h : T.d t = .pointer e) : P.underlying t = some (.pointer e) := by
  obtain ⟨u, hu, hd⟩ := Tab.under hT h (by simp)
  cases u <;> simp [tdOf] at hd
  rw [hu, hd]

theorem Tab.eqok_of {t : Nat} (h : T.eqok t = true) : ∃ ti, nth T.l t = some ti ∧ ti.eqok = true := by
  unfold Tab.eqok at h
  split at h
  · rename_i i hi; exact ⟨i, hi, h⟩
  · cases h

include hT in
theorem eqV_ok {op : BinOp} {t : Nat} {x y : A} {u v : Value} {out : Out} (hp : eqV T op t x y = some out) (h : RW Γ I ρ r us w) (hx : R I ρ x u) (hy : R I ρ y v) (hc : allP out.c) {a b : Operand} :
    (eqGuard op t a b u v).run P w = .ok () w ∧ ∃ z, (Go.binOp op t u v).run P w = .ok z w ∧ Done Γ I ρ r us nm out (.ok (.value z) w) := by
  have agg : isAgg x = true → T.eqok t = true → eqRes op (eqA T 8 t x y) = some out → (eqGuard op t a b u v).run P w = .ok () w ∧ ∃ z, (Go.binOp op t u v).run P w = .ok z w ∧ Done Γ I ρ r us nm out (.ok (.value z) w) := fun hx' hq hp => by
    obtain ⟨us', rfl, _, _⟩ := hx.agg_inv hx'
    obtain ⟨ti, hti, hq⟩ := Tab.eqok_of hq
    obtain ⟨g1, g2⟩ := (hT t ti hti).eq hq
    refine ⟨eqGuard_ok (fun _ _ _ _ => g1) (by simp), eqRes_ok hp hc (by simp) (fun b' c' hb hc' => ?_) h⟩
    exact (eqA_ok hT 8).1 t x y b' c' _ v 10 9999 hb hc' hx hy g2 (by decide)
  unfold eqV at hp
  split at hp
  · cases e : T.eqok t with
    | false => rw [e] at hp; cases hp
    | true => rw [e] at hp; exact agg rfl e hp
  · cases e : T.eqok t with
    | false => rw [e] at hp; cases hp
    | true => rw [e] at hp; exact agg rfl e hp
  · cases hx.nilp_inv
    refine ⟨eqGuard_ok (by simp) (by simp), ?_⟩
    split at hp
    · rename_i e he
      have hu := Tab.pointer hT he
      split at hp
      · cases hy.nilp_inv
        exact eqlNil_run hp (by simp) (eq_ptr hu none) h
      · obtain ⟨_, _, rfl, _⟩ := hy.ptr_inv
        exact eqlNil_run hp (by simp) (eq_ptr hu _) h
      · obtain ⟨_, _, rfl, _⟩ := hy.rop_inv
        exact eqlNil_run hp (by simp) (eq_ptr hu _) h
      · cases hp
    · cases hp
  · obtain ⟨_, _, rfl, _⟩ := hx.ptr_inv
    refine ⟨eqGuard_ok (by simp) (by simp), ?_⟩
    split at hp
    · rename_i e he
      have hu := Tab.pointer hT he
      split at hp
      · cases hy.nilp_inv
        exact eqlNil_run hp (by simp) (eq_ptr' hu _) h
      · cases hp
    · cases hp
  · obtain ⟨_, _, rfl, _⟩ := hx.rop_inv
    refine ⟨eqGuard_ok (by simp) (by simp), ?_⟩
    split at hp
    · rename_i e he
      have hu := Tab.pointer hT he
      split at hp
      · cases hy.nilp_inv
        exact eqlNil_run hp (by simp) (eq_ptr' hu _) h
      · cases hp
    · cases hp
  · cases hx.nils_inv
    refine ⟨eqGuard_ok (by simp) (by simp), ?_⟩
    split at hp
    · rename_i e he
      have hu := Tab.slice hT he
      split at hp
      · cases hy.nils_inv
        exact eqlNil_run hp (by simp) (eq_slice hu none _ _ _ _) h
      · cases hp
    · cases hp
  · cases hx.nilf_inv
    refine ⟨eqGuard_ok (by simp) (by simp), ?_⟩
    split at hp
    · rename_i he
      obtain ⟨uu, hu, hd⟩ := Tab.under hT he (by simp)
      split at hp
      · cases hy.nilf_inv
        cases uu <;> simp [tdOf] at hd
        exact eqlNil_run hp (by simp) (eq_func hu) h
      · obtain ⟨_, _, rfl, _⟩ := hy.func_inv
        cases uu <;> simp [tdOf] at hd
        exact eqlNil_run hp (by simp) (eq_func1 hu _ _ _) h
      · cases hp
    · cases hp
  · obtain ⟨_, _, rfl, _⟩ := hx.func_inv
    refine ⟨eqGuard_ok (by simp) (by simp), ?_⟩
    split at hp
    · rename_i he
      obtain ⟨uu, hu, hd⟩ := Tab.under hT he (by simp)
      split at hp
      · cases hy.nilf_inv
        cases uu <;> simp [tdOf] at hd
        exact eqlNil_run hp (by simp) (eq_func2 hu _ _ _) h
      · cases hp
    · cases hp
  · cases hp

include hT in
theorem binOp_ok {op : BinOp} {t : Nat} {x y : A} {u v : Value} {out : Out} (hp : binOp T op t x y = some out) (h : RW Γ I ρ r us w) (hx : R I ρ x u) (hy : R I ρ y v) (hc : allP out.c) {a b : Operand} :
    (eqGuard op t a b u v).run P w = .ok () w ∧ ∃ z, (Go.binOp op t u v).run P w = .ok z w ∧ Done Γ I ρ r us nm out (.ok (.value z) w) := by
  unfold binOp at hp
  split at hp
  · rename_i k a' k' b'
    cases hx.int_inv
    cases hy.int_inv
    refine ⟨eqGuard_ok (by simp) (by simp), ?_⟩
    split at hp
    · simp only [Option.some.injEq] at hp
      subst hp
      have h0 : 0 ≤ b' := hc.1
      exact ⟨.int k (shlI k a' b'), by simp only [binOp_shl, Op.shift, if_neg (Int.not_lt.2 h0), Sem.run_pure]; rfl, .value h .int⟩
    · simp only [Option.some.injEq] at hp
      subst hp
      have h0 : 0 ≤ b' := hc.1
      exact ⟨.int k (shrI k a' b'), by simp only [binOp_shr, Op.shift, if_neg (Int.not_lt.2 h0), Sem.run_pure]; rfl, .value h .int⟩
    · rename_i n1 n2
      cases e : Nat.beq (kIdx k) (kIdx k') with
      | false => rw [e] at hp; cases hp
      | true =>
        rw [e] at hp
        have := kIdx_inj (Nat.eq_of_beq_eq_true e)
        subst this
        exact binInt_ok ⟨n1, n2⟩ hp hc h
  · cases hx.str_inv
    cases hy.str_inv
    exact ⟨eqGuard_ok (by simp) (by simp), binStr_ok hp hc h⟩
  · rename_i a' b'
    cases hx.bool_inv
    cases hy.bool_inv
    refine ⟨eqGuard_ok (by simp) (by simp), ?_⟩
    split at hp
    · rename_i he
      obtain ⟨uu, hu, hd⟩ := Tab.under hT he (by simp)
      cases uu <;> simp [tdOf] at hd
      have heq : (Op.equal t (.bool a') (.bool b')).run P w = .ok (a' == b') w := run_equalIn_bool' w 9999 t a' b' hu
      unfold binBool at hp
      split at hp
      · exact ⟨_, (binOp_equal (by simp) heq).1 rfl, val_done h hp .bool⟩
      · exact ⟨_, (binOp_equal (by simp) heq).2 rfl, val_done h hp .bool⟩
      · cases hp
    · cases hp
  · cases hp

theorem pBinOp_ok {op : BinOp} {t : Nat} {vs : List A} {xs : List Value} {out : Out} (hT : TabOK P T.l) (hp : pBinOp T op t vs = some out) (h : RW Γ I ρ r us w) (hv : RL I ρ vs xs) (hc : allP out.c) {a b : Operand} :
    ∃ u v, xs = [u, v] ∧ (eqGuard op t a b u v).run P w = .ok () w ∧ ∃ z, (Go.binOp op t u v).run P w = .ok z w ∧ Done Γ I ρ r us nm out (.ok (.value z) w) := by
  unfold pBinOp at hp
  split at hp
  · obtain ⟨u, v, rfl, hx, hy⟩ := hv.two_inv
    refine ⟨u, v, rfl, ?_⟩
    split at hp
    · rename_i o ho
      cases hp
      exact binOp_ok hT ho h hx hy hc
    · exact eqV_ok hT hp h hx hy hc
  · cases hp

theorem R.len {x : A} {v : Value} (hx : R I ρ x v) (hs : ∀ l, x ≠ .str l) {n : Nat} (h : lenA x = some n) : ∃ a c, v = .slice a n c := by
  unfold lenA at h
  split at h <;> (try cases h) <;> (try cases hx.nils_inv) <;> (try exact ⟨_, _, rfl⟩)
  · cases hx <;> (try (rename_i e _ _; cases e; done)) <;> exact ⟨_, _, rfl⟩
  · cases hx <;> (try (rename_i e _ _; cases e; done)) <;> exact ⟨_, _, rfl⟩
  · cases hx <;> (try (rename_i e _ _; cases e; done)) <;> exact ⟨_, _, rfl⟩
  · cases hx <;> (try (rename_i e _ _; cases e; done)) <;> exact ⟨_, _, rfl⟩
  · cases hx <;> (try (rename_i e _ _; cases e; done)) <;> exact ⟨_, _, rfl⟩
  · exact absurd rfl (hs _)

theorem appendV_al {se be : Nat} {z s x : A} {obs : List Obj} {out : Out} (h : appendV se be z s x obs nm = some out) : out.al = true := by
  unfold appendV at h
  split at h <;> (try (cases h; done))
  · split at h <;> (try (cases h; done))
    split at h <;> (try (cases h; done))
    rename_i sz' _ _ _ _ _ _
    generalize (Nat.beq _ se && _) = q at h
    cases q <;> cases h
    rfl
  · split at h <;> (try (cases h; done))
    generalize (Nat.beq _ se && _) = q at h
    cases q <;> cases h
    rfl
  · split at h <;> (try (cases h; done))
    generalize (Nat.beq _ se && _) = q at h
    cases q <;> cases h
    rfl
  · split at h <;> (try (cases h; done))
    split at h <;> (try (cases h; done))
    generalize (Nat.beq _ se && _) = q at h
    cases q <;> cases h
    rfl

theorem arr_of_list {α : Type} {a : Array α} {l : List α} (h : a.toList = l) : a = l.toArray := by
  rw [← h]

include hT in
theorem builtin_ok {b : Builtin} {ts : Array TypeId} {ty : TypeId} {cs : Array Bool} {vs : List A} {xs : List Value} {obs : List Obj} {out : Out} (hp : primBuiltin T b ts.toList vs obs nm = some out) (h : RW Γ I ρ r us w)
    (hnm : out.al = true → usedN us nm = false) (hv : RL I ρ vs xs) (ho : looks r (idsOf vs) = some obs) (hc : allP out.c) :
    Done Γ I ρ r us nm out ((Go.builtin b ts ty cs xs.toArray).run P w) := by
  unfold primBuiltin at hp
  split at hp
  · rename_i _ _ t x hts
    obtain ⟨v, rfl, hx⟩ := hv.one_inv
    have hts' : ts = #[t] := by
      have := congrArg List.toArray hts
      simpa using this
    subst hts'
    simp only [Go.builtin]
    split at hp
    · rename_i n e hd
      rw [val_inv hp]
      simp only [Builtin.len_, Sem.run_bind, run_underlying (Tab.array hT hd)]
      simp only [List.getElem?_toArray, List.getElem?_cons_zero, Sem.run_bind, run_underlying (Tab.array hT hd), Result.andThen_ok, Sem.run_pure]
      exact .value h .int
    · rename_i e hd
      split at hp
      · cases hp
      · rename_i hns
        split at hp
        · rename_i n hn
          rw [val_inv hp]
          obtain ⟨a, c, rfl⟩ := hx.len hns hn
          simp only [Builtin.len_, List.getElem?_toArray, List.getElem?_cons_zero, Sem.run_bind, run_underlying (Tab.slice hT hd), Result.andThen_ok, Sem.run_pure]
          exact .value h .int
        · cases hp
    · rename_i hd
      split at hp
      · rename_i l
        rw [val_inv hp]
        cases hx.str_inv
        simp only [Builtin.len_, List.getElem?_toArray, List.getElem?_cons_zero, Sem.run_bind, run_underlying (Tab.str hT hd), Result.andThen_ok, Sem.run_pure]
        exact .value h (by simpa [goInt, ByteArray.size] using R.int)
      · cases hp
    · cases hp
  · rename_i t xt s x hts
    obtain ⟨u, v, rfl, hs, hx⟩ := hv.two_inv
    cases arr_of_list hts
    split at hp
    · rename_i e hd
      split at hp
      · rename_i se be z q hti
        have ho' : looks r (idOf s ++ idOf x) = some obs := by simpa [idsOf] using ho
        split at hp
        · rename_i e' hxt
          obtain ⟨y, w', hrun, hdone⟩ := append_ok (ty := ty) hT hd hti (.inl ⟨e', Tab.slice hT hxt⟩) hp hc h (hnm (appendV_al hp)) hs hx ho'
          simp only [Go.builtin, Sem.run_bind]
          have : [u, v].toArray = #[u, v] := rfl
          have h2 : [t, xt].toArray = #[t, xt] := rfl
          rw [this, h2, hrun]
          simpa [Sem.run_bind] using hdone
        · rename_i hxt
          split at hp
          · obtain ⟨y, w', hrun, hdone⟩ := append_ok (ty := ty) hT hd hti (.inr (Tab.str hT hxt)) hp hc h (hnm (appendV_al hp)) hs hx ho'
            simp only [Go.builtin, Sem.run_bind]
            have : [u, v].toArray = #[u, v] := rfl
            have h2 : [t, xt].toArray = #[t, xt] := rfl
            rw [this, h2, hrun]
            simpa [Sem.run_bind] using hdone
          · cases hp
        · cases hp
      · cases hp
    · cases hp
  · obtain ⟨u, v, rfl, hs, hx⟩ := hv.two_inv
    cases hs.int_inv
    cases hx.int_inv
    rw [val_inv hp]
    have := run_max_int2 (P := P) w ts ty
    simp only [Go.builtin, Sem.run_bind]
    rw [show [Value.int _ _, Value.int _ _].toArray = #[Value.int _ _, Value.int _ _] from rfl, this]
    simp only [Result.andThen_ok, Sem.run_pure]
    exact .value h .int
  · obtain ⟨u, v, rfl, hs, hx⟩ := hv.two_inv
    cases hs.int_inv
    cases hx.int_inv
    rw [val_inv hp]
    have := run_min_int2 (P := P) w ts ty
    simp only [Go.builtin, Sem.run_bind]
    rw [show [Value.int _ _, Value.int _ _].toArray = #[Value.int _ _, Value.int _ _] from rfl, this]
    simp only [Result.andThen_ok, Sem.run_pure]
    exact .value h .int
  · cases hp
end
end VX

/- VX 21: every operation that calls no Go function. -/
namespace VX
open Go

section
variable {P : Program} {T : Tab} (hT : TabOK P T.l)
variable {Γ : Ctx} {I : Imm} {ρ : Ren} {r : List (Nat × Option Obj)} {us : List Nat} {w : World} {nm : Nat}

theorem run_value {s : Sem Value} {v : Value} {w' : World} (h : s.run P w = .ok v w') : ((do pure (Next.value (← s))) : Sem Next).run P w = .ok (.value v) w' := by
  simp [Sem.run_bind, h]

include hT in
theorem prim_ok {o : Oper} {e : Operand → Value} {vs : List A} {obs : List Obj} {out : Out} (hp : prim T o.op vs obs nm = some out) (h : RW Γ I ρ r us w)
    (hnm : out.al = true → usedN us nm = false) (hv : RL I ρ vs ((opnds o.op).map e)) (ho : looks r (idsOf vs) = some obs) (hc : allP out.c) :
    Done Γ I ρ r us nm out ((execOp e o).run P w) := by
  obtain ⟨dst, op, ty, pos, aft, gd⟩ := o
  simp only at hp hv
  unfold prim at hp
  split at hp
  · -- move
    obtain ⟨x, hx, hd⟩ := move_ok (nm := nm) hp h hv
    simp only [opnds, List.map_cons, List.map_nil, List.cons.injEq, and_true] at hx
    simp only [execOp, Sem.run_pure, hx]
    exact hd
  · obtain ⟨x, hx, hd⟩ := move_ok (nm := nm) hp h hv
    simp only [opnds, List.map_cons, List.map_nil, List.cons.injEq, and_true] at hx
    simp only [execOp, Sem.run_pure, hx]
    exact hd
  · -- pick
    obtain ⟨b, x, y, hx, hd⟩ := pick_ok (nm := nm) hp h hv
    simp only [opnds, List.map_cons, List.map_nil, List.cons.injEq, and_true] at hx
    obtain ⟨h1, h2, h3⟩ := hx
    simp only [execOp, Sem.run_bind, asBool, h1, h2, h3, Sem.run_pure, Result.andThen_ok]
    exact hd
  · obtain ⟨v, w', hr, hd⟩ := alloc_ok (P := P) hT hp h (hnm (by unfold pAlloc at hp; split at hp <;> cases hp; rfl)) hc
    simp only [execOp]
    rw [run_value hr]
    exact hd
  · obtain ⟨x, hx, v, w', hr, hd⟩ := box_ok (P := P) hp h hv (hnm (by unfold pBox at hp; split at hp <;> (try (cases hp; done)); split at hp <;> cases hp; rfl)) hc
    simp only [opnds, List.map_cons, List.map_nil, List.cons.injEq, and_true] at hx
    simp only [execOp, hx]
    rw [run_value hr]
    exact hd
  · rename_i t ps
    obtain ⟨v, hr, hd⟩ := build_ok (P := P) (e := e) (nm := nm) hT hp h (by simpa [opnds, Function.comp_def] using hv) hc
    simp only [execOp]
    rw [run_value hr]
    exact hd
  · rename_i t n ps
    obtain ⟨v, w', hr, hd⟩ := buildSlice_ok (P := P) (e := e) (nm := nm) hT hp h (hnm (by
      unfold pBuildSlice at hp
      split at hp <;> (try (cases hp; done))
      split at hp <;> (try (cases hp; done))
      generalize (sizesOk _ _ && _) = q at hp
      cases q <;> cases hp
      rfl)) (by simpa [opnds, Function.comp_def] using hv) hc
    simp only [execOp]
    rw [run_value hr]
    exact hd
  · obtain ⟨x, hx, v, hr, hd⟩ := load_ok (P := P) (nm := nm) hT hp h hv ho hc
    simp only [opnds, List.map_cons, List.map_nil, List.cons.injEq, and_true] at hx
    simp only [execOp, hx]
    rw [run_value hr]
    exact hd
  · obtain ⟨x, y, hx, w', hr, hd⟩ := store_ok (P := P) (nm := nm) hT hp h hv ho hc
    simp only [opnds, List.map_cons, List.map_nil, List.cons.injEq, and_true] at hx
    simp only [execOp, hx, Sem.run_bind, hr, Result.andThen_ok, Sem.run_pure]
    exact hd
  · obtain ⟨a, hx, hd⟩ := nilCheck_ok (nm := nm) hp h hv
    simp only [opnds, List.map_cons, List.map_nil, List.cons.injEq, and_true] at hx
    simp only [execOp, hx, Sem.run_pure]
    exact hd
  · rename_i op t x y _
    obtain ⟨u, v, hx, hg, z, hr, hd⟩ := pBinOp_ok (P := P) (nm := nm) hT hp h hv hc (a := x) (b := y)
    simp only [opnds, List.map_cons, List.map_nil, List.cons.injEq, and_true] at hx
    simp only [execOp, hx, Sem.run_bind, hg, hr, Result.andThen_ok, Sem.run_pure]
    exact hd
  · obtain ⟨x, hx, v, hr, hd⟩ := unOp_ok (P := P) (nm := nm) hp h hv hc
    simp only [opnds, List.map_cons, List.map_nil, List.cons.injEq, and_true] at hx
    simp only [execOp, hx]
    rw [run_value hr]
    exact hd
  · obtain ⟨x, hx, v, w', hr, hd⟩ := convert_ok (P := P) (nm := nm) hT hp h hnm hv ho hc
    simp only [opnds, List.map_cons, List.map_nil, List.cons.injEq, and_true] at hx
    simp only [execOp, hx]
    rw [run_value hr]
    exact hd
  · obtain ⟨x, hx, v, hr, hd⟩ := makeInterface_ok (P := P) (nm := nm) hT hp h hv
    simp only [opnds, List.map_cons, List.map_nil, List.cons.injEq, and_true] at hx
    simp only [execOp, hx]
    rw [run_value hr]
    exact hd
  · rename_i fn first captured
    rw [val_inv hp]
    simp only [opnds, List.map_append] at hv
    have hlen : (List.take first.size vs).length = first.size := by
      have := hv.length
      simp only [List.length_append, List.length_map, Array.length_toList] at this
      simp
      omega
    have hv' := hv
    rw [← List.take_append_drop first.size vs] at hv'
    obtain ⟨k1, k2⟩ := hv'.split
    rw [hlen] at k1 k2
    have e1 : (List.map e first.toList ++ List.map e captured.toList).take first.size = List.map e first.toList := by
      rw [List.take_append_of_le_length (by simp)]
      exact List.take_of_length_le (by simp)
    have e2 : (List.map e first.toList ++ List.map e captured.toList).drop first.size = List.map e captured.toList := by
      rw [List.drop_append_of_le_length (by simp), List.drop_of_length_le (by simp)]
      rfl
    rw [e1] at k1
    rw [e2] at k2
    simp only [execOp, Instr.makeFunc, Sem.run_bind, Sem.run_pure, Result.andThen_ok]
    refine .value h ?_
    have := R.func (fn := fn) k1 k2
    rw [← Array.toList_map, ← Array.toList_map] at this
    simpa only [Array.toArray_toList] using this
  · obtain ⟨x, y, hx, v, w', hr, hd⟩ := makeSlice_ok (P := P) (nm := nm) hT hp h hv (hnm (by
      unfold pMakeSlice at hp
      split at hp <;> (try (cases hp; done))
      split at hp <;> (try (cases hp; done))
      split at hp <;> cases hp
      rfl)) hc
    simp only [opnds, List.map_cons, List.map_nil, List.cons.injEq, and_true] at hx
    simp only [execOp, hx]
    rw [run_value hr]
    exact hd
  · rename_i t x lo hi mx
    obtain ⟨v, hr, hd⟩ := slice_ok (P := P) (nm := nm) hT hp h hv ho hc (x0 := x) rfl
    simp only [execOp]
    rw [run_value hr]
    exact hd
  · obtain ⟨x, hx, v, hr, hd⟩ := fieldAddr_ok (P := P) (nm := nm) hT hp h hv
    simp only [opnds, List.map_cons, List.map_nil, List.cons.injEq, and_true] at hx
    simp only [execOp, hx]
    rw [run_value hr]
    exact hd
  · obtain ⟨x, hx, v, hr, hd⟩ := field_ok (P := P) (nm := nm) hT hp h hv hc
    simp only [opnds, List.map_cons, List.map_nil, List.cons.injEq, and_true] at hx
    simp only [execOp, hx]
    rw [run_value hr]
    exact hd
  · obtain ⟨x, y, hx, v, hr, hd⟩ := indexAddr_ok (P := P) (nm := nm) hT hp h hv hc
    simp only [opnds, List.map_cons, List.map_nil, List.cons.injEq, and_true] at hx
    simp only [execOp, hx]
    rw [run_value hr]
    exact hd
  · obtain ⟨x, y, hx, v, hr, hd⟩ := index_ok (P := P) (nm := nm) hT hp h hv hc
    simp only [opnds, List.map_cons, List.map_nil, List.cons.injEq, and_true] at hx
    simp only [execOp, hx]
    rw [run_value hr]
    exact hd
  · obtain ⟨x, hx, v, hr, hd⟩ := extract_ok (P := P) (nm := nm) hp h hv
    simp only [opnds, List.map_cons, List.map_nil, List.cons.injEq, and_true] at hx
    simp only [execOp, hx]
    rw [run_value hr]
    exact hd
  · obtain ⟨x, hx, v, hr, hd⟩ := typeAssert_ok (P := P) (nm := nm) hT hp h hv
    simp only [opnds, List.map_cons, List.map_nil, List.cons.injEq, and_true] at hx
    simp only [execOp, hx]
    rw [run_value hr]
    exact hd
  · rename_i c
    obtain ⟨callee, args, ats⟩ := c
    unfold pCall at hp
    simp only at hp
    split at hp
    · rename_i b
      simp only [opnds, List.nil_append] at hv
      have := builtin_ok (P := P) (nm := nm) (ty := ty) (cs := args.map fun | .const _ => true | _ => false) hT hp h hnm hv ho hc
      simp only [execOp, resolve, Sem.run_bind, Sem.run_pure, Result.andThen_ok, invoke]
      have ea : args.map e = (args.toList.map e).toArray := by rw [← Array.toList_map, Array.toArray_toList]
      rw [ea]
      exact this
    · cases hp
  · cases hp
end
end VX

/- VX 22: a walk through the code of one function. -/
namespace VX
open Go

/-- The slots of the frame. -/
structure Slots (I : Imm) (ρ : Ren) (n : Nat) (τ : List (Nat × A)) (a : Act) : Prop where
  size : a.tmps.size = n
  defers : a.defers = []
  at_ : ∀ t x, look τ t = some x → t < n ∧ R I ρ x (a.tmps.getD t undef)

theorem Slots.mono {I I' : Imm} {ρ ρ' : Ren} {n : Nat} {τ : List (Nat × A)} {a : Act} (hI : I.le I') (hρ : ρ.le ρ') (h : Slots I ρ n τ a) : Slots I' ρ' n τ a :=
  ⟨h.size, h.defers, fun t x hx => ⟨(h.at_ t x hx).1, (h.at_ t x hx).2.mono hI hρ⟩⟩

theorem Slots.put {I : Imm} {ρ : Ren} {n : Nat} {τ : List (Nat × A)} {a : Act} (h : Slots I ρ n τ a) {d : Nat} (hd : d < n) {x : A} {v : Value} (hx : R I ρ x v) : Slots I ρ n ((d, x) :: τ) (a.put (some d) v) := by
  refine ⟨by simpa [Act.put] using h.size, h.defers, fun t y hy => ?_⟩
  rw [look_cons] at hy
  by_cases e : d = t
  · subst e
    simp only [if_true, Option.some.injEq] at hy
    subst hy
    refine ⟨hd, ?_⟩
    simp [Act.put, h.size, hd]
    exact hx
  · rw [if_neg e] at hy
    refine ⟨(h.at_ t y hy).1, ?_⟩
    have : (a.put (some d) v).tmps.getD t undef = a.tmps.getD t undef := by
      simp [Act.put, Array.getElem?_setIfInBounds, e]
    rw [this]
    exact (h.at_ t y hy).2

/-- What is put where no slot is told. -/
theorem Slots.skip {I : Imm} {ρ : Ren} {n : Nat} {τ : List (Nat × A)} {a : Act} (h : Slots I ρ n τ a) {v : Value} : Slots I ρ n τ (a.put none v) := h

theorem Slots.lost {I : Imm} {ρ : Ren} {n : Nat} {τ : List (Nat × A)} {a : Act} (h : Slots I ρ n τ a) {d : Nat} {v : Value} (hd : d < n) : Slots I ρ n ((d, .any) :: τ) (a.put (some d) v) :=
  h.put hd .any

theorem aConst_ok {I : Imm} {ρ : Ren} {v : Value} {x : A} (h : aConst v = some x) : R I ρ x v := by
  unfold aConst at h
  split at h <;> (try (cases h; done)) <;> (try (simp only [Option.some.injEq] at h; subst h))
  · exact .int
  · exact .bool
  · rename_i s
    have : s = ⟨s.data.toList.toArray⟩ := by simp
    rw [this]
    exact .str
  · exact .nils
  · exact .nilp
  · exact .nilm
  · exact .nilf
  · exact .nili
  · rename_i fn f c
    cases e : f.toList.isEmpty && c.toList.isEmpty with
    | false => rw [e] at h; cases h
    | true =>
      rw [e] at h
      simp only [cond_true, Option.some.injEq] at h
      subst h
      simp only [Bool.and_eq_true, List.isEmpty_iff, Array.toList_eq_nil_iff] at e
      rw [e.1, e.2]
      exact .func .nil .nil

theorem ev_ok {I : Imm} {ρ : Ren} {n : Nat} {τ : List (Nat × A)} {a : Act} (h : Slots I ρ n τ a) {x : Operand} {y : A} (he : ev τ x = some y) : R I ρ y (a.eval x) := by
  unfold ev at he
  split at he
  · exact (h.at_ _ _ he).2
  · exact aConst_ok he
  · simp only [Option.some.injEq] at he
    subst he
    exact .func .nil .nil
  · cases he

theorem evs_ok {I : Imm} {ρ : Ren} {n : Nat} {τ : List (Nat × A)} {a : Act} (h : Slots I ρ n τ a) : ∀ {xs : List Operand} {ys : List A}, evs τ xs = some ys → RL I ρ ys (xs.map a.eval)
  | [], ys, he => by simp only [evs, Option.some.injEq] at he; subst he; exact .nil
  | x :: xs, ys, he => by
    unfold evs at he
    split at he
    · cases he
    · rename_i y hy
      split at he
      · cases he
      · rename_i l hl
        simp only [Option.some.injEq] at he
        subst he
        exact .cons (ev_ok h hy) (evs_ok h hl)

/-- From here the function comes to its end, in Q. -/
def WK (P : Program) (Q : Act → World → Prop) (k : List Item) (a : Act) (w : World) : Prop :=
  ∀ (b : Frame) (cs : List Frame), ∃ a' w' todo, Q a' w' ∧ Steps P (lone (b.at a k) cs w) (lone { b.at a' todo with mode := .returning } cs w')

theorem WK.step {P : Program} {Q : Act → World → Prop} {k k' : List Item} {a a' : Act} {w w' : World} (h : ∀ (b : Frame) (cs : List Frame), step P (lone (b.at a k) cs w) = .next (lone (b.at a' k') cs w')) (hk : WK P Q k' a' w') : WK P Q k a w :=
  fun b cs => let ⟨a2, w2, todo, hq, hs⟩ := hk b cs; ⟨a2, w2, todo, hq, .head (h b cs) hs⟩

/-- What is said to be known of the guards is so. -/
def GOK (g : List (Nat × Nat × Bool)) (k : List Item) (τ : List (Nat × A)) : Prop :=
  ∀ j t b, (j, t, b) ∈ g → match k with
    | .inRegion ops _ :: _ => ∃ o, ops.toList[j]? = some o ∧ o.dst = some t ∧ look τ t = some (.bool b)
    | _ => False
theorem GOK.nil {k : List Item} {τ : List (Nat × A)} : GOK [] k τ := fun j t b h => by cases h

/-- From every world and frame that fit the state, the function comes to its end, in Q. -/
structure W (Γ : Ctx) (P : Program) (Q : Act → World → Prop) (g : List (Nat × Nat × Bool)) (k : List Item) (τ : List (Nat × A)) (r : List (Nat × Option Obj)) (us : List Nat) : Prop where
  ok : ∀ a w I ρ, RW Γ I ρ r us w → Slots I ρ Γ.n τ a → GOK g k τ → WK P Q k a w

def Fin (Γ : Ctx) (P : Program) (Q : Act → World → Prop) : Res → Prop
  | ⟨c, g, k, τ, r, us⟩ => allP c ∧ W Γ P Q g k τ r us

theorem gAt_mem {g : List (Nat × Nat × Bool)} {j : Nat} {b : Bool} (h : gAt g j = some b) : ∃ t, (j, t, b) ∈ g := by
  induction g with
  | nil => simp [gAt] at h
  | cons x g ih =>
    obtain ⟨i, t, b'⟩ := x
    unfold gAt at h
    cases e : Nat.beq i j with
    | true =>
      rw [e] at h
      simp only [cond_true, Option.some.injEq] at h
      have := Nat.eq_of_beq_eq_true e
      subst this h
      exact ⟨t, List.mem_cons_self⟩
    | false =>
      rw [e] at h
      obtain ⟨t', ht⟩ := ih h
      exact ⟨t', List.mem_cons_of_mem _ ht⟩
theorem offG_mem {d : Nat} : ∀ {g : List (Nat × Nat × Bool)}, offG d g = true → ∀ {j t : Nat} {b : Bool}, (j, t, b) ∈ g → t ≠ d
  | [], _, _, _, _, h => by cases h
  | (i, t', b') :: g, ho, j, t, b, h => by
    unfold offG at ho
    cases e : Nat.beq t' d with
    | true => rw [e] at ho; cases ho
    | false =>
      rw [e] at ho
      rcases List.mem_cons.1 h with h | h
      · cases h
        rintro rfl
        rw [Nat.beq_refl] at e; cases e
      · exact offG_mem ho h

/-- The operation of a guard gave what is known of it. -/
theorem yielded_ok {I : Imm} {ρ : Ren} {n : Nat} {τ : List (Nat × A)} {a : Act} (h : Slots I ρ n τ a) {ops : Array Oper} {j : Nat} {o : Oper} (ho : ops.toList[j]? = some o) {t : Nat} (ht : o.dst = some t) {b : Bool}
    (hl : look τ t = some (.bool b)) : yielded ops a.tmps j = some b := by
  have ho : ops[j]? = some o := by simpa using ho
  obtain ⟨hlt, hr⟩ := h.at_ t _ hl
  have hv := hr.bool_inv
  have : a.tmps[t]? = some (.bool b) := by
    have hsz : t < a.tmps.size := by rw [h.size]; exact hlt
    rw [Array.getD_eq_getD_getElem?, Array.getElem?_eq_getElem hsz, Option.getD_some] at hv
    rw [Array.getElem?_eq_getElem hsz, hv]
  simp [yielded, ho, ht, this]

theorem guardOf_ok {I : Imm} {ρ : Ren} {n : Nat} {τ : List (Nat × A)} {a : Act} (hS : Slots I ρ n τ a) {g : List (Nat × Nat × Bool)} {ops : Array Oper} {l : List Nat} {k : List Item} (hG : GOK g (.inRegion ops l :: k) τ) {o : Oper} {b : Bool}
    (h : guardOf o g = some b) : Region.wanted o (yielded ops a.tmps) = b := by
  unfold guardOf at h
  cases hgd : o.guard with
  | none =>
    rw [hgd] at h
    simp only [Option.some.injEq] at h
    simp [Region.wanted, hgd, ← h]
  | some q =>
    obtain ⟨j, want⟩ := q
    rw [hgd] at h
    simp only at h
    split at h
    · cases h
    · rename_i b' hb
      simp only [Option.some.injEq] at h
      obtain ⟨t, ht⟩ := gAt_mem hb
      obtain ⟨o', h1, h2, h3⟩ := hG j t b' ht
      have hy := yielded_ok hS h1 h2 h3
      simp only [Region.wanted, hgd, hy, ← h]
      cases b' <;> cases want <;> rfl

theorem GOK.next {g : List (Nat × Nat × Bool)} {ops : Array Oper} {l l' : List Nat} {k : List Item} {τ : List (Nat × A)} (h : GOK g (.inRegion ops l :: k) τ) : GOK g (.inRegion ops l' :: k) τ := h
theorem GOK.put {g : List (Nat × Nat × Bool)} {ops : Array Oper} {l l' : List Nat} {k : List Item} {τ : List (Nat × A)} (h : GOK g (.inRegion ops l :: k) τ) {d : Nat} (hd : offG d g = true) {x : A} : GOK g (.inRegion ops l' :: k) ((d, x) :: τ) :=
  fun j t b hm => by
    obtain ⟨o, h1, h2, h3⟩ := h j t b hm
    refine ⟨o, h1, h2, ?_⟩
    rw [look_cons, if_neg (offG_mem hd hm).symm]
    exact h3

theorem blt_lt {a b : Nat} (h : Nat.blt a b = true) : a < b := by
  have : a + 1 ≤ b := by simpa [Nat.blt] using h
  omega
theorem dstOk_some {nt : Nat} {g : List (Nat × Nat × Bool)} {d : Nat} (h : dstOk nt g (some d) = true) : d < nt ∧ offG d g = true := by
  simp only [dstOk] at h
  cases e : Nat.blt d nt with
  | false => rw [e] at h; cases h
  | true => rw [e] at h; exact ⟨blt_lt e, h⟩

theorem step_scope {P : Program} {b : Frame} {a : Act} {k : List Item} {cs : List Frame} {w : World} {c : Code} :
    step P (lone (b.at a (.code (.scope c) :: k)) cs w) = .next (lone (b.at a (.code c :: .inScope c :: k)) cs w) :=
  step_lone_go (by simp [stepG, stepG.exec, Frame.at])
theorem step_inScope {P : Program} {b : Frame} {a : Act} {k : List Item} {cs : List Frame} {w : World} {c : Code} :
    step P (lone (b.at a (.inScope c :: k)) cs w) = .next (lone (b.at a k) cs w) :=
  step_lone_go (by simp [stepG, stepG.exec, Frame.at])

theorem step_op {P : Program} {b : Frame} {a : Act} {k : List Item} {cs : List Frame} {w w' : World} {ops : Array Oper} {i : Nat} {l : List Nat} {o : Oper} (ho : ops[i]? = some o)
    (hw : Region.wanted o (yielded ops a.tmps) = true) {nx : Next} {v : Value} (hx : (execOp a.eval o).run P w = .ok nx w') (hv : nxV nx = some v) :
    step P (lone (b.at a (.inRegion ops (i :: l) :: k)) cs w) = .next (lone (b.at (a.put o.dst v) (.inRegion ops l :: k)) cs w') := by
  have hg := stepG_op (P := P) (b := b) (k := k) (cs := cs) (w := w) (rest := l) ho hw
  have hfin : ∀ v, (b.at a (.inRegion ops (i :: l) :: k)).finish v = b.at (a.put o.dst v) (.inRegion ops l :: k) := by
    intro v; rw [Frame.finish_at, ho]; rfl
  refine step_lone_go ?_
  rw [hg, ← hfin]
  cases nx with
  | value u => simp only [nxV, Option.some.injEq] at hv; subst hv; simp [stepG.apply, hx]
  | skip => simp only [nxV, Option.some.injEq] at hv; subst hv; simp [stepG.apply, hx]
  | _ => simp [nxV] at hv

section
variable {P : Program} {T : Tab} (hT : TabOK P T.l) {Γ : Ctx} {Q : Act → World → Prop}

/-- One operation of a region. -/
theorem W.op (hT : TabOK P T.l) {nt : Nat} (hnt : nt = Γ.n) {ops : Array Oper} {i : Nat} {l : List Nat} {k : List Item} {o : Oper} (ho : ops[i]? = some o) {g : List (Nat × Nat × Bool)} (hd : dstOk nt g o.dst = true) (hg : guardOf o g = some true)
    {τ : List (Nat × A)} {r : List (Nat × Option Obj)} {us : List Nat} {out : Out} (h1 : step1 T o τ r = some out) (hc : allP out.c) (hal : out.al = true → ∃ d, o.dst = some d ∧ usedN us d = false)
    {τ' : List (Nat × A)} (hτ : τ' = match o.dst with | some d => (d, out.v) :: τ | none => τ)
    {r' : List (Nat × Option Obj)} (hr : r' = addW r out.w) {us' : List Nat} (hus : us' = addU us (nameOf o.dst) out.al)
    (h : W Γ P Q g (.inRegion ops l :: k) τ' r' us') : W Γ P Q g (.inRegion ops (i :: l) :: k) τ r us := by
  subst hτ hr hus
  refine ⟨fun a w I ρ hR hS hG => ?_⟩
  have hw := guardOf_ok hS hG hg
  unfold step1 at h1
  split at h1
  · cases h1
  · rename_i vs hvs
    split at h1
    · cases h1
    · rename_i obs hobs
      obtain ⟨nx, v, w', ρ', hx, hv, hle, hR', hv'⟩ := (prim_ok (P := P) (e := a.eval) hT h1 hR (fun ha => by
        obtain ⟨d, hd1, hd2⟩ := hal ha
        rw [hd1]; exact hd2) (evs_ok hS hvs) hobs hc).ex
      have hS' := hS.mono (Imm.le.refl I) hle
      cases hdst : o.dst with
      | none =>
        rw [hdst] at h
        refine WK.step (a' := a.put o.dst v) (w' := w') (fun b cs => step_op ho hw hx hv) (h.ok _ _ I ρ' (by simpa [hdst] using hR') (by rw [hdst]; exact hS'.skip) hG.next)
      | some d =>
        rw [hdst] at h hd
        obtain ⟨hlt, hoff⟩ := dstOk_some hd
        refine WK.step (a' := a.put o.dst v) (w' := w') (fun b cs => step_op ho hw hx hv) (h.ok _ _ I ρ' (by simpa [hdst] using hR') (by rw [hdst]; exact hS'.put (hnt ▸ hlt) hv') (hG.put hoff))

theorem W.skip {nt : Nat} (hnt : nt = Γ.n) {ops : Array Oper} {i : Nat} {l : List Nat} {k : List Item} {o : Oper} (ho : ops[i]? = some o) {g : List (Nat × Nat × Bool)} (hd : dstOk nt g o.dst = true) (hg : guardOf o g = some false)
    {τ : List (Nat × A)} {r : List (Nat × Option Obj)} {us : List Nat} {τ' : List (Nat × A)} (hτ : τ' = match o.dst with | some d => (d, .any) :: τ | none => τ)
    (h : W Γ P Q g (.inRegion ops l :: k) τ' r us) : W Γ P Q g (.inRegion ops (i :: l) :: k) τ r us := by
  subst hτ
  refine ⟨fun a w I ρ hR hS hG => ?_⟩
  have hw := guardOf_ok hS hG hg
  have hs : ∀ (b : Frame) (cs : List Frame), step P (lone (b.at a (.inRegion ops (i :: l) :: k)) cs w) = .next (lone (b.at (a.put o.dst undef) (.inRegion ops l :: k)) cs w) := fun b cs => by
    have := step_op_skip (P := P) (b := b) (a := a) (k := k) (cs := cs) (w := w) (ops := ops) (i := i) (rest := l) (by
      simp only [ho, Option.map_some, Option.getD_some]
      exact hw)
    simpa only [ho, Option.bind_some] using this
  refine WK.step hs ?_
  cases hdst : o.dst with
  | none =>
    rw [hdst] at h
    exact h.ok _ _ I ρ hR hS.skip hG.next
  | some d =>
    rw [hdst] at h hd
    obtain ⟨hlt, hoff⟩ := dstOk_some hd
    exact h.ok _ _ I ρ hR (hS.lost (hnt ▸ hlt)) (hG.put hoff)

theorem Fin.run (hT : TabOK P T.l) {nt : Nat} (hnt : nt = Γ.n) : ∀ (n : Nat) (g : List (Nat × Nat × Bool)) (k : List Item) (τ : List (Nat × A)) (r : List (Nat × Option Obj)) (us : List Nat) (c : List Prop),
    Fin Γ P Q (run T nt n g k τ r us c) → allP c ∧ W Γ P Q g k τ r us
  | 0, g, k, τ, r, us, c, h => h
  | n + 1, g, k, τ, r, us, c, h => by
    have ih := Fin.run hT hnt n
    unfold VX.run at h
    split at h
    · rename_i x k'
      split at h
      · have h := ih _ _ _ _ _ _ h
        exact ⟨h.1, ⟨fun a w I ρ hR hS _ => WK.step (fun b cs => step_skip) (h.2.ok a w I ρ hR hS .nil)⟩⟩
      · have h := ih _ _ _ _ _ _ h
        exact ⟨h.1, ⟨fun a w I ρ hR hS _ => WK.step (fun b cs => step_label) (h.2.ok a w I ρ hR hS .nil)⟩⟩
      · have h := ih _ _ _ _ _ _ h
        exact ⟨h.1, ⟨fun a w I ρ hR hS _ => WK.step (fun b cs => step_seq) (h.2.ok a w I ρ hR hS .nil)⟩⟩
      · have h := ih _ _ _ _ _ _ h
        exact ⟨h.1, ⟨fun a w I ρ hR hS _ => WK.step (fun b cs => step_block) (h.2.ok a w I ρ hR hS .nil)⟩⟩
      · have h := ih _ _ _ _ _ _ h
        exact ⟨h.1, ⟨fun a w I ρ hR hS _ => WK.step (fun b cs => step_scope) (h.2.ok a w I ρ hR hS .nil)⟩⟩
      · split at h
        · rename_i k'' hk
          have h := ih _ _ _ _ _ _ h
          exact ⟨h.1, ⟨fun a w I ρ hR hS _ => WK.step (fun b cs => step_exit hk) (h.2.ok a w I ρ hR hS .nil)⟩⟩
        · exact h
      · split at h
        · have h := ih _ _ _ _ _ _ h
          exact ⟨h.1, ⟨fun a w I ρ hR hS _ => WK.step (fun b cs => step_region) (h.2.ok a w I ρ hR hS .nil)⟩⟩
        · exact h
      · exact h
    · have h := ih _ _ _ _ _ _ h
      exact ⟨h.1, ⟨fun a w I ρ hR hS _ => WK.step (fun b cs => step_inBlock) (h.2.ok a w I ρ hR hS .nil)⟩⟩
    · have h := ih _ _ _ _ _ _ h
      exact ⟨h.1, ⟨fun a w I ρ hR hS _ => WK.step (fun b cs => step_inScope) (h.2.ok a w I ρ hR hS .nil)⟩⟩
    · rename_i ops l k'
      split at h
      · have h := ih _ _ _ _ _ _ h
        exact ⟨h.1, ⟨fun a w I ρ hR hS _ => WK.step (fun b cs => step_region_end) (h.2.ok a w I ρ hR hS .nil)⟩⟩
      · rename_i i l'
        split at h
        · rename_i o ho
          have ho : ops[i]? = some o := by simpa using ho
          split at h
          · rename_i hd
            split at h
            · rename_i hg
              split at h
              · rename_i c' v w al h1
                split at h
                · rename_i hdst
                  split at h
                  · have h := ih _ _ _ _ _ _ h
                    obtain ⟨hc1, hc2⟩ := allP_append.1 h.1
                    exact ⟨hc2, W.op hT hnt ho hd hg h1 hc1 (by simp) (by simp [hdst]) rfl rfl h.2⟩
                  · have h := ih _ _ _ _ _ _ h
                    obtain ⟨hc1, hc2⟩ := allP_append.1 h.1
                    exact ⟨hc2, W.op hT hnt ho hd hg h1 hc1 (by simp) (by simp [hdst]) rfl rfl h.2⟩
                  · exact h
                · rename_i d hdst
                  split at h
                  · have h := ih _ _ _ _ _ _ h
                    obtain ⟨hc1, hc2⟩ := allP_append.1 h.1
                    exact ⟨hc2, W.op hT hnt ho hd hg h1 hc1 (by simp) (by simp [hdst]) rfl rfl h.2⟩
                  · have h := ih _ _ _ _ _ _ h
                    obtain ⟨hc1, hc2⟩ := allP_append.1 h.1
                    exact ⟨hc2, W.op hT hnt ho hd hg h1 hc1 (by simp) (by simp [hdst]) rfl rfl h.2⟩
                  · split at h
                    · rename_i hus
                      have h := ih _ _ _ _ _ _ h
                      obtain ⟨hc1, hc2⟩ := allP_append.1 h.1
                      exact ⟨hc2, W.op hT hnt ho hd hg h1 hc1 (fun _ => ⟨d, hdst, hus⟩) (by simp [hdst]) rfl (by simp [hdst, addU, nameOf]) h.2⟩
                    · exact h
                  · split at h
                    · rename_i hus
                      have h := ih _ _ _ _ _ _ h
                      obtain ⟨hc1, hc2⟩ := allP_append.1 h.1
                      exact ⟨hc2, W.op hT hnt ho hd hg h1 hc1 (fun _ => ⟨d, hdst, hus⟩) (by simp [hdst]) rfl (by simp [hdst, addU, nameOf]) h.2⟩
                    · exact h
                  · exact h
              · exact h
            · rename_i hg
              split at h
              · rename_i hdst
                have h := ih _ _ _ _ _ _ h
                exact ⟨h.1, W.skip hnt ho hd hg (by simp [hdst]) h.2⟩
              · rename_i d hdst
                have h := ih _ _ _ _ _ _ h
                exact ⟨h.1, W.skip hnt ho hd hg (by simp [hdst]) h.2⟩
            · exact h
          · exact h
        · exact h
    · exact h

/-- Walk on as far as it goes. -/
theorem W.run (hT : TabOK P T.l) (nt : Nat) (hnt : nt = Γ.n) (n : Nat) {g : List (Nat × Nat × Bool)} {k : List Item} {τ : List (Nat × A)} {r : List (Nat × Option Obj)} {us : List Nat} (h : Fin Γ P Q (VX.run T nt n g k τ r us [])) : W Γ P Q g k τ r us :=
  (Fin.run hT hnt n g k τ r us [] h).2

/-- May it make something? -/
def alOk (us : List Nat) : Bool → Option Tmp → Bool
  | false, _ => true
  | true, some d => !usedN us d
  | true, none => false
/-- Can it walk on? -/
def canGo (T : Tab) (g : List (Nat × Nat × Bool)) (k : List Item) (τ : List (Nat × A)) (r : List (Nat × Option Obj)) (us : List Nat) : Bool :=
  match k with
  | .code x :: _ => (match x with
    | .skip => true
    | .label _ => true
    | .seq .. => true
    | .block .. => true
    | .scope _ => true
    | .exit _ => true
    | .region _ _ d => (match d with
      | true => false
      | false => true)
    | _ => false)
  | .inBlock _ :: _ => true
  | .inScope _ :: _ => true
  | .inRegion _ [] :: _ => true
  | .inRegion ops (i :: _) :: _ => (match ops.toList[i]? with
    | some o => (match guardOf o g with
      | some true => (match step1 T o τ r with
        | some ⟨_, _, _, al⟩ => alOk us al o.dst
        | none => false)
      | some false => true
      | none => false)
    | none => false)
  | _ => false
theorem W.go (hT : TabOK P T.l) (nt : Nat) (hnt : nt = Γ.n) (n : Nat) {g : List (Nat × Nat × Bool)} {k : List Item} {τ : List (Nat × A)} {r : List (Nat × Option Obj)} {us : List Nat} (_ : canGo T g k τ r us = true) (h : Fin Γ P Q (VX.run T nt n g k τ r us [])) : W Γ P Q g k τ r us :=
  W.run hT nt hnt n h
end
end VX

/- VX 23: tests. -/
namespace VX
open Go

section
variable {P : Program} {Γ : Ctx} {Q : Act → World → Prop}

/-- A test. -/
theorem W.branch {g : List (Nat × Nat × Bool)} {k : List Item} {τ : List (Nat × A)} {r : List (Nat × Option Obj)} {us : List Nat} {b : Bool} {g1 g2 : List (Nat × Nat × Bool)} {k1 k2 : List Item} {τ1 τ2 : List (Nat × A)}
    (he : VX.branch g τ k = some (b, ⟨g1, k1, τ1⟩, ⟨g2, k2, τ2⟩)) (h1 : b = true → W Γ P Q g1 k1 τ1 r us) (h2 : b = false → W Γ P Q g2 k2 τ2 r us) : W Γ P Q g k τ r us := by
  refine ⟨fun a w I ρ hR hS hG => ?_⟩
  unfold VX.branch at he
  split at he
  · rename_i c x y k'
    split at he
    · rename_i b' hb
      simp only [Option.some.injEq, Prod.mk.injEq, Way.mk.injEq] at he
      obtain ⟨rfl, ⟨rfl, rfl, rfl⟩, ⟨rfl, rfl, rfl⟩⟩ := he
      have hc := (ev_ok hS hb).bool_inv
      refine WK.step (fun _ _ => step_cond hc) ?_
      cases b' with
      | true => exact (h1 rfl).ok a w I ρ hR hS .nil
      | false => exact (h2 rfl).ok a w I ρ hR hS .nil
    · cases he
  · rename_i ops i l' k'
    split at he
    · rename_i o ho
      split at he
      · rename_i j want hgd
        split at he
        · rename_i o' ho'
          split at he
          · rename_i t ht
            split at he
            · rename_i b' hb
              split at he
              rotate_left
              · cases he
              simp only [Option.some.injEq, Prod.mk.injEq, Way.mk.injEq] at he
              obtain ⟨rfl, ⟨rfl, rfl, rfl⟩, ⟨rfl, rfl, rfl⟩⟩ := he
              have hS' : Slots I ρ Γ.n ((t, .bool b') :: τ) a := by
                refine ⟨hS.size, hS.defers, fun s x hx => ?_⟩
                rw [look_cons] at hx
                by_cases e : t = s
                · rw [if_pos e] at hx
                  cases hx
                  subst e
                  exact hS.at_ _ _ hb
                · rw [if_neg e] at hx
                  exact hS.at_ _ _ hx
              have hG' : GOK ((j, t, b') :: g) (.inRegion ops (i :: l') :: k') ((t, .bool b') :: τ) := fun j2 t2 b2 hm => by
                rcases List.mem_cons.1 hm with hm | hm
                · cases hm
                  exact ⟨o', ho', ht, by rw [look_cons, if_pos rfl]⟩
                · obtain ⟨o2, q1, q2, q3⟩ := hG j2 t2 b2 hm
                  refine ⟨o2, q1, q2, ?_⟩
                  rw [look_cons]
                  by_cases e : t = t2
                  · subst e
                    rw [hb] at q3
                    simp only [Option.some.injEq, A.bool.injEq] at q3
                    rw [if_pos rfl, q3]
                  · rw [if_neg e]; exact q3
              cases b' with
              | true => exact (h1 rfl).ok a w I ρ hR hS' hG'
              | false => exact (h2 rfl).ok a w I ρ hR hS' hG'
            · cases he
          · cases he
        · cases he
      · cases he
    · cases he
  · cases he
end
end VX

