/- A symbolic executor for the model's code, and its soundness (part 4 of 9): a general tool, no statement about this program. -/
import Derived.Test.YtcolghonbncpnaaVxC
import Derived.Laws.BytesString
import Derived.Laws.BytesArg
import Derived.Lib.ConvBytes
import Derived.Laws.StructEq
import Derived.Laws.Small
set_option linter.unusedSimpArgs false
set_option linter.unusedVariables false
/- VX 17: literals as operations; strings to bytes and back; copy; the builtins. -/
namespace VX
open Go

section
variable {P : Program} {T : Tab} (hT : TabOK P T.l)
variable {Γ : Ctx} {I : Imm} {ρ : Ren} {r : List (Nat × Option Obj)} {us : List Nat} {w : World} {nm : Nat}

theorem parts_ok {e : Operand → Value} : ∀ (ps : List (Nat × Operand)) (vs : List A), RL I ρ vs (ps.map fun p => e p.2) → A.surePL vs → Parts I ρ (zipParts ps vs) (ps.map fun p => (p.1, e p.2))
  | [], [], _, _ => .nil
  | (i, x) :: ps, v :: vs, .cons h1 h2, hs => .cons h1 hs.1 (parts_ok ps vs h2 hs.2)
theorem zipParts_pure : ∀ (ps : List (Nat × Operand)) (vs : List A), A.purePL vs → ∀ p ∈ zipParts ps vs, (p.2).pureP
  | [], _, _, p, hp => by simp [zipParts] at hp
  | _ :: _, [], _, p, hp => by simp [zipParts] at hp
  | (i, x) :: ps, v :: vs, h, p, hp => by
    simp only [zipParts, List.mem_cons] at hp
    rcases hp with rfl | hp
    · exact h.1
    · exact zipParts_pure ps vs h.2 p hp

theorem repl_eq (z : A) (n : Nat) : repl z n = List.replicate n z := by
  induction n with
  | zero => rfl
  | succ n ih => simp [repl, ih, List.replicate_succ]
theorem sizeL_repl {z : A} {sz : Nat} (h : z.size = sz) (n : Nat) : A.sizeL (List.replicate n z) = n * sz := by
  induction n with
  | zero => simp [A.sizeL]
  | succ n ih => rw [List.replicate_succ, A.sizeL, ih, h, Nat.succ_mul]; omega
theorem wfL_repl {z : A} (h : z.wf) (n : Nat) : A.wfL (List.replicate n z) := by
  induction n with
  | zero => trivial
  | succ n ih => exact ⟨h, ih⟩
theorem purePL_repl {z : A} (h : z.pureP) (n : Nat) : A.purePL (List.replicate n z) := by
  induction n with
  | zero => trivial
  | succ n ih => exact ⟨h, ih⟩
theorem RL_repl {z : A} {zv : List Value} (h : RL I ρ z.cells zv) (n : Nat) : RL I ρ (A.cellsL (List.replicate n z)) (List.replicate n zv).flatten := by
  induction n with
  | zero => exact .nil
  | succ n ih =>
    rw [List.replicate_succ, List.replicate_succ, A.cellsL, List.flatten_cons]
    exact h.append ih

theorem Fits.repl {z : A} {sz n : Nat} (h : z.size = sz) : Fits (fun i => some (i * sz, sz)) (List.replicate n z) := fun i x hx => by
  rw [nth_getElem?, List.getElem?_replicate] at hx
  split at hx
  · cases hx
    rw [List.take_replicate, Nat.min_eq_left (by omega), sizeL_repl h, h]
  · cases hx

theorem listF_cells {z : A} : ∀ (l : List A), (List.range l.length).flatMap (fun i => (listF z l i).cells) = A.cellsL l
  | [] => rfl
  | x :: l => by
    rw [List.length_cons, List.range_succ_eq_map, List.flatMap_cons, List.flatMap_map]
    have := listF_cells (z := z) l
    simp only [listF] at this ⊢
    rw [A.cellsL, ← this]
    simp

theorem mem_wfL : ∀ {l : List A}, A.wfL l → ∀ x ∈ l, x.wf
  | y :: l, h, x, hx => by
    rcases List.mem_cons.1 hx with rfl | hx
    · exact h.1
    · exact mem_wfL h.2 x hx

theorem listF_ok {z : A} {l : List A} {sz : Nat} (hw : A.wfL l) (hp : A.purePL l) (hs : ∀ x ∈ l, x.size = sz) : ∀ i, i < l.length → (listF z l i).wf ∧ (listF z l i).size = sz ∧ (listF z l i).pureP := fun i hi => by
  have : listF z l i = l[i] := by simp [listF, List.getD_eq_getElem?_getD, hi]
  rw [this]
  exact ⟨mem_wfL hw _ (List.getElem_mem hi), hs _ (List.getElem_mem hi), purePL_mem hp _ (List.getElem_mem hi)⟩

include hT in
theorem build_ok {t : Nat} {ps : Array (Nat × Operand)} {e : Operand → Value} {vs : List A} {out : Out} (hp : pBuild T t ps.toList vs = some out) (h : RW Γ I ρ r us w) (hv : RL I ρ vs (ps.toList.map fun p => e p.2)) (hc : allP out.c) :
    ∃ v, (Instr.build t (ps.map fun (i, x) => (i, e x))).run P w = .ok v w ∧ Done Γ I ρ r us nm out (.ok (.value v) w) := by
  have hl : (ps.map fun (i, x) => (i, e x)).toList = ps.toList.map fun p => (p.1, e p.2) := by simp
  unfold pBuild at hp
  split at hp
  · rename_i fs hd
    obtain ⟨fl, hfl, hfs⟩ := Tab.struct hT hd
    split at hp
    · rename_i d sz bt z q hti
      obtain ⟨hd0, ⟨i, hi, his, hbt, hz⟩, hbld, heq⟩ := hT t _ hti
      clear hd0 hbt heq
      simp only at his hz hbld
      split at hp
      · rename_i zs
        cases e1 : sizesOk zs (zipParts ps.toList vs) with
        | false => rw [e1] at hp; cases hp
        | true =>
          rw [e1] at hp
          simp only [cond_true, Option.some.injEq] at hp
          subst hp
          obtain ⟨c1, c2, _⟩ := hc
          obtain ⟨zv, hzv, hzR, hzz, hzp⟩ := hz c2
          have hdd : d = .struct fs := by
            simp only [Tab.d, hti] at hd
            exact hd
          obtain ⟨u, pl, hu, hpl, hpll, hplg⟩ := hbld fs zs hdd rfl
          obtain ⟨zc, rfl, hzw, hzr⟩ := (hzR I ρ).agg_inv rfl
          have hfits : Fits (fun i => pl.toArray[i]?) zs := fun i x hx => by
            rw [nth_getElem?] at hx
            simpa using hplg i x hx
          obtain ⟨cs', k1, k2, k3, _, _, k6, _, _⟩ := fill_ok (I := I) (ρ := ρ) _ _ zs zc.toArray hfits hzw (by simpa [A.cells] using hzr) (parts_ok ps.toList vs hv c1) e1
          have hb : P.built t (ps.map fun (i, x) => (i, e x)).toList = some cs' := by
            unfold Program.built
            rw [hi, hu]
            simp only [hzv, hpl, hl]
            exact k1
          refine ⟨_, run_build w t _ cs' hb, .value h ?_⟩
          have := R.agg (I := I) (ρ := ρ) (x := .agg (fillL zs (zipParts ps.toList vs))) rfl k3 k2
          simpa using this
      · cases hp
    · cases hp
  · rename_i n el hd
    have hu := Tab.array hT hd
    split at hp
    · rename_i d se bt z q hti
      obtain ⟨hd0, ⟨i, hi, his, hbt, hz⟩, hbld, heq⟩ := hT t _ hti
      clear hd0 hbt heq hbld
      simp only at his hz
      split at hp
      · rename_i sz n' g
        cases e2 : nth T.l el with
        | none => rw [e2] at hp; cases hp
        | some ti =>
        obtain ⟨dE, se, bE, zE, qE⟩ := ti
        rw [e2] at hp
        simp only at hp
        cases e1 : sizesOk (lstF g 0 n') (zipParts ps.toList vs) && (Nat.beq n n' && Nat.beq sz se) with
        | false => rw [e1] at hp; cases hp
        | true =>
          rw [e1] at hp
          simp only [cond_true, Option.some.injEq] at hp
          subst hp
          obtain ⟨a1, a2⟩ := andb e1
          obtain ⟨a2, a3⟩ := andb a2
          obtain rfl : n = n' := beqn a2
          have hsz := beqn a3
          obtain ⟨c1, c2, _⟩ := hc
          obtain ⟨zv, hzv, hzR, hzz, hzp⟩ := hz c2
          obtain ⟨zc, rfl, hzw, hzr⟩ := (hzR I ρ).agg_inv rfl
          have hzs : ∀ k c, (∀ i, k ≤ i → i < k + c → (g i).wf ∧ (g i).size = sz ∧ (g i).pureP) → A.wfL (lstF g k c) ∧ A.purePL (lstF g k c) ∧ (lstF g k c).length = c ∧ (∀ x ∈ lstF g k c, x.size = sz) ∧ A.cellsL (lstF g k c) = (List.range' k c).flatMap fun i => (g i).cells := fun k c => by
            induction c generalizing k with
            | zero => intro _; exact ⟨trivial, trivial, rfl, by simp [lstF], rfl⟩
            | succ c ih =>
              intro hg
              obtain ⟨i1, i2, i3, i4, i5⟩ := ih (k + 1) (fun i h1 h2 => hg i (by omega) (by omega))
              have hk := hg k (Nat.le_refl _) (by omega)
              refine ⟨⟨hk.1, i1⟩, ⟨hk.2.2, i2⟩, by simp [lstF, i3], fun x hx => ?_, ?_⟩
              · simp only [lstF, List.mem_cons] at hx
                rcases hx with rfl | hx
                · exact hk.2.1
                · exact i4 x hx
              · simp only [lstF, A.cellsL, i5, List.range'_succ, List.flatMap_cons]
          obtain ⟨z1, z2, z3, z4, z5⟩ := hzs 0 n (fun i _ hi => hzw i (by omega))
          have hfits : Fits (fun i => some (i * sz, sz)) (lstF g 0 n) := fun i x hx => by
            rw [nth_getElem?] at hx
            have hxs := z4 x (List.mem_iff_getElem?.2 ⟨i, hx⟩)
            have : ∀ (l : List A), (∀ x ∈ l, x.size = sz) → A.sizeL l = l.length * sz := fun l => by
              induction l with
              | nil => intro _; simp [A.sizeL]
              | cons y l ih => intro h; rw [A.sizeL, ih (fun x hx => h x (List.mem_cons_of_mem _ hx)), h y List.mem_cons_self, List.length_cons, Nat.succ_mul]; omega
            have hi : i < (lstF g 0 n).length := (List.getElem?_eq_some_iff.1 hx).1
            rw [this _ (fun x hx => z4 x (List.mem_of_mem_take hx)), List.length_take, Nat.min_eq_left (by omega), hxs]
          rw [A.cells, List.range_eq_range', ← z5] at hzr
          obtain ⟨cs', k1, k2, k3, _, k5, _, k7, k8⟩ := fill_ok (I := I) (ρ := ρ) _ _ (lstF g 0 n) zc.toArray hfits z1 (by simpa using hzr) (parts_ok ps.toList vs hv (pure_sureL _ c1)) a1
          obtain ⟨_, ⟨ie, hie, hse, _, _⟩, _⟩ := hT el _ e2
          simp only at hse
          rw [← hsz] at hse
          have hb : P.built t (ps.map fun (i, x) => (i, e x)).toList = some cs' := by
            unfold Program.built
            rw [hi, hu]
            simp only [hzv, hie, hl, hse]
            exact k1
          refine ⟨_, run_build w t _ cs' hb, .value h ?_⟩
          have hlen : (fillL (lstF g 0 n) (zipParts ps.toList vs)).length = n := by rw [k5, z3]
          have hok := listF_ok (z := .any) k3 (k7 z2 (zipParts_pure _ _ c1)) (k8 sz z4)
          rw [hlen] at hok
          have hcells := listF_cells (z := .any) (fillL (lstF g 0 n) (zipParts ps.toList vs))
          rw [hlen] at hcells
          have := R.agg (I := I) (ρ := ρ) (x := .vec sz n (listF .any (fillL (lstF g 0 n) (zipParts ps.toList vs)))) rfl hok (by rw [A.cells, hcells]; exact k2)
          simpa using this
      · cases hp
    · cases hp
  · cases hp

include hT in
theorem buildSlice_ok {t n : Nat} {ps : Array (Nat × Operand)} {e : Operand → Value} {vs : List A} {out : Out} (hp : pBuildSlice T t n ps.toList nm vs = some out) (h : RW Γ I ρ r us w) (hnm : usedN us nm = false)
    (hv : RL I ρ vs (ps.toList.map fun p => e p.2)) (hc : allP out.c) :
    ∃ v w', (Instr.buildSlice t n (ps.map fun (i, x) => (i, e x))).run P w = .ok v w' ∧ Done Γ I ρ r us nm out (.ok (.value v) w') := by
  have hl : (ps.map fun (i, x) => (i, e x)).toList = ps.toList.map fun p => (p.1, e p.2) := by simp
  unfold pBuildSlice at hp
  split at hp
  · rename_i el hd
    have hu := Tab.slice hT hd
    split at hp
    · rename_i d se bt z q hti
      obtain ⟨_, ⟨ie, hie, hse, _, hz⟩, _⟩ := hT el _ hti
      simp only at hse hz
      cases e1 : sizesOk (repl z n) (zipParts ps.toList vs) && Nat.ble (n * se) 4096 with
      | false => rw [e1] at hp; cases hp
      | true =>
        rw [e1] at hp
        simp only [cond_true, Option.some.injEq] at hp
        subst hp
        obtain ⟨a1, a2⟩ := andb e1
        have hle := Nat.le_of_ble_eq_true a2
        obtain ⟨c1, c2, _⟩ := hc
        obtain ⟨zv, hzv, hzR, hzz, hzp⟩ := hz c2
        obtain ⟨hzc, hz1⟩ := (hzR I ρ).cells c2
        have hzl := hzc.length
        rw [A.length_cells z (hzR I ρ).wf, hzz] at hzl
        have hzs : zv.cells.size = se := by rw [hzl]; simp
        have hrow : ((Array.range (n * se)).map fun i => (if n * se = 0 then (#[] : Array Value) else zv.cells)[i % (if n * se = 0 then (#[] : Array Value) else zv.cells).size]!).toList = (List.replicate n zv.cells.toList).flatten := by
          by_cases h0 : n * se = 0
          · rw [h0]
            have : (List.replicate n zv.cells.toList).flatten.length = 0 := by simp [hzs, h0]
            rw [List.eq_nil_of_length_eq_zero this]
            simp
          · rw [if_neg h0, ← noughts_eq, hzs]
        rw [repl_eq] at a1
        obtain ⟨cs', k1, k2, k3, k4, k5, _, k7, k8⟩ := fill_ok (I := I) (ρ := ρ) _ _ (List.replicate n z) ((Array.range (n * se)).map fun i => (if n * se = 0 then (#[] : Array Value) else zv.cells)[i % (if n * se = 0 then (#[] : Array Value) else zv.cells).size]!)
          (Fits.repl hzz) (wfL_repl (hzR I ρ).wf n) (by rw [hrow]; exact RL_repl hzc n) (parts_ok ps.toList vs hv (pure_sureL _ c1)) a1
        have hlen : (fillL (List.replicate n z) (zipParts ps.toList vs)).length = n := by rw [k5]; simp
        have hpure := k7 (purePL_repl hzp n) (zipParts_pure _ _ c1)
        have hok := listF_ok (z := z) k3 hpure (k8 se (fun x hx => by rw [List.mem_replicate] at hx; rw [hx.2, hzz]))
        rw [hlen] at hok
        have hcells := listF_cells (z := z) (fillL (List.replicate n z) (zipParts ps.toList vs))
        rw [hlen] at hcells
        have hcl := k2.length
        rw [A.length_cellsL _ k3, k4, sizeL_repl hzz] at hcl
        have hrun : (Instr.buildSlice t n (ps.map fun (i, x) => (i, e x))).run P w = .ok (.slice (some ⟨w.heap.size, 0, none⟩) n n) (w.alloc (.cells cs' el)) := by
          unfold Instr.buildSlice
          have h24 : ¬ (n * se > 2 ^ 24) := by omega
          simp only [Sem.run_bind, underlying, run_program, Result.andThen_ok, hu, Sem.run_pure, sizeOf_run hie, hse]
          rw [if_neg h24]
          by_cases h0 : n * se = 0
          · simp only [h0, if_true, Sem.run_pure, Result.andThen_ok] at k1 ⊢
            simp only [hl, k1, Sem.run_bind, newRow, Sem.run_pure, run_newObj, Result.andThen_ok, World.alloc_eq]
          · simp only [h0, if_false, Sem.run_bind, zeroValue_run hie hzv, Sem.run_pure, Result.andThen_ok] at k1 ⊢
            simp only [hl, k1, Sem.run_bind, newRow, Sem.run_pure, run_newObj, Result.andThen_ok, World.alloc_eq]
        have hcells1 : ∀ v ∈ cs'.toList, v.oneCell' = true := k2.oneCell (cells_pureL _ k3 hpure)
        refine ⟨_, _, hrun, _, _, _, ρ.set nm (.blk w.heap.size (n * se)), rfl, rfl, Ren.le_set (h.names nm hnm), h.alloc hnm ⟨by rw [hcl]; simp, Thawed.none _, ⟨?_, ?_, ?_⟩, hcells1⟩, ?_⟩
        · rw [← hcl]; exact Nat.le_refl _
        · rw [repl_eq]; exact hok
        · intro i hi
          rw [repl_eq]
          have hlenf : ∀ j, j < n → ((fun i => (listF z (fillL (List.replicate n z) (zipParts ps.toList vs)) i).cells) j).length = se := fun j hj => by
            simp only []
            rw [A.length_cells _ (hok j hj).1, (hok j hj).2.1]
          obtain ⟨l, m, hf, hll, _⟩ := flat_split (f := fun i => (listF z (fillL (List.replicate n z) (zipParts ps.toList vs)) i).cells) hlenf hi
          have hr2 := k2
          rw [← hcells, hf] at hr2
          have := RL.middle hr2
          rw [A.length_cells _ (hok i hi).1, (hok i hi).2.1, hll] at this
          exact RL.pure this (cells_pureP (hok i hi).1 (hok i hi).2.2)
        · have := R.own (I := I) (ρ := ρ.set nm (.blk w.heap.size (n * se))) (sz := se) (id := nm) (off := 0) (n := n) (b := w.heap.size) (N := n * se) (c := n) (by simp [Ren.set]) (Nat.le_refl _) (by simp)
          simpa using this
    · cases hp
  · cases hp
end
end VX

/- VX 18: conversions, copy, the other builtins, equality. -/
namespace VX
open Go

section
variable {P : Program} {T : Tab} (hT : TabOK P T.l)
variable {Γ : Ctx} {I : Imm} {ρ : Ren} {r : List (Nat × Option Obj)} {us : List Nat} {w : World} {nm : Nat}

/-- Bytes' elements as bytes. -/
theorem bytes_run {n : Nat} {g : Nat → A} {cs : List Value} (hE : Elems I 1 n g cs) (hi : ∀ i, i < n → isInt .u8 (g i)) : ∃ ns : List Int, cs = ns.map (Value.int .u8) ∧ (ns.map fun k => UInt8.ofNat k.toNat) = bytesOf n g := by
  have hlen : cs.length = n := by simpa using hE.len
  have hat : ∀ i, i < n → ∃ k, g i = .int .u8 k ∧ cs[i]? = some (.int .u8 k) := fun i hin => by
    obtain ⟨k, hk⟩ := hi i hin
    have := hE.at_ i hin
    rw [hk] at this
    simp only [A.cells] at this
    obtain ⟨v, hv, hR⟩ := this.one_inv
    cases hR.int_inv
    refine ⟨k, hk, ?_⟩
    have h0 := congrArg (·[0]?) hv
    simpa using h0
  refine ⟨(List.range n).map fun i => (match g i with | .int _ k => k | _ => 0), ?_, ?_⟩
  · apply List.ext_getElem?
    intro j
    by_cases hj : j < n
    · obtain ⟨k, hk, hc⟩ := hat j hj
      simp [hc, hj, hk]
    · rw [List.getElem?_eq_none (by omega), List.getElem?_eq_none (by simp; omega)]
  · unfold bytesOf
    rw [List.map_map]
    apply List.map_congr_left
    intro j hj
    obtain ⟨k, hk, hc⟩ := hat j (by simpa using hj)
    simp [hk, byteOf]

theorem elems0_slice {x : A} {v : Value} {obs : List Obj} {se : Nat} {q : Nat × Nat × (Nat → A) × List Prop} (hx : R I ρ x v) (he : elems0 x obs se = some q) (hn : ∀ l, x ≠ .str l) : ∃ a n c, v = .slice a n c := by
  cases hx <;> first | exact ⟨_, _, _, rfl⟩ | (exfalso; exact hn _ rfl) | (exfalso; simp [elems0, elems, isNils] at he; done) | skip
  rename_i hagg _ _
  cases x <;> first | (simp [isAgg] at hagg; done) | (exfalso; simp [elems0, elems, isNils] at he)

theorem bytesWorld_eq (w : World) (e : TypeId) (s : ByteArray) : Lib.bytesWorld w e s = w.drew.alloc (.cells (Lib.bytesCells w e s) e ((Lib.bytesCells w e s).size, (Lib.bytesCells w e s).size + 1)) := by
  have hh : (Lib.bytesWorld w e s).heap = (w.drew.alloc (.cells (Lib.bytesCells w e s) e ((Lib.bytesCells w e s).size, (Lib.bytesCells w e s).size + 1))).heap := by
    apply Array.ext_getElem?
    intro k
    rcases Nat.lt_trichotomy k w.heap.size with h | h | h
    · rw [Lib.bytesWorld_at_old w e s k h, heap_alloc_lt _ _ (by simpa using h)]
      rfl
    · subst h
      rw [Lib.bytesWorld_at_new]
      exact (heap_alloc_at w.drew _).symm
    · rw [Array.getElem?_eq_none (by rw [Lib.bytesWorld_size]; omega), Array.getElem?_eq_none (by simp; omega)]
  have h1 : (Lib.bytesWorld w e s).tape = w.tape := by simp [Lib.bytesWorld, World.freeze]
  have h2 : (Lib.bytesWorld w e s).drawn = w.drawn + 1 := by simp [Lib.bytesWorld, World.freeze]
  have h3 : (Lib.bytesWorld w e s).os = w.os := by unfold Lib.bytesWorld World.freeze; rfl
  have h4 : (Lib.bytesWorld w e s).output = w.output := by unfold Lib.bytesWorld World.freeze; rfl
  cases hb : Lib.bytesWorld w e s
  rw [hb] at hh h1 h2 h3 h4
  simp only at hh h1 h2 h3 h4
  subst hh h1 h2 h3 h4
  rfl

include hT in
theorem convert_ok {s d : Nat} {vs : List A} {xs : List Value} {obs : List Obj} {out : Out} (hp : pConvert T s d nm obs vs = some out) (h : RW Γ I ρ r us w) (hnm' : out.al = true → usedN us nm = false) (hv : RL I ρ vs xs) (ho : looks r (idsOf vs) = some obs) (hc : allP out.c) :
    ∃ x, xs = [x] ∧ ∃ v w', (convert s d x).run P w = .ok v w' ∧ Done Γ I ρ r us nm out (.ok (.value v) w') := by
  unfold pConvert at hp
  split at hp
  · rename_i x
    obtain ⟨v, rfl, hx⟩ := hv.one_inv
    refine ⟨v, rfl, ?_⟩
    have ho' : looks r (idOf x) = some obs := by simpa [idsOf] using ho
    split at hp
    · cases hp
    · rename_i e hs
      have hus := Tab.slice hT hs
      split at hp
      · rename_i e2 hd
        cases esd : Nat.beq s d with
        | false => rw [esd] at hp; cases hp
        | true =>
        rw [esd, cond_true] at hp
        have esd := beqn esd
        subst esd
        split at hp
        · rename_i he
          have hue := Tab.int hT he
          split at hp
          · rename_i sz id n sz' m g obs'
            cases e1 : Nat.beq sz 1 && Nat.beq sz' 1 with
            | false => rw [e1] at hp; cases hp
            | true =>
              rw [e1, cond_true] at hp
              simp only [Option.some.injEq] at hp
              subst hp
              obtain ⟨a1, a2⟩ := andb e1
              have a1 := beqn a1; have a2 := beqn a2
              subst a1 a2
              obtain ⟨c1, c2, _⟩ := hc
              obtain ⟨ob, rfl', hlk⟩ := looks_one (show looks r [id] = _ from ho')
              simp only [List.cons.injEq] at rfl'
              obtain ⟨rfl, _⟩ := rfl'
              cases hx with
              | agg hx _ _ => cases hx
              | own0 => exact absurd c1 (Nat.lt_irrefl _)
              | own hb hn hN =>
                rename_i b N c
                obtain ⟨vs, e', fz, hh, hNs, hfz, hH, h1⟩ := h.cells hlk hb (by rintro z ks g ⟨⟩)
                obtain ⟨lo, hi⟩ := fz
                have hlt : b < w.heap.size := (h.lt_of_own hlk hb).lt
                let o' : Go.Obj := .cells vs e' (if lo == hi then (vs.size, vs.size + 1) else (min lo vs.size, max hi (vs.size + 1)))
                have hfrz : w.freeze ⟨b, vs.size, none⟩ 1 = setBlk w b o' := by
                  unfold World.freeze setBlk
                  rw [if_neg (by decide)]
                  congr 1
                  apply Array.ext_getElem?
                  intro k
                  rw [Array.getElem?_modify, Array.getElem?_setIfInBounds]
                  by_cases e : b = k
                  · subst e
                    rw [if_pos rfl, if_pos rfl, if_pos hlt, hh]
                    rfl
                  · rw [if_neg e, if_neg e]
                have hsh : w.shape? b = some (e', vs.size) := by unfold World.shape?; rw [hh]
                have hrun : (convert s s (.slice (some ⟨b, 0 * 1, none⟩) n c)).run P w = .ok (.slice (some ⟨b, 0 * 1, none⟩) n c) (setBlk w b o') := by
                  rw [← hfrz]
                  simp [convert, run_underlying hus, run_underlying hue, markStringish, hsh]
                have hput := h.put hlk hb (ob' := .arr 1 m g) (o := o') ⟨hNs, by
                  refine ⟨?_, fun o ho => ?_⟩
                  · show (if lo == hi then (vs.size, vs.size + 1) else (min lo vs.size, max hi (vs.size + 1))).1 ≤ (if lo == hi then (vs.size, vs.size + 1) else (min lo vs.size, max hi (vs.size + 1))).2
                    split
                    · simp
                    · have := hfz.1
                      simp only at this ⊢; omega
                  · have h0 := hfz.2 o ho
                    have hle := hfz.1
                    simp only [Bool.and_eq_false_iff, decide_eq_false_iff_not] at h0 ⊢
                    simp only at h0 hle
                    have hall := fun q (hq : q < N) => hfz.2 q hq
                    simp only [Bool.and_eq_false_iff, decide_eq_false_iff_not] at hall
                    split
                    · simp only; omega
                    · rename_i hne
                      have hne : lo ≠ hi := by simpa using hne
                      have : N ≤ lo := by
                        refine Nat.le_of_not_lt fun hlo => ?_
                        have := hall lo hlo
                        omega
                      simp only; omega, hH, h1⟩
                have hren := hput.rename (id := id) (ob := .arr 1 m g) (by rw [look_cons]; simp) hb (hnm' rfl)
                refine ⟨_, _, hrun, _, _, _, ρ.set nm (.blk b N), rfl, rfl, Ren.le_set (h.names nm (hnm' rfl)), ?_, ?_⟩
                · refine hren.congr fun q => ?_
                  simp only [addW, look_cons]
                  by_cases h1 : nm = q
                  · simp [h1]
                  · by_cases h2 : id = q <;> simp [h1, h2]
                · have := R.own (I := I) (ρ := ρ.set nm (.blk b N)) (sz := 1) (id := nm) (off := 0) (n := n) (b := b) (N := N) (c := c) (by simp [Ren.set]) hn hN
                  exact this
          · cases hp
        · cases hp
      · rename_i hd
        have hud := Tab.str hT hd
        split at hp
        · rename_i he
          have hue := Tab.int hT he
          split at hp
          · cases hp
          · rename_i hnstr
            split at hp
            · rename_i sz n g c hel
              cases e1 : Nat.beq sz 1 with
              | false => rw [e1] at hp; cases hp
              | true =>
                rw [e1] at hp
                simp only [cond_true, Option.some.injEq] at hp
                subst hp
                obtain rfl : sz = 1 := beqn e1
                obtain ⟨c1, c2⟩ := hc
                obtain ⟨cs, hR⟩ := elems0_ok (P := P) h hx ho' (o2 := []) (by rw [List.append_nil]; exact hel) c2
                obtain ⟨ns, rfl, k2⟩ := bytes_run hR.el c1
                obtain ⟨a, l, c0, rfl⟩ := elems0_slice hx hel (fun l hl => hnstr l hl)
                have hln : l = n := by
                  have := hR.len w
                  simpa [Builtin.lenOf] using this
                subst hln
                have hf := hR.first l (Nat.le_refl _) w rfl
                rw [List.take_of_length_le (by rw [hR.el.len]; exact Nat.le_refl _)] at hf
                refine ⟨.string ⟨(bytesOf l g).toArray⟩, w, ?_, .value h .str⟩
                rw [run_convert_bytes_string w s d e a l c0 hus hue hud]
                cases a with
                | none =>
                  simp only [Builtin.firstCells, Sem.run_pure, Result.ok.injEq, and_true] at hf
                  have : ns = [] := by
                    have := congrArg Array.toList hf
                    simpa using this.symm
                  subst this
                  rw [← k2]
                  rfl
                | some a =>
                  simp only [Builtin.firstCells, Nat.mul_one] at hf
                  rw [run_bytesToString w a l c0 ns hf, foldl_push_bytes, ← k2]
                  have : ByteArray.empty.data ++ (ns.map fun n => UInt8.ofNat n.toNat).toArray = (ns.map fun n => UInt8.ofNat n.toNat).toArray := by
                    have h0 : ByteArray.empty.data = #[] := rfl
                    rw [h0]
                    simp
                  rw [this]
            · cases hp
        · cases hp
      · cases hp
    · rename_i hne hns
      obtain ⟨us', hus, _⟩ := Tab.under hT rfl (fun he => hne he)
      split at hp
      · rename_i k0 n
        rw [hx.int_inv]
        split at hp
        · rename_i k hd
          have hud := Tab.int hT hd
          have hrun : (convert s d (.int k0 n)).run P w = .ok (.int k (k.wrap n)) w := by
            unfold convert
            simp only [Sem.run_bind, underlying, run_program, Result.andThen_ok, hus, hud, Sem.run_pure, Conv.intToInt]
          split at hp
          · simp only [Option.some.injEq] at hp
            subst hp
            rw [wrap_inr hc.1] at hrun
            exact ⟨_, _, hrun, .value h .int⟩
          · exact ⟨_, _, hrun, val_done h hp .int⟩
        · cases hp
      · rename_i l
        rw [hx.str_inv]
        split at hp
        · rename_i hd
          have hud := Tab.str hT hd
          refine ⟨_, _, ?_, val_done h hp .str⟩
          unfold convert
          simp only [Sem.run_bind, underlying, run_program, Result.andThen_ok, hus, hud, Sem.run_pure]
        · rename_i e hd
          have hud := Tab.slice hT hd
          split at hp
          · rename_i he
            have hue := Tab.int hT he
            simp only [Option.some.injEq] at hp
            subst hp
            have hrun := Lib.run_convert_string_bytes (P := P) w s d e ⟨l.toArray⟩ hus hud hue
            rw [bytesWorld_eq] at hrun
            have hsz : (ByteArray.mk l.toArray).size = l.length := by simp [ByteArray.size]
            rw [hsz] at hrun
            have hcap : l.length ≤ grownCap w l.length 0 e := by simp [grownCap, Question.cut]
            have hN : (Lib.bytesCells w e ⟨l.toArray⟩).size = grownCap w l.length 0 e := by
              simp [Lib.bytesCells, hsz]
              omega
            have hE : Elems I 1 l.length (byteAt l) (l.map fun b => .int .u8 b.toNat) := by
              have := (elems0_ok (P := P) (x := .str l) (o1 := []) (o2 := []) (se := 1) (sz := 1) (n := l.length) (g := byteAt l) (c := []) h (.str) rfl rfl trivial)
              refine ⟨by simp, fun i hi => by simp [byteAt, byte, A.wf, A.size, A.pureP], fun i hi => ?_, fun v hv => ?_⟩
              · have : ((l.map fun b => Value.int .u8 b.toNat).drop (i * 1)).take 1 = [.int .u8 (l[i].toNat)] := by
                  apply List.ext_getElem?
                  intro j
                  rw [slice_get]
                  cases j with
                  | zero => simp [hi]
                  | succ j => simp
                rw [this]
                simp only [byteAt, byte, List.getD_eq_getElem?_getD, List.getElem?_eq_getElem hi, Option.getD_some, A.cells]
                exact .cons .int .nil
              · simp only [List.mem_map] at hv
                obtain ⟨b, _, rfl⟩ := hv
                rfl
            have hcells : (Lib.bytesCells w e ⟨l.toArray⟩).toList = (l.map fun b => Value.int .u8 b.toNat) ++ List.replicate (grownCap w l.length 0 e - l.length) (.int .u8 0) := by
              simp [Lib.bytesCells, hsz]
            have hnm := hnm' rfl
            refine ⟨_, _, hrun, _, _, _, ρ.set nm (.blk w.heap.size (grownCap w l.length 0 e)), rfl, rfl, Ren.le_set (h.names nm hnm), h.drew.alloc hnm ⟨hN, ?_, ?_, fun v hv => ?_⟩, ?_⟩
            · refine ⟨by simp, ?_⟩
              intro o ho
              rw [hN]
              simp
              omega
            · rw [hcells]; exact hE.holds _
            · rw [hcells, List.mem_append] at hv
              rcases hv with hv | hv
              · exact hE.one v hv
              · rw [List.mem_replicate] at hv; rw [hv.2]; rfl
            · have := R.own (I := I) (ρ := ρ.set nm (.blk w.heap.size (grownCap w l.length 0 e))) (sz := 1) (id := nm) (off := 0) (n := l.length) (b := w.heap.size) (N := grownCap w l.length 0 e) (c := grownCap w l.length 0 e) (by simp [Ren.set]) hcap (by simp)
              simpa using this
          · cases hp
        · cases hp
      · cases hp
  · cases hp
end
end VX

/- VX 19: equality; the built-in functions; shifts. -/
namespace VX
open Go

section
variable {P : Program} {T : Tab} (hT : TabOK P T.l)
variable {Γ : Ctx} {I : Imm} {ρ : Ren} {r : List (Nat × Option Obj)} {us : List Nat} {w : World} {nm : Nat}

/-- 'for i in l': the first false one ends it. -/
theorem all_run {q : Nat → Sem Bool} {f : Nat → Bool} : ∀ (l : List Nat), (∀ i ∈ l, (q i).run P w = .ok (f i) w) →
    (forIn l ((none, ()) : Option Bool × Unit) fun i _ => do
      if (!(← q i)) = true then pure (ForInStep.done ((some false, ()) : Option Bool × Unit)) else do pure PUnit.unit; pure (ForInStep.yield ((none, ()) : Option Bool × Unit))).run P w =
      .ok (bif l.all f then (none, ()) else (some false, ())) w
  | [], _ => by simp
  | i :: l, h => by
    have hi := h i List.mem_cons_self
    have hl := all_run (q := q) (f := f) l fun j hj => h j (List.mem_cons_of_mem _ hj)
    simp only [List.forIn_cons, Sem.run_bind, hi, Result.andThen_ok, List.all_cons]
    by_cases hf : f i = true
    · simp only [hf, Bool.not_true, Bool.false_eq_true, if_false, Sem.run_bind, Sem.run_pure, Result.andThen_ok, Bool.true_and]
      simpa using hl
    · rw [Bool.not_eq_true] at hf
      simp [hf]

theorem vec_at {sz n : Nat} {g : Nat → A} {vs : List Value} (hw : (A.vec sz n g).wf) (h : RL I ρ (A.vec sz n g).cells vs) {i : Nat} (hi : i < n) : RL I ρ (g i).cells ((vs.drop (i * sz)).take sz) := by
  have hlen : ∀ j, j < n → ((fun i => (g i).cells) j).length = sz := fun j hj => by
    simp only []
    rw [A.length_cells _ (hw j hj).1, (hw j hj).2.1]
  obtain ⟨l, m, hf, hl, _⟩ := flat_split (f := fun i => (g i).cells) hlen hi
  simp only [A.cells] at h
  rw [hf] at h
  have := h.middle
  rw [hl, hlen i hi] at this
  exact this

include hT in
theorem eqA_ok : ∀ (n : Nat), (∀ (t : Nat) (x y : A) (b : Bool) (c : List Prop) (u v : Value) (m d : Nat), eqA T n t x y = some (b, c) → allP c → R I ρ x u → R I ρ y v → eqTypeOK P m t = true → n ≤ d →
      (Op.equalIn (d + 1) t u v).run P w = .ok b w) ∧
    (∀ (fs : List (Nat × Nat)) (ps qs : List A) (b : Bool) (c : List Prop) (us vs : List Value) (m d : Nat) (fl : List Field), eqFs T n fs ps qs = some (b, c) → allP c → A.wfL ps → A.wfL qs →
      RL I ρ (A.cellsL ps) us → RL I ρ (A.cellsL qs) vs → fl.map (fun f => (f.offset, f.type)) = fs → (fl.all fun f => f.name != "_" && eqTypeOK P m f.type) = true → n ≤ d →
      (Op.eqFields d us.toArray vs.toArray fl).run P w = .ok b w)
  | 0 => by
    refine ⟨fun t x y b c u v m d h => by simp [eqA] at h, fun fs ps qs b c us vs m d fl h hc hp hq hu hv hfl hok hd => ?_⟩
    cases fs with
    | nil =>
      simp only [eqFs, Option.some.injEq, Prod.mk.injEq] at h
      cases fl with
      | nil => simp [Op.eqFields, ← h.1]
      | cons => simp at hfl
    | cons => simp [eqFs] at h
  | n + 1 => by
    obtain ⟨ihA, ihF⟩ := eqA_ok n
    refine ⟨fun t x y b c u v m d h hc hu hv hok hd => ?_, fun fs => ?_⟩
    · unfold eqA at h
      split at h
      · rename_i k hk
        split at h
        · rename_i k1 a k2 b'
          cases hu.int_inv
          cases hv.int_inv
          cases e : Nat.beq (kIdx k1) (kIdx k2) with
          | false => rw [e] at h; cases h
          | true =>
            rw [e] at h
            simp only [cond_true, Option.some.injEq, Prod.mk.injEq] at h
            have hk12 := kIdx_inj (Nat.eq_of_beq_eq_true e)
            subst hk12
            rw [run_equalIn_int _ _ _ _ _ _ _ (Tab.int hT hk), ← h.1, beq_dec]
        · cases h
      · rename_i hk
        split at h
        · cases hu.bool_inv
          cases hv.bool_inv
          simp only [Option.some.injEq, Prod.mk.injEq] at h
          obtain ⟨uu, hun, hd'⟩ := Tab.under hT hk (by simp)
          have : P.underlying t = some .bool := by
            cases uu <;> simp [tdOf] at hd'
            exact hun
          rw [run_equalIn_bool' _ _ _ _ _ this, ← h.1]
        · cases h
      · rename_i hk
        split at h
        · cases hu.str_inv
          cases hv.str_inv
          simp only [Option.some.injEq, Prod.mk.injEq] at h
          rw [run_equalIn_string _ _ _ _ _ (Tab.str hT hk), ← h.1]
          rw [← beq_toListBytes]
          congr 1
          rename_i a b'
          show (a.toArray == b'.toArray) = decide (a = b')
          rw [beq_dec]
          simp
        · cases h
      · rename_i len e hk
        split at h
        · rename_i s1 m1 g s2 m2 g'
          split at h
          · rename_i k se _ _ _ hti
            cases e1 : Nat.beq se 1 && (Nat.beq s1 1 && (Nat.beq s2 1 && (Nat.beq len m1 && Nat.beq len m2))) with
            | false => rw [e1] at h; cases h
            | true =>
              rw [e1] at h
              simp only [cond_true, Option.some.injEq, Prod.mk.injEq] at h
              obtain ⟨h1, h2⟩ := andb e1
              obtain ⟨h2, h3⟩ := andb h2
              obtain ⟨h3, h4⟩ := andb h3
              obtain ⟨h4, h5⟩ := andb h4
              have h1 := beqn h1
              have h2 := beqn h2
              have h3 := beqn h3
              have h4 := beqn h4
              have h5 := beqn h5
              subst h1 h2 h3 h4 h5
              obtain ⟨hb, rfl⟩ := h
              obtain ⟨hint, _⟩ := hc
              obtain ⟨us, rfl, hwx, hrx⟩ := hu.agg_inv rfl
              obtain ⟨vs, rfl, hwy, hry⟩ := hv.agg_inv rfl
              obtain ⟨⟨ue, hue, hde⟩, ⟨i, hi, his, _, _⟩, _, _⟩ := hT e _ hti
              simp only at hde his
              have hui : P.underlying e = some (.int k) := by
                cases ue <;> simp [tdOf] at hde
                rw [hue, hde]
              have hul := hrx.length
              have hvl := hry.length
              rw [A.length_cells _ hwx] at hul
              rw [A.length_cells _ hwy] at hvl
              simp only [A.size, Nat.mul_one] at hul hvl
              simp only [Op.equalIn, Sem.run_bind, run_underlying (Tab.array hT hk), Result.andThen_ok, sizeOf_run hi, his, Std.Legacy.Range.forIn_eq_forIn_range', Std.Legacy.Range.size, Nat.sub_zero, Nat.add_sub_cancel, Nat.div_one]
              have key : ∀ j ∈ List.range' 0 len 1, ((do
                  let a ← part e us.toArray (j * 1)
                  let b ← part e vs.toArray (j * 1)
                  Op.equalIn d e a b) : Sem Bool).run P w = .ok (aeq (g j) (g' j)) w := fun j hj => by
                have hj : j < len := by simpa using (List.mem_range'_1.1 hj).2
                obtain ⟨⟨a, ha⟩, ⟨a', ha'⟩⟩ := hint j hj
                have e1 := vec_at hwx hrx hj
                have e2 := vec_at hwy hry hj
                rw [ha] at e1
                rw [ha'] at e2
                have hp1 := part_ok (P := P) (w := w) hue hi (vs := us) (o := j * 1) (y := .int k a) (by simp [A.wf]) (by simp [A.size, his]) (by rw [hde]; rfl) (by simpa [A.size] using e1) (by simp [A.size]; omega)
                have hp2 := part_ok (P := P) (w := w) hue hi (vs := vs) (o := j * 1) (y := .int k a') (by simp [A.wf]) (by simp [A.size, his]) (by rw [hde]; rfl) (by simpa [A.size] using e2) (by simp [A.size]; omega)
                obtain ⟨x1, hx1, hr1⟩ := hp1
                obtain ⟨x2, hx2, hr2⟩ := hp2
                cases hr1.int_inv
                cases hr2.int_inv
                obtain ⟨d', rfl⟩ : ∃ d', d = d' + 1 := ⟨d - 1, by omega⟩
                simp only [Sem.run_bind, hx1, hx2, Result.andThen_ok, run_equalIn_int _ _ _ _ _ _ _ hui, ha, ha', aeq, beq_dec]
              have hall := all_run (P := P) (w := w) _ key
              simp only [Sem.run_bind, bind_assoc, Sem.run_pure, Result.andThen_ok] at hall ⊢
              rw [List.range_eq_range'] at hb
              rw [hall, hb]
              cases b <;> simp
          · cases h
        · cases h
      · rename_i fs hk
        split at h
        · rename_i ps qs
          have h : eqFs T n fs ps qs = some (b, c) := h
          obtain ⟨us, rfl, hwx, hrx⟩ := hu.agg_inv rfl
          obtain ⟨vs, rfl, hwy, hry⟩ := hv.agg_inv rfl
          obtain ⟨fl, hun, hfl⟩ := Tab.struct hT hk
          have hfo : P.fieldsOf t = fl := by simp [Program.fieldsOf, hun]
          have hok' : P.stoodInHeld t = false ∧ ∃ m', (fl.toList.all fun f => f.name != "_" && eqTypeOK P m' f.type) = true := by
            cases m with
            | zero => simp [eqTypeOK] at hok
            | succ m =>
              simp only [eqTypeOK, hun, Bool.and_eq_true, Bool.not_eq_true'] at hok
              exact ⟨hok.1, m, hok.2⟩
          obtain ⟨hsi, m', hall⟩ := hok'
          rw [run_equalIn_struct w d t _ _ (by rw [hfo]; exact hun) hsi, hfo]
          exact ihF fs ps qs b c us vs m' d fl.toList h hc hwx hwy hrx hry hfl hall (by omega)
        · cases h
      · cases h
    · induction fs with
      | nil =>
        intro ps qs b c us vs m d fl h hc hp hq hu hv hfl hok hd
        simp only [eqFs, eqFsW, Option.some.injEq, Prod.mk.injEq] at h
        cases fl with
        | nil => simp [Op.eqFields, ← h.1]
        | cons => simp at hfl
      | cons f fs ih =>
        intro ps qs b c us vs m d fl h hc hp hq hu hv hfl hok hd
        obtain ⟨off, ft⟩ := f
        cases fl with
        | nil => simp at hfl
        | cons f fl =>
          simp only [List.map_cons, List.cons.injEq, Prod.mk.injEq] at hfl
          obtain ⟨⟨rfl, rfl⟩, hfl⟩ := hfl
          simp only [List.all_cons, Bool.and_eq_true] at hok
          obtain ⟨⟨hname, hft⟩, hok⟩ := hok
          have h : eqFsW (eqA T n) T ((f.offset, f.type) :: fs) ps qs = some (b, c) := h
          unfold eqFsW at h
          split at h
          · cases h
          · rename_i a ha
            split at h
            · cases h
            · rename_i a' ha'
              split at h
              · cases h
              · rename_i dd sz _ _ _ hti
                obtain ⟨⟨ue, hue, hde⟩, ⟨i, hi, his, _, _⟩, _, _⟩ := hT _ _ hti
                simp only at hde his
                cases e1 : Nat.beq a.size sz && Nat.beq a'.size sz with
                | false => rw [e1] at h; cases h
                | true =>
                  rw [e1] at h
                  simp only [cond_true] at h
                  split at h
                  · cases h
                  · rename_i r1 c1 hr1
                    split at h
                    · cases h
                    · rename_i r2 c2 hr2
                      simp only [Option.some.injEq, Prod.mk.injEq] at h
                      obtain ⟨hb, rfl⟩ := h
                      obtain ⟨ha1, ha2, hc⟩ := hc
                      obtain ⟨hc1, hc2⟩ := allP_append.1 hc
                      obtain ⟨e1, e2⟩ := andb e1
                      have e1 := beqn e1
                      have e2 := beqn e2
                      obtain ⟨l1, m1, hps, hl1, _⟩ := partL_ok ps _ a ha
                      obtain ⟨l2, m2, hqs, hl2, _⟩ := partL_ok qs _ a' ha'
                      have hwa := hp; have hwb := hq
                      rw [hps, wfL_append] at hwa
                      rw [hqs, wfL_append] at hwb
                      have hra := hu; have hrb := hv
                      rw [hps, cellsL_append, A.cellsL, ← List.append_assoc] at hra
                      rw [hqs, cellsL_append, A.cellsL, ← List.append_assoc] at hrb
                      have hla := hra.length
                      have hlb := hrb.length
                      have q1 := hra.middle
                      have q2 := hrb.middle
                      rw [A.length_cellsL _ hwa.1, hl1, A.length_cells _ hwa.2.1] at q1
                      rw [A.length_cellsL _ hwb.1, hl2, A.length_cells _ hwb.2.1] at q2
                      simp only [List.length_append, A.length_cellsL _ hwa.1, hl1, A.length_cells _ hwa.2.1] at hla
                      simp only [List.length_append, A.length_cellsL _ hwb.1, hl2, A.length_cells _ hwb.2.1] at hlb
                      obtain ⟨x1, hx1, hr1'⟩ := part_ok (P := P) (w := w) hue hi (vs := us) (o := f.offset) (y := a) hwa.2.1 (by omega) (by rw [ha1, hde]) q1 (by omega)
                      obtain ⟨x2, hx2, hr2'⟩ := part_ok (P := P) (w := w) hue hi (vs := vs) (o := f.offset) (y := a') hwb.2.1 (by omega) (by rw [ha2, hde]) q2 (by omega)
                      obtain ⟨d', rfl⟩ : ∃ d', d = d' + 1 := ⟨d - 1, by omega⟩
                      have q := ihA _ _ _ _ _ _ _ m d' hr1 hc1 hr1' hr2' hft (by omega)
                      have hn : f.name ≠ "_" := by simpa using hname
                      simp only [Op.eqFields, if_pos hn, Sem.run_bind, hx1, hx2, q, Result.andThen_ok]
                      cases r1 with
                      | false =>
                        simp only [Bool.not_false, if_true, Sem.run_pure, ← hb, Bool.false_and]
                      | true =>
                        simp only [Bool.not_true, Bool.false_eq_true, if_false]
                        rw [ih ps qs r2 c2 us vs m (d' + 1) fl hr2 hc2 hp hq hu hv hfl hok hd, ← hb, Bool.true_and]
theorem RL.vec {I : Imm} {ρ : Ren} {sz : Nat} {g : Nat → A} {cs : List Value} : ∀ (n : Nat), cs.length = n * sz → (∀ i, i < n → RL I ρ (g i).cells ((cs.drop (i * sz)).take sz)) → RL I ρ ((List.range n).flatMap fun i => (g i).cells) cs := by
  intro n
  induction n generalizing cs with
  | zero =>
    intro hl _
    have : cs = [] := by simpa using hl
    subst this
    exact .nil
  | succ n ih =>
    intro hl h
    rw [List.range_succ, List.flatMap_append]
    rw [Nat.succ_mul] at hl
    have h1 := ih (cs := cs.take (n * sz)) (by simp; omega) (fun i hi => by
      have := h i (by omega)
      have e : ((cs.take (n * sz)).drop (i * sz)).take sz = (cs.drop (i * sz)).take sz := by
        have hm := Nat.mul_le_mul_right sz (show i + 1 ≤ n by omega)
        rw [Nat.succ_mul] at hm
        rw [List.drop_take, List.take_take, Nat.min_eq_left (by omega)]
      rw [e]; exact this)
    have h2 := h n (by omega)
    have e2 : (cs.drop (n * sz)).take sz = cs.drop (n * sz) := List.take_of_length_le (by simp; omega)
    rw [e2] at h2
    have := RL.append h1 h2
    rw [List.take_append_drop] at this
    simpa using this

/-! ### copy -/
theorem splice_at {l es : List Value} {a m i sz : Nat} (hes : es.length = m * sz) (hl : a * sz + m * sz ≤ l.length) :
    ((spliceL l (a * sz) es).drop (i * sz)).take sz = if a ≤ i ∧ i < a + m then (es.drop ((i - a) * sz)).take sz else (l.drop (i * sz)).take sz := by
  apply List.ext_getElem?
  intro q
  have hle : (l.take (a * sz)).length = a * sz := by rw [List.length_take]; omega
  by_cases hq : q < sz
  · rw [slice_get, if_pos hq]
    unfold spliceL
    rw [List.append_assoc]
    by_cases h1 : a ≤ i
    · have e1 : a * sz ≤ i * sz := Nat.mul_le_mul_right _ h1
      rw [List.getElem?_append_right (by omega), hle]
      by_cases h2 : i < a + m
      · have e2 : (i - a + 1) * sz ≤ m * sz := Nat.mul_le_mul_right _ (by omega)
        rw [Nat.succ_mul, Nat.sub_mul] at e2
        rw [if_pos ⟨h1, h2⟩, slice_get, if_pos hq, List.getElem?_append_left (by omega), Nat.sub_mul]
        congr 1
        omega
      · have e2 : (a + m) * sz ≤ i * sz := Nat.mul_le_mul_right _ (by omega)
        rw [Nat.add_mul] at e2
        rw [if_neg (by omega), slice_get, if_pos hq, List.getElem?_append_right (by omega), List.getElem?_drop]
        congr 1
        omega
    · have e1 : (i + 1) * sz ≤ a * sz := Nat.mul_le_mul_right _ (by omega)
      rw [Nat.succ_mul] at e1
      rw [if_neg (by omega), slice_get, if_pos hq, List.getElem?_append_left (by omega), List.getElem?_take_of_lt (by omega)]
  · rw [slice_get, if_neg hq]
    split <;> rw [slice_get, if_neg hq]
theorem spliceF_at (g h : Nat → A) (o m i : Nat) : spliceF g o m h i = if o ≤ i ∧ i < o + m then h (i - o) else g i := by
  unfold spliceF
  by_cases h1 : o ≤ i
  · rw [Nat.ble_eq_true_of_le h1]
    by_cases h2 : i < o + m
    · have : Nat.blt i (o + m) = true := by simp [Nat.blt]; omega
      rw [this, if_pos ⟨h1, h2⟩]; rfl
    · have : Nat.blt i (o + m) = false := by
        cases e : Nat.blt i (o + m) with
        | false => rfl
        | true => simp [Nat.blt] at e; omega
      rw [this, if_neg (by omega)]; rfl
  · have : Nat.ble o i = false := by
      cases e : Nat.ble o i with
      | false => rfl
      | true => exact absurd (Nat.le_of_ble_eq_true e) h1
    rw [this, if_neg (by omega)]; rfl

/-- The elements that are copied. -/
theorem Elems.take {sz n k : Nat} {g : Nat → A} {cs : List Value} (h : Elems I sz n g cs) (hk : k ≤ n) : Elems I sz k g (cs.take (k * sz)) := by
  have hm := Nat.mul_le_mul_right sz hk
  refine ⟨by rw [List.length_take, h.len]; omega, fun i hi => h.ok i (by omega), fun i hi => ?_, fun v hv => h.one v (List.mem_of_mem_take hv)⟩
  have := h.at_ i (by omega)
  have e : (i + 1) * sz ≤ k * sz := Nat.mul_le_mul_right _ hi
  rw [Nat.succ_mul] at e
  rw [List.drop_take, List.take_take, Nat.min_eq_left (by omega)]
  exact this

theorem spliceF_none (g h : Nat → A) (o : Nat) : spliceF g o 0 h = g := by
  funext i
  rw [spliceF_at, if_neg (by omega)]

include hT in
theorem copy_ok {dT sT ty e : Nat} {se be : Nat} {d : TD} {z : A} {q : Bool} (hs : T.d dT = .slice e) (hti : nth T.l e = some ⟨d, se, be, z, q⟩) {s x : A} {sv xv : Value} {obs : List Obj} {out : Out}
    (hp : copyV se s x obs = some out) (hc : allP out.c) (h : RW Γ I ρ r us w) (hsR : R I ρ s sv) (hxR : R I ρ x xv) (ho : looks r (idOf s ++ idOf x) = some obs) :
    ∃ u w', (Builtin.copy_ #[dT, sT] ty #[sv, xv]).run P w = .ok u w' ∧ Done Γ I ρ r us nm out (.ok (.value u) w') := by
  obtain ⟨_, ⟨i, hi, hse, hbe, hz⟩, _, _⟩ := hT e _ hti
  simp only at hse
  have hu := Tab.slice hT hs
  obtain ⟨o1, o2, rfl, hos, hox⟩ := looks_append ho
  -- what runs, if nothing is to be copied, and else
  have runs : ∀ {sz m n c : Nat} {hh : Nat → A} {cs : List Value} {a : Option Addr}, sz = se → Reads P I w xv sz m hh cs → ∀ w1, (match a with | some a => (storeCells a (cs.take (min m n * sz))).run P w = .ok () w1 | none => w1 = w) →
      (Builtin.copy_ #[dT, sT] ty #[.slice a n c, xv]).run P w = .ok (.int .i64 ((min m n : Nat) : Int)) w1 := fun {sz m n c hh cs a} hsz hR w1 hw1 => by
    subst hsz
    have hf := hR.first (min m n) (Nat.min_le_left _ _) w rfl
    rw [show min m n = Nat.min m n from rfl] at hf hw1 ⊢
    have hgi : ∀ q : Nat, Value.int .i64 (q : Int) = goInt q := fun _ => rfl
    rw [hgi]
    cases a with
    | none =>
      simp only at hw1
      subst hw1
      simp [Builtin.copy_, run_underlying hu, hR.len, Go.sizeOf, typeInfo, hi, hse, hf]
    | some a =>
      simp only at hw1
      simp [Builtin.copy_, run_underlying hu, hR.len, Go.sizeOf, typeInfo, hi, hse, hf, hw1]
  unfold copyV at hp
  split at hp
  · rename_i sz id off n sz1 k g obs' heq
    obtain ⟨ob, rfl, hlk⟩ := looks_one (show looks r [id] = _ from hos)
    simp only [List.singleton_append, List.cons.injEq] at heq
    obtain ⟨rfl, rfl⟩ := heq
    split at hp
    · rename_i sz' m hh c he
      cases e1 : Nat.beq sz sz' && (Nat.beq sz sz1 && Nat.beq sz se) with
      | false => rw [e1] at hp; cases hp
      | true =>
        rw [e1] at hp
        simp only [cond_true, Option.some.injEq] at hp
        subst hp
        obtain ⟨a1, a2⟩ := andb e1
        obtain ⟨a2, a3⟩ := andb a2
        have a1 := beqn a1; have a2 := beqn a2; have a3 := beqn a3
        subst a1 a2
        obtain ⟨hc1, hc2⟩ := hc
        obtain ⟨cs, hR⟩ := elems0_ok (P := P) (o2 := []) h hxR hox (by rw [List.append_nil]; exact he) hc2
        by_cases h0 : min m n = 0
        · have hr : RW Γ I ρ ((id, some (.arr sz k (spliceF g off (min m n) hh))) :: r) us w := by
            rw [h0, spliceF_none]
            refine h.congr fun q => ?_
            rw [look_cons]
            by_cases e : id = q
            · subst e; rw [if_pos rfl, hlk]
            · rw [if_neg e]
          have hv : ∃ a c', sv = .slice a n c' := by
            cases hsR with
            | agg hx _ _ => cases hx
            | own a b c => exact ⟨_, _, rfl⟩
            | own0 => exact ⟨_, _, rfl⟩
          obtain ⟨a, c', rfl⟩ := hv
          refine ⟨_, w, runs a3 hR w ?_, _, _, _, ρ, rfl, rfl, Ren.le.refl _, hr, .int⟩
          cases a with
          | none => rfl
          | some a => simp only [h0, Nat.zero_mul, List.take_zero, storeCells]; rfl
        · cases hsR with
          | agg hx _ _ => cases hx
          | own0 => exact absurd (Nat.min_zero m) h0
          | own hb hn hN =>
            rename_i b N c'
            obtain ⟨vs, e', fz, hh', hNs, hfz, hH, h1⟩ := h.cells hlk hb (by rintro z ks g ⟨⟩)
            have hE := hR.el.take (Nat.min_le_left m n)
            have hmn := Nat.min_le_right m n
            have l1 : off * sz + min m n * sz ≤ k * sz := by
              rw [← Nat.add_mul]; exact Nat.mul_le_mul_right _ (by omega)
            have hkN := hH.1
            have hrun := run_storeCells (P := P) (o := off * sz) hh' (news := cs.take (min m n * sz)) (by rw [hE.len]; simp only [Array.length_toList] at hkN; omega) (by rw [hNs]; exact hfz) hE.one
            refine ⟨_, _, runs a3 hR _ hrun, _, _, _, ρ, rfl, rfl, Ren.le.refl _, h.put hlk hb (ob' := .arr sz k (spliceF g off (min m n) hh)) ⟨?_, hfz, ?_, ?_⟩, .int⟩
            · rw [List.size_toArray, spliceL_length (by rw [hE.len]; omega)]; simpa using hNs
            · show HoldsC I ρ _ (spliceL vs.toList (off * sz) _)
              refine ⟨by rw [spliceL_length (by rw [hE.len]; omega)]; exact hkN, fun i hi => ?_, fun i hi => ?_⟩
              · rw [spliceF_at]
                split
                · exact hE.ok _ (by omega)
                · exact hH.2.1 i hi
              · rw [spliceF_at, splice_at hE.len (by omega)]
                split
                · exact hE.at_ _ (by omega)
                · exact hH.2.2 i hi
            · intro u hu'
              rcases mem_spliceL (by simpa using hu') with hu' | hu'
              · exact h1 u hu'
              · exact hE.one u hu'
    · cases hp
  · rename_i sz id path o n x0 obs' heq
    obtain ⟨ob, rfl, hlk⟩ := looks_one (show looks r [id] = _ from hos)
    simp only [List.singleton_append, List.cons.injEq] at heq
    obtain ⟨rfl, rfl⟩ := heq
    split at hp
    · rename_i sz1 k g c1 sz' m hh c hgp he
      cases e1 : Nat.beq sz sz' && (Nat.beq sz sz1 && Nat.beq sz se) with
      | false => rw [e1] at hp; cases hp
      | true =>
        rw [e1] at hp
        simp only [cond_true, Option.some.injEq] at hp
        subst hp
        obtain ⟨a1, a2⟩ := andb e1
        obtain ⟨a2, a3⟩ := andb a2
        have a1 := beqn a1; have a2 := beqn a2; have a3 := beqn a3
        subst a1 a2
        obtain ⟨hcn, hc1, hc2⟩ := hc
        obtain ⟨hc2, hc3⟩ := allP_append.1 hc2
        obtain ⟨cs, hR⟩ := elems0_ok (P := P) (o2 := []) h hxR hox (by rw [List.append_nil]; exact he) hc3
        · cases hsR with
          | agg hx _ _ => cases hx
          | vsl0 => exact absurd hcn (Nat.lt_irrefl _)
          | vsl hb hn hN =>
            rename_i b N c'
            obtain ⟨vs, e', fz, hh', hNs, hfz, hH, h1⟩ := h.cells hlk hb (by rintro z ks g ⟨⟩)
            have hE := hR.el.take (Nat.min_le_left m n)
            have hmn := Nat.min_le_right m n
            obtain ⟨k1, k2, k3, _, _, k5⟩ := getP_ok (I := I) (ρ := ρ) path x0 _ c1 hH.1 hgp hc2
            have hxl := hH.2.length
            rw [A.length_cells _ hH.1] at hxl
            have k5 := k5 _ hH.2
            have kl := k5.length
            rw [A.length_cells _ k1] at kl
            have l1 : o * sz + min m n * sz ≤ k * sz := by
              rw [← Nat.add_mul]; exact Nat.mul_le_mul_right _ (by omega)
            have hvk : (A.vec sz k g).size = k * sz := rfl
            rw [hvk] at k2 kl k5
            have hrun := run_storeCells (P := P) (o := addr path + o * sz) hh' (news := cs.take (min m n * sz)) (by rw [hE.len]; simp only [Array.length_toList] at hxl; omega) (by rw [hNs]; exact hfz) hE.one
            have hw' : (A.vec sz k (spliceF g o (min m n) hh)).wf := fun i hi => by
              rw [spliceF_at]
              split
              · exact hE.ok _ (by omega)
              · exact k1 i hi
            have hpu : (A.vec sz k (spliceF g o (min m n) hh)).pureP := fun i hi => (hw' i hi).2.2
            obtain ⟨s1, s2, s3, s4⟩ := setP_ok (I := I) (ρ := ρ) path x0 (.vec sz k (spliceF g o (min m n) hh)) _ c1 hH.1 hgp hc2 hw' rfl (fun _ => hpu)
            have hnew : RL I ρ (A.vec sz k (spliceF g o (min m n) hh)).cells (spliceL ((vs.toList.drop (addr path)).take (k * sz)) (o * sz) (cs.take (min m n * sz))) := by
              have ll : ((vs.toList.drop (addr path)).take (k * sz)).length = k * sz := by rw [List.length_take, List.length_drop]; omega
              refine RL.vec k (by rw [spliceL_length (by rw [hE.len, ll]; omega), ll]) fun i hi => ?_
              rw [spliceF_at, splice_at hE.len (by rw [ll]; omega)]
              split
              · exact (hE.at_ _ (by omega)).mono (Imm.le.refl I) (Ren.le.nr ρ)
              · exact vec_at k1 k5 hi
            have hfin := s4 _ _ hH.2 hnew
            have hsp := spliceL_deep vs.toList (addr path) (k * sz) (o * sz) (cs.take (min m n * sz)) (by rw [hE.len]; omega) (by omega)
            rw [hsp] at hfin
            refine ⟨_, _, runs a3 hR _ hrun, _, _, _, ρ, rfl, rfl, Ren.le.refl _, h.put hlk hb (ob' := .var (setP path x0 (.vec sz k (spliceF g o (min m n) hh)))) ⟨?_, hfz, ⟨s1, hfin⟩, ?_⟩, .int⟩
            · rw [List.size_toArray, spliceL_length (by rw [hE.len]; omega)]; simpa using hNs
            · intro u hu'
              rcases mem_spliceL (by simpa using hu') with hu' | hu'
              · exact h1 u hu'
              · exact hE.one u hu'
    · cases hp
  · cases hp
end
end VX

/- VX 20: every operation that calls no Go function. -/
namespace VX
open Go

section
variable {P : Program} {T : Tab} (hT : TabOK P T.l)
variable {Γ : Ctx} {I : Imm} {ρ : Ren} {r : List (Nat × Option Obj)} {us : List Nat} {w : World} {nm : Nat}

theorem eqGuard_ok {op : BinOp} {t : Nat} {x y : Operand} {a b : Value} (h1 : ∀ us vs, a = .agg us → b = .agg vs → P.eqGuardType P.depth t = false) (h2 : a ≠ .nilIface) : (eqGuard op t x y a b).run P w = .ok () w := by
  cases op <;> (try rfl) <;> cases a <;> (try rfl) <;> (try exact absurd rfl h2) <;> cases b <;> (try rfl)
  · exact run_eqGuard_agg w .eql t x y _ _ (h1 _ _ rfl rfl)
  · exact run_eqGuard_agg w .neq t x y _ _ (h1 _ _ rfl rfl)

/-- Equality as the program has it. -/
theorem binOp_equal {op : BinOp} {t : Nat} {u v : Value} {b : Bool} (hu : (∀ k n, u ≠ .int k n) ∧ (∀ s, u ≠ .string s) ∧ (∀ k n, u ≠ .float k n) ∧ (∀ k n m, u ≠ .complex k n m)) (he : (Op.equal t u v).run P w = .ok b w) :
    (op = .eql → (Go.binOp op t u v).run P w = .ok (.bool b) w) ∧ (op = .neq → (Go.binOp op t u v).run P w = .ok (.bool !b) w) := by
  obtain ⟨h1, h2, h3, h4⟩ := hu
  constructor
  · rintro rfl
    unfold Go.binOp
    split <;> (try (rename_i e _ _; cases e; done)) <;> (try (rename_i e _; cases e; done)) <;> (try (rename_i e; cases e; done)) <;> (try exact absurd rfl (h1 _ _)) <;> (try exact absurd rfl (h2 _)) <;> (try exact absurd rfl (h3 _ _)) <;> (try exact absurd rfl (h4 _ _ _))
    all_goals simp_all [Sem.run_bind]
  · rintro rfl
    unfold Go.binOp
    split <;> (try (rename_i e _ _; cases e; done)) <;> (try (rename_i e _; cases e; done)) <;> (try (rename_i e; cases e; done)) <;> (try exact absurd rfl (h1 _ _)) <;> (try exact absurd rfl (h2 _)) <;> (try exact absurd rfl (h3 _ _)) <;> (try exact absurd rfl (h4 _ _ _))
    all_goals simp_all [Sem.run_bind]

theorem eqRes_ok {op : BinOp} {t : Nat} {u v : Value} {q : Option (Bool × List Prop)} {out : Out} (hp : eqRes op q = some out) (hc : allP out.c) (hu : (∀ k n, u ≠ .int k n) ∧ (∀ s, u ≠ .string s) ∧ (∀ k n, u ≠ .float k n) ∧ (∀ k n m, u ≠ .complex k n m))
    (he : ∀ b c, q = some (b, c) → allP c → (Op.equal t u v).run P w = .ok b w) (h : RW Γ I ρ r us w) :
    ∃ z, (Go.binOp op t u v).run P w = .ok z w ∧ Done Γ I ρ r us nm out (.ok (.value z) w) := by
  unfold eqRes at hp
  split at hp
  · rename_i b c
    split at hp
    · cases hp
      have := he b _ rfl hc
      exact ⟨_, (binOp_equal hu this).1 rfl, .value h .bool⟩
    · cases hp
      have := he b _ rfl hc
      exact ⟨_, (binOp_equal hu this).2 rfl, .value h .bool⟩
    · cases hp
  · cases hp

theorem eqlNil_run {op : BinOp} {t : Nat} {u v : Value} {b : Bool} {out : Out} (hp : eqlNil op b = some out) (hu : (∀ k n, u ≠ .int k n) ∧ (∀ s, u ≠ .string s) ∧ (∀ k n, u ≠ .float k n) ∧ (∀ k n m, u ≠ .complex k n m))
    (he : (Op.equal t u v).run P w = .ok b w) (h : RW Γ I ρ r us w) :
    ∃ z, (Go.binOp op t u v).run P w = .ok z w ∧ Done Γ I ρ r us nm out (.ok (.value z) w) := by
  rcases eqlNil_ok (nm := nm) hp h with ⟨e, h⟩ | ⟨e, h⟩
  · exact ⟨_, (binOp_equal hu he).1 e, h⟩
  · exact ⟨_, (binOp_equal hu he).2 e, h⟩

theorem eq_ptr_ (d : Nat) {t e : Nat} (hu : P.underlying t = some (.pointer e)) (b : Option Addr) : (Op.equalIn (d + 1) t (.pointer none) (.pointer b)).run P w = .ok b.isNone w := by
  simp only [Op.equalIn, Sem.run_bind, run_underlying hu, Result.andThen_ok, Sem.run_pure]
theorem eq_ptr {t e : Nat} (hu : P.underlying t = some (.pointer e)) (b : Option Addr) : (Op.equal t (.pointer none) (.pointer b)).run P w = .ok b.isNone w :=
  eq_ptr_ 9999 hu b
theorem eq_ptr'_ (d : Nat) {t e : Nat} (hu : P.underlying t = some (.pointer e)) (b : Addr) : (Op.equalIn (d + 1) t (.pointer (some b)) (.pointer none)).run P w = .ok false w := by
  simp only [Op.equalIn, Sem.run_bind, run_underlying hu, Result.andThen_ok, Sem.run_pure]
theorem eq_ptr' {t e : Nat} (hu : P.underlying t = some (.pointer e)) (b : Addr) : (Op.equal t (.pointer (some b)) (.pointer none)).run P w = .ok false w :=
  eq_ptr'_ 9999 hu b
theorem eq_slice_ (d : Nat) {t e : Nat} (hu : P.underlying t = some (.slice e)) (b : Option Addr) (n m k l : Nat) : (Op.equalIn (d + 1) t (.slice none n m) (.slice b k l)).run P w = .ok b.isNone w := by
  simp only [Op.equalIn, Sem.run_bind, run_underlying hu, Result.andThen_ok, Sem.run_pure]
theorem eq_slice {t e : Nat} (hu : P.underlying t = some (.slice e)) (b : Option Addr) (n m k l : Nat) : (Op.equal t (.slice none n m) (.slice b k l)).run P w = .ok b.isNone w :=
  eq_slice_ 9999 hu b n m k l
theorem eq_func_ (d : Nat) {t : Nat} {a b c} (hu : P.underlying t = some (.func a b c)) : (Op.equalIn (d + 1) t .nilFunc .nilFunc).run P w = .ok true w := by
  simp only [Op.equalIn, Sem.run_bind, run_underlying hu, Result.andThen_ok, Sem.run_pure]
theorem eq_func {t : Nat} {a b c} (hu : P.underlying t = some (.func a b c)) : (Op.equal t .nilFunc .nilFunc).run P w = .ok true w :=
  eq_func_ 9999 hu
theorem eq_func1_ (d : Nat) {t : Nat} {a b c} (hu : P.underlying t = some (.func a b c)) (f : Fn) (x y : Array Value) : (Op.equalIn (d + 1) t .nilFunc (.func f x y)).run P w = .ok false w := by
  simp only [Op.equalIn, Sem.run_bind, run_underlying hu, Result.andThen_ok, Sem.run_pure]
theorem eq_func1 {t : Nat} {a b c} (hu : P.underlying t = some (.func a b c)) (f : Fn) (x y : Array Value) : (Op.equal t .nilFunc (.func f x y)).run P w = .ok false w :=
  eq_func1_ 9999 hu f x y
theorem eq_func2_ (d : Nat) {t : Nat} {a b c} (hu : P.underlying t = some (.func a b c)) (f : Fn) (x y : Array Value) : (Op.equalIn (d + 1) t (.func f x y) .nilFunc).run P w = .ok false w := by
  simp only [Op.equalIn, Sem.run_bind, run_underlying hu, Result.andThen_ok, Sem.run_pure]
theorem eq_func2 {t : Nat} {a b c} (hu : P.underlying t = some (.func a b c)) (f : Fn) (x y : Array Value) : (Op.equal t (.func f x y) .nilFunc).run P w = .ok false w :=
  eq_func2_ 9999 hu f x y

include hT in
theorem Tab.pointer {t e : Nat} (h : T.d t = .pointer e) : P.underlying t = some (.pointer e) := by
  obtain ⟨u, hu, hd⟩ := Tab.under hT h (by simp)
  cases u <;> simp [tdOf] at hd
  rw [hu, hd]

theorem Tab.eqok_of {t : Nat} (h : T.eqok t = true) : ∃ ti, nth T.l t = some ti ∧ ti.eqok = true := by
  unfold Tab.eqok at h
  split at h
  · rename_i i hi; exact ⟨i, hi, h⟩
  · cases h

include hT in
theorem eqV_ok {op : BinOp} {t : Nat} {x y : A} {u v : Value} {out : Out} (hp : eqV T op t x y = some out) (h : RW Γ I ρ r us w) (hx : R I ρ x u) (hy : R I ρ y v) (hc : allP out.c) {a b : Operand} :
    (eqGuard op t a b u v).run P w = .ok () w ∧ ∃ z, (Go.binOp op t u v).run P w = .ok z w ∧ Done Γ I ρ r us nm out (.ok (.value z) w) := by
  have agg : isAgg x = true → T.eqok t = true → eqRes op (eqA T 8 t x y) = some out → (eqGuard op t a b u v).run P w = .ok () w ∧ ∃ z, (Go.binOp op t u v).run P w = .ok z w ∧ Done Γ I ρ r us nm out (.ok (.value z) w) := fun hx' hq hp => by
    obtain ⟨us', rfl, _, _⟩ := hx.agg_inv hx'
    obtain ⟨ti, hti, hq⟩ := Tab.eqok_of hq
    obtain ⟨g1, g2⟩ := (hT t ti hti).eq hq
    refine ⟨eqGuard_ok (fun _ _ _ _ => g1) (by simp), eqRes_ok hp hc (by simp) (fun b' c' hb hc' => ?_) h⟩
    exact (eqA_ok hT 8).1 t x y b' c' _ v 10 9999 hb hc' hx hy g2 (by decide)
  unfold eqV at hp
  split at hp
  · cases e : T.eqok t with
    | false => rw [e] at hp; cases hp
    | true => rw [e] at hp; exact agg rfl e hp
  · cases e : T.eqok t with
    | false => rw [e] at hp; cases hp
    | true => rw [e] at hp; exact agg rfl e hp
  · cases hx.nilp_inv
    refine ⟨eqGuard_ok (by simp) (by simp), ?_⟩
    split at hp
    · rename_i e he
      have hu := Tab.pointer hT he
      split at hp
      · cases hy.nilp_inv
        exact eqlNil_run hp (by simp) (eq_ptr hu none) h
      · obtain ⟨_, _, rfl, _⟩ := hy.ptr_inv
        exact eqlNil_run hp (by simp) (eq_ptr hu _) h
      · obtain ⟨_, _, rfl, _⟩ := hy.rop_inv
        exact eqlNil_run hp (by simp) (eq_ptr hu _) h
      · cases hp
    · cases hp
  · obtain ⟨_, _, rfl, _⟩ := hx.ptr_inv
    refine ⟨eqGuard_ok (by simp) (by simp), ?_⟩
    split at hp
    · rename_i e he
      have hu := Tab.pointer hT he
      split at hp
      · cases hy.nilp_inv
        exact eqlNil_run hp (by simp) (eq_ptr' hu _) h
      · cases hp
    · cases hp
  · obtain ⟨_, _, rfl, _⟩ := hx.rop_inv
    refine ⟨eqGuard_ok (by simp) (by simp), ?_⟩
    split at hp
    · rename_i e he
      have hu := Tab.pointer hT he
      split at hp
      · cases hy.nilp_inv
        exact eqlNil_run hp (by simp) (eq_ptr' hu _) h
      · cases hp
    · cases hp
  · cases hx.nils_inv
    refine ⟨eqGuard_ok (by simp) (by simp), ?_⟩
    split at hp
    · rename_i e he
      have hu := Tab.slice hT he
      split at hp
      · cases hy.nils_inv
        exact eqlNil_run hp (by simp) (eq_slice hu none _ _ _ _) h
      · cases hp
    · cases hp
  · cases hx.nilf_inv
    refine ⟨eqGuard_ok (by simp) (by simp), ?_⟩
    split at hp
    · rename_i he
      obtain ⟨uu, hu, hd⟩ := Tab.under hT he (by simp)
      split at hp
      · cases hy.nilf_inv
        cases uu <;> simp [tdOf] at hd
        exact eqlNil_run hp (by simp) (eq_func hu) h
      · obtain ⟨_, _, rfl, _⟩ := hy.func_inv
        cases uu <;> simp [tdOf] at hd
        exact eqlNil_run hp (by simp) (eq_func1 hu _ _ _) h
      · cases hp
    · cases hp
  · obtain ⟨_, _, rfl, _⟩ := hx.func_inv
    refine ⟨eqGuard_ok (by simp) (by simp), ?_⟩
    split at hp
    · rename_i he
      obtain ⟨uu, hu, hd⟩ := Tab.under hT he (by simp)
      split at hp
      · cases hy.nilf_inv
        cases uu <;> simp [tdOf] at hd
        exact eqlNil_run hp (by simp) (eq_func2 hu _ _ _) h
      · cases hp
    · cases hp
  · cases hp

include hT in
theorem binOp_ok {op : BinOp} {t : Nat} {x y : A} {u v : Value} {out : Out} (hp : binOp T op t x y = some out) (h : RW Γ I ρ r us w) (hx : R I ρ x u) (hy : R I ρ y v) (hc : allP out.c) {a b : Operand} :
    (eqGuard op t a b u v).run P w = .ok () w ∧ ∃ z, (Go.binOp op t u v).run P w = .ok z w ∧ Done Γ I ρ r us nm out (.ok (.value z) w) := by
  unfold binOp at hp
  split at hp
  · rename_i k a' k' b'
    cases hx.int_inv
    cases hy.int_inv
    refine ⟨eqGuard_ok (by simp) (by simp), ?_⟩
    split at hp
    · simp only [Option.some.injEq] at hp
      subst hp
      have h0 : 0 ≤ b' := hc.1
      exact ⟨.int k (shlI k a' b'), by simp only [binOp_shl, Op.shift, if_neg (Int.not_lt.2 h0), Sem.run_pure]; rfl, .value h .int⟩
    · simp only [Option.some.injEq] at hp
      subst hp
      have h0 : 0 ≤ b' := hc.1
      exact ⟨.int k (shrI k a' b'), by simp only [binOp_shr, Op.shift, if_neg (Int.not_lt.2 h0), Sem.run_pure]; rfl, .value h .int⟩
    · rename_i n1 n2
      cases e : Nat.beq (kIdx k) (kIdx k') with
      | false => rw [e] at hp; cases hp
      | true =>
        rw [e] at hp
        have := kIdx_inj (Nat.eq_of_beq_eq_true e)
        subst this
        exact binInt_ok ⟨n1, n2⟩ hp hc h
  · cases hx.str_inv
    cases hy.str_inv
    exact ⟨eqGuard_ok (by simp) (by simp), binStr_ok hp hc h⟩
  · rename_i a' b'
    cases hx.bool_inv
    cases hy.bool_inv
    refine ⟨eqGuard_ok (by simp) (by simp), ?_⟩
    split at hp
    · rename_i he
      obtain ⟨uu, hu, hd⟩ := Tab.under hT he (by simp)
      cases uu <;> simp [tdOf] at hd
      have heq : (Op.equal t (.bool a') (.bool b')).run P w = .ok (a' == b') w := run_equalIn_bool' w 9999 t a' b' hu
      unfold binBool at hp
      split at hp
      · exact ⟨_, (binOp_equal (by simp) heq).1 rfl, val_done h hp .bool⟩
      · exact ⟨_, (binOp_equal (by simp) heq).2 rfl, val_done h hp .bool⟩
      · cases hp
    · cases hp
  · cases hp

theorem pBinOp_ok {op : BinOp} {t : Nat} {vs : List A} {xs : List Value} {out : Out} (hT : TabOK P T.l) (hp : pBinOp T op t vs = some out) (h : RW Γ I ρ r us w) (hv : RL I ρ vs xs) (hc : allP out.c) {a b : Operand} :
    ∃ u v, xs = [u, v] ∧ (eqGuard op t a b u v).run P w = .ok () w ∧ ∃ z, (Go.binOp op t u v).run P w = .ok z w ∧ Done Γ I ρ r us nm out (.ok (.value z) w) := by
  unfold pBinOp at hp
  split at hp
  · obtain ⟨u, v, rfl, hx, hy⟩ := hv.two_inv
    refine ⟨u, v, rfl, ?_⟩
    split at hp
    · rename_i o ho
      cases hp
      exact binOp_ok hT ho h hx hy hc
    · exact eqV_ok hT hp h hx hy hc
  · cases hp

theorem R.len {x : A} {v : Value} (hx : R I ρ x v) (hs : ∀ l, x ≠ .str l) {n : Nat} (h : lenA x = some n) : ∃ a c, v = .slice a n c := by
  unfold lenA at h
  split at h <;> (try cases h) <;> (try cases hx.nils_inv) <;> (try exact ⟨_, _, rfl⟩)
  · cases hx <;> (try (rename_i e _ _; cases e; done)) <;> exact ⟨_, _, rfl⟩
  · cases hx <;> (try (rename_i e _ _; cases e; done)) <;> exact ⟨_, _, rfl⟩
  · cases hx <;> (try (rename_i e _ _; cases e; done)) <;> exact ⟨_, _, rfl⟩
  · cases hx <;> (try (rename_i e _ _; cases e; done)) <;> exact ⟨_, _, rfl⟩
  · cases hx <;> (try (rename_i e _ _; cases e; done)) <;> exact ⟨_, _, rfl⟩
  · cases hx <;> (try (rename_i e _ _; cases e; done)) <;> exact ⟨_, _, rfl⟩
  · exact absurd rfl (hs _)

theorem appendV_al {se be : Nat} {z s x : A} {obs : List Obj} {out : Out} (h : appendV se be z s x obs nm = some out) : out.al = true := by
  unfold appendV at h
  split at h <;> (try (cases h; done))
  · split at h <;> (try (cases h; done))
    split at h <;> (try (cases h; done))
    rename_i sz' _ _ _ _ _ _
    generalize (Nat.beq _ se && _) = q at h
    cases q <;> cases h
    rfl
  · split at h <;> (try (cases h; done))
    generalize (Nat.beq _ se && _) = q at h
    cases q <;> cases h
    rfl
  · split at h <;> (try (cases h; done))
    generalize (Nat.beq _ se && _) = q at h
    cases q <;> cases h
    rfl
  · split at h <;> (try (cases h; done))
    split at h <;> (try (cases h; done))
    generalize (Nat.beq _ se && _) = q at h
    cases q <;> cases h
    rfl

theorem arr_of_list {α : Type} {a : Array α} {l : List α} (h : a.toList = l) : a = l.toArray := by
  rw [← h]

include hT in
theorem builtin_ok {b : Builtin} {ts : Array TypeId} {ty : TypeId} {cs : Array Bool} {vs : List A} {xs : List Value} {obs : List Obj} {out : Out} (hp : primBuiltin T b ts.toList vs obs nm = some out) (h : RW Γ I ρ r us w)
    (hnm : out.al = true → usedN us nm = false) (hv : RL I ρ vs xs) (ho : looks r (idsOf vs) = some obs) (hc : allP out.c) :
    Done Γ I ρ r us nm out ((Go.builtin b ts ty cs xs.toArray).run P w) := by
  unfold primBuiltin at hp
  split at hp
  · rename_i _ _ t x hts
    obtain ⟨v, rfl, hx⟩ := hv.one_inv
    have hts' : ts = #[t] := by
      have := congrArg List.toArray hts
      simpa using this
    subst hts'
    simp only [Go.builtin]
    split at hp
    · rename_i n e hd
      rw [val_inv hp]
      simp only [Builtin.len_, Sem.run_bind, run_underlying (Tab.array hT hd)]
      simp only [List.getElem?_toArray, List.getElem?_cons_zero, Sem.run_bind, run_underlying (Tab.array hT hd), Result.andThen_ok, Sem.run_pure]
      exact .value h .int
    · rename_i e hd
      split at hp
      · cases hp
      · rename_i hns
        split at hp
        · rename_i n hn
          rw [val_inv hp]
          obtain ⟨a, c, rfl⟩ := hx.len hns hn
          simp only [Builtin.len_, List.getElem?_toArray, List.getElem?_cons_zero, Sem.run_bind, run_underlying (Tab.slice hT hd), Result.andThen_ok, Sem.run_pure]
          exact .value h .int
        · cases hp
    · rename_i hd
      split at hp
      · rename_i l
        rw [val_inv hp]
        cases hx.str_inv
        simp only [Builtin.len_, List.getElem?_toArray, List.getElem?_cons_zero, Sem.run_bind, run_underlying (Tab.str hT hd), Result.andThen_ok, Sem.run_pure]
        exact .value h (by simpa [goInt, ByteArray.size] using R.int)
      · cases hp
    · cases hp
  · rename_i t xt s x hts
    obtain ⟨u, v, rfl, hs, hx⟩ := hv.two_inv
    cases arr_of_list hts
    split at hp
    · rename_i e hd
      split at hp
      · rename_i se be z q hti
        have ho' : looks r (idOf s ++ idOf x) = some obs := by simpa [idsOf] using ho
        split at hp
        · rename_i e' hxt
          obtain ⟨y, w', hrun, hdone⟩ := append_ok (ty := ty) hT hd hti (.inl ⟨e', Tab.slice hT hxt⟩) hp hc h (hnm (appendV_al hp)) hs hx ho'
          simp only [Go.builtin, Sem.run_bind]
          have : [u, v].toArray = #[u, v] := rfl
          have h2 : [t, xt].toArray = #[t, xt] := rfl
          rw [this, h2, hrun]
          simpa [Sem.run_bind] using hdone
        · rename_i hxt
          split at hp
          · obtain ⟨y, w', hrun, hdone⟩ := append_ok (ty := ty) hT hd hti (.inr (Tab.str hT hxt)) hp hc h (hnm (appendV_al hp)) hs hx ho'
            simp only [Go.builtin, Sem.run_bind]
            have : [u, v].toArray = #[u, v] := rfl
            have h2 : [t, xt].toArray = #[t, xt] := rfl
            rw [this, h2, hrun]
            simpa [Sem.run_bind] using hdone
          · cases hp
        · cases hp
      · cases hp
    · cases hp
  · rename_i t xt s x hts
    obtain ⟨u, v, rfl, hs, hx⟩ := hv.two_inv
    cases arr_of_list hts
    split at hp
    · rename_i e hd
      split at hp
      · rename_i se be z q hti
        have ho' : looks r (idOf s ++ idOf x) = some obs := by simpa [idsOf] using ho
        obtain ⟨y, w', hrun, hdone⟩ := copy_ok (nm := nm) (ty := ty) (sT := xt) hT hd hti hp hc h hs hx ho'
        simp only [Go.builtin, Sem.run_bind]
        have : [u, v].toArray = #[u, v] := rfl
        have h2 : [t, xt].toArray = #[t, xt] := rfl
        rw [this, h2, hrun]
        simpa [Sem.run_bind] using hdone
      · cases hp
    · cases hp
  · obtain ⟨u, v, rfl, hs, hx⟩ := hv.two_inv
    cases hs.int_inv
    cases hx.int_inv
    rw [val_inv hp]
    have := run_max_int2 (P := P) w ts ty
    simp only [Go.builtin, Sem.run_bind]
    rw [show [Value.int _ _, Value.int _ _].toArray = #[Value.int _ _, Value.int _ _] from rfl, this]
    simp only [Result.andThen_ok, Sem.run_pure]
    exact .value h .int
  · obtain ⟨u, v, rfl, hs, hx⟩ := hv.two_inv
    cases hs.int_inv
    cases hx.int_inv
    rw [val_inv hp]
    have := run_min_int2 (P := P) w ts ty
    simp only [Go.builtin, Sem.run_bind]
    rw [show [Value.int _ _, Value.int _ _].toArray = #[Value.int _ _, Value.int _ _] from rfl, this]
    simp only [Result.andThen_ok, Sem.run_pure]
    exact .value h .int
  · cases hp
end
end VX

/- VX 21: every operation that calls no Go function. -/
namespace VX
open Go

section
variable {P : Program} {T : Tab} (hT : TabOK P T.l)
variable {Γ : Ctx} {I : Imm} {ρ : Ren} {r : List (Nat × Option Obj)} {us : List Nat} {w : World} {nm : Nat}

theorem run_value {s : Sem Value} {v : Value} {w' : World} (h : s.run P w = .ok v w') : ((do pure (Next.value (← s))) : Sem Next).run P w = .ok (.value v) w' := by
  simp [Sem.run_bind, h]

include hT in
theorem prim_ok {o : Oper} {e : Operand → Value} {vs : List A} {obs : List Obj} {out : Out} (hp : prim T o.op vs obs nm = some out) (h : RW Γ I ρ r us w)
    (hnm : out.al = true → usedN us nm = false) (hv : RL I ρ vs ((opnds o.op).map e)) (ho : looks r (idsOf vs) = some obs) (hc : allP out.c) :
    Done Γ I ρ r us nm out ((execOp e o).run P w) := by
  obtain ⟨dst, op, ty, pos, aft, gd⟩ := o
  simp only at hp hv
  unfold prim at hp
  split at hp
  · -- move
    obtain ⟨x, hx, hd⟩ := move_ok (nm := nm) hp h hv
    simp only [opnds, List.map_cons, List.map_nil, List.cons.injEq, and_true] at hx
    simp only [execOp, Sem.run_pure, hx]
    exact hd
  · obtain ⟨x, hx, hd⟩ := move_ok (nm := nm) hp h hv
    simp only [opnds, List.map_cons, List.map_nil, List.cons.injEq, and_true] at hx
    simp only [execOp, Sem.run_pure, hx]
    exact hd
  · -- pick
    obtain ⟨b, x, y, hx, hd⟩ := pick_ok (nm := nm) hp h hv
    simp only [opnds, List.map_cons, List.map_nil, List.cons.injEq, and_true] at hx
    obtain ⟨h1, h2, h3⟩ := hx
    simp only [execOp, Sem.run_bind, asBool, h1, h2, h3, Sem.run_pure, Result.andThen_ok]
    exact hd
  · obtain ⟨v, w', hr, hd⟩ := alloc_ok (P := P) hT hp h (hnm (by unfold pAlloc at hp; split at hp <;> cases hp; rfl)) hc
    simp only [execOp]
    rw [run_value hr]
    exact hd
  · obtain ⟨x, hx, v, w', hr, hd⟩ := box_ok (P := P) hp h hv (hnm (by unfold pBox at hp; split at hp <;> (try (cases hp; done)); split at hp <;> cases hp; rfl)) hc
    simp only [opnds, List.map_cons, List.map_nil, List.cons.injEq, and_true] at hx
    simp only [execOp, hx]
    rw [run_value hr]
    exact hd
  · rename_i t ps
    obtain ⟨v, hr, hd⟩ := build_ok (P := P) (e := e) (nm := nm) hT hp h (by simpa [opnds, Function.comp_def] using hv) hc
    simp only [execOp]
    rw [run_value hr]
    exact hd
  · rename_i t n ps
    obtain ⟨v, w', hr, hd⟩ := buildSlice_ok (P := P) (e := e) (nm := nm) hT hp h (hnm (by
      unfold pBuildSlice at hp
      split at hp <;> (try (cases hp; done))
      split at hp <;> (try (cases hp; done))
      generalize (sizesOk _ _ && _) = q at hp
      cases q <;> cases hp
      rfl)) (by simpa [opnds, Function.comp_def] using hv) hc
    simp only [execOp]
    rw [run_value hr]
    exact hd
  · obtain ⟨x, hx, v, hr, hd⟩ := load_ok (P := P) (nm := nm) hT hp h hv ho hc
    simp only [opnds, List.map_cons, List.map_nil, List.cons.injEq, and_true] at hx
    simp only [execOp, hx]
    rw [run_value hr]
    exact hd
  · obtain ⟨x, y, hx, w', hr, hd⟩ := store_ok (P := P) (nm := nm) hT hp h hv ho hc
    simp only [opnds, List.map_cons, List.map_nil, List.cons.injEq, and_true] at hx
    simp only [execOp, hx, Sem.run_bind, hr, Result.andThen_ok, Sem.run_pure]
    exact hd
  · obtain ⟨a, hx, hd⟩ := nilCheck_ok (nm := nm) hp h hv
    simp only [opnds, List.map_cons, List.map_nil, List.cons.injEq, and_true] at hx
    simp only [execOp, hx, Sem.run_pure]
    exact hd
  · rename_i op t x y _
    obtain ⟨u, v, hx, hg, z, hr, hd⟩ := pBinOp_ok (P := P) (nm := nm) hT hp h hv hc (a := x) (b := y)
    simp only [opnds, List.map_cons, List.map_nil, List.cons.injEq, and_true] at hx
    simp only [execOp, hx, Sem.run_bind, hg, hr, Result.andThen_ok, Sem.run_pure]
    exact hd
  · obtain ⟨x, hx, v, hr, hd⟩ := unOp_ok (P := P) (nm := nm) hp h hv hc
    simp only [opnds, List.map_cons, List.map_nil, List.cons.injEq, and_true] at hx
    simp only [execOp, hx]
    rw [run_value hr]
    exact hd
  · obtain ⟨x, hx, v, w', hr, hd⟩ := convert_ok (P := P) (nm := nm) hT hp h hnm hv ho hc
    simp only [opnds, List.map_cons, List.map_nil, List.cons.injEq, and_true] at hx
    simp only [execOp, hx]
    rw [run_value hr]
    exact hd
  · obtain ⟨x, hx, v, hr, hd⟩ := makeInterface_ok (P := P) (nm := nm) hT hp h hv
    simp only [opnds, List.map_cons, List.map_nil, List.cons.injEq, and_true] at hx
    simp only [execOp, hx]
    rw [run_value hr]
    exact hd
  · rename_i fn first captured
    rw [val_inv hp]
    simp only [opnds, List.map_append] at hv
    have hlen : (List.take first.size vs).length = first.size := by
      have := hv.length
      simp only [List.length_append, List.length_map, Array.length_toList] at this
      simp
      omega
    have hv' := hv
    rw [← List.take_append_drop first.size vs] at hv'
    obtain ⟨k1, k2⟩ := hv'.split
    rw [hlen] at k1 k2
    have e1 : (List.map e first.toList ++ List.map e captured.toList).take first.size = List.map e first.toList := by
      rw [List.take_append_of_le_length (by simp)]
      exact List.take_of_length_le (by simp)
    have e2 : (List.map e first.toList ++ List.map e captured.toList).drop first.size = List.map e captured.toList := by
      rw [List.drop_append_of_le_length (by simp), List.drop_of_length_le (by simp)]
      rfl
    rw [e1] at k1
    rw [e2] at k2
    simp only [execOp, Instr.makeFunc, Sem.run_bind, Sem.run_pure, Result.andThen_ok]
    refine .value h ?_
    have := R.func (fn := fn) k1 k2
    rw [← Array.toList_map, ← Array.toList_map] at this
    simpa only [Array.toArray_toList] using this
  · obtain ⟨x, y, hx, v, w', hr, hd⟩ := makeSlice_ok (P := P) (nm := nm) hT hp h hv (hnm (by
      unfold pMakeSlice at hp
      split at hp <;> (try (cases hp; done))
      split at hp <;> (try (cases hp; done))
      split at hp <;> cases hp
      rfl)) hc
    simp only [opnds, List.map_cons, List.map_nil, List.cons.injEq, and_true] at hx
    simp only [execOp, hx]
    rw [run_value hr]
    exact hd
  · rename_i t x lo hi mx
    obtain ⟨v, hr, hd⟩ := slice_ok (P := P) (nm := nm) hT hp h hv ho hc (x0 := x) rfl
    simp only [execOp]
    rw [run_value hr]
    exact hd
  · obtain ⟨x, hx, v, hr, hd⟩ := fieldAddr_ok (P := P) (nm := nm) hT hp h hv
    simp only [opnds, List.map_cons, List.map_nil, List.cons.injEq, and_true] at hx
    simp only [execOp, hx]
    rw [run_value hr]
    exact hd
  · obtain ⟨x, hx, v, hr, hd⟩ := field_ok (P := P) (nm := nm) hT hp h hv hc
    simp only [opnds, List.map_cons, List.map_nil, List.cons.injEq, and_true] at hx
    simp only [execOp, hx]
    rw [run_value hr]
    exact hd
  · obtain ⟨x, y, hx, v, hr, hd⟩ := indexAddr_ok (P := P) (nm := nm) hT hp h hv hc
    simp only [opnds, List.map_cons, List.map_nil, List.cons.injEq, and_true] at hx
    simp only [execOp, hx]
    rw [run_value hr]
    exact hd
  · obtain ⟨x, y, hx, v, hr, hd⟩ := index_ok (P := P) (nm := nm) hT hp h hv hc
    simp only [opnds, List.map_cons, List.map_nil, List.cons.injEq, and_true] at hx
    simp only [execOp, hx]
    rw [run_value hr]
    exact hd
  · obtain ⟨x, hx, v, hr, hd⟩ := extract_ok (P := P) (nm := nm) hp h hv
    simp only [opnds, List.map_cons, List.map_nil, List.cons.injEq, and_true] at hx
    simp only [execOp, hx]
    rw [run_value hr]
    exact hd
  · obtain ⟨x, hx, v, hr, hd⟩ := typeAssert_ok (P := P) (nm := nm) hT hp h hv
    simp only [opnds, List.map_cons, List.map_nil, List.cons.injEq, and_true] at hx
    simp only [execOp, hx]
    rw [run_value hr]
    exact hd
  · rename_i c
    obtain ⟨callee, args, ats⟩ := c
    unfold pCall at hp
    simp only at hp
    split at hp
    · rename_i b
      simp only [opnds, List.nil_append] at hv
      have := builtin_ok (P := P) (nm := nm) (ty := ty) (cs := args.map fun | .const _ => true | _ => false) hT hp h hnm hv ho hc
      simp only [execOp, resolve, Sem.run_bind, Sem.run_pure, Result.andThen_ok, invoke]
      have ea : args.map e = (args.toList.map e).toArray := by rw [← Array.toList_map, Array.toArray_toList]
      rw [ea]
      exact this
    · cases hp
  · cases hp
end
end VX

