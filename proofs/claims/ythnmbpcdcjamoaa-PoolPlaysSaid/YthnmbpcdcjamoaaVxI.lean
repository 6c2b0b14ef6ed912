/- A symbolic executor for the model's code, and its soundness (part 9 of 9): a general tool, no statement about this program. -/
import Derived.Test.YthnmbpcdcjamoaaVxH
set_option linter.unusedSimpArgs false
set_option linter.unusedVariables false
/- VX 42: clear; slices that keep their places in mind; calls of methods through interfaces. -/
namespace VX
open Go

section
variable {Γ : Ctx} {P : Program} {T : Tab} {Q : Act → World → Prop}
theorem zeroCells_eq {z : Array Value} (n : Nat) : (Builtin.zeroCells z n).toList = (List.replicate n z.toList).flatten := noughts_eq n

/-- A slice of an owned array is cleared. -/
theorem W.clear (hT : TabOK P T.l) {nt : Nat} (hnt : nt = Γ.n) {ops : Array Oper} {i : Nat} {l : List Nat} {k : List Item} {o : Oper} (ho : ops.toList[i]? = some o) {g : List (Nat × Nat × Bool)} (hd : dstOk nt g o.dst = true) (hg : guardOf o g = some true)
    {τ : List (Nat × A)} {r : List (Nat × Option VX.Obj)} {us : List Nat} {c : Call} (hop : o.op = .call c) (hcal : c.callee = .builtin .clear) {x : Operand} (hargs : c.args = #[x]) {t : Nat} (hts : c.argTypes = #[t])
    {se id off n : Nat} (hx : ev τ x = some (.own se id off n)) {e : Nat} (ht : T.d t = .slice e) {d : TD} {be : Nat} {z : A} {q : Bool} (hti : nth T.l e = some ⟨d, se, be, z, q⟩) {m : Nat} {G : Nat → A} (hr : look r id = some (some (.arr se m G)))
    (hc : z.sureP ∧ off + n ≤ m)
    (h : W Γ P Q g (.inRegion ops l :: k) (putO o.dst (.tup []) τ) ((id, some (.arr se m (spliceF G off n fun _ => z))) :: r) us) : W Γ P Q g (.inRegion ops (i :: l) :: k) τ r us := by
  refine W.opR hnt ho hd hg (fun a w I ρ hR hS => ?_) h
  have hv := ev_ok hS hx
  obtain ⟨dst, op, ty, pos, aft, gd⟩ := o
  simp only at hop
  subst hop
  obtain ⟨callee, args, argTypes⟩ := c
  simp only at hcal hargs hts
  subst hcal hargs hts
  have hu := Tab.slice hT ht
  obtain ⟨_, ⟨ie, hie, hse, hbe, hz⟩, _, _⟩ := hT e _ hti
  simp only at hse hbe hz
  obtain ⟨zv, hzv, hzR, hzz, hzp⟩ := hz hc.1
  obtain ⟨hzc, hz1⟩ := (hzR I nr).cells hc.1
  have hE := elems_const hzR hc.1 hzp hzz n (I := I)
  generalize hxv : a.eval x = v at hv
  have hex : (execOp a.eval ⟨dst, .call ⟨.builtin .clear, #[x], #[t]⟩, ty, pos, aft, gd⟩).run P w = (do let v ← Builtin.clear_ #[t] ty #[v]; pure (Next.value v) : Sem Next).run P w := by
    simp [execOp, resolve, invoke, builtin, hxv]
  rw [hex]
  by_cases h0 : n = 0
  · subst h0
    have hclr : (Builtin.clear_ #[t] ty #[v]).run P w = .ok (.tuple #[]) w := by
      have hv' : ∃ a c, v = .slice a 0 c := by
        cases hv with
        | agg h1 _ _ => cases h1
        | own => exact ⟨_, _, rfl⟩
        | own0 => exact ⟨_, _, rfl⟩
      obtain ⟨a', c', rfl⟩ := hv'
      cases a' <;> simp [Builtin.clear_, run_underlying hu]
    refine ⟨.tuple #[], w, ρ, ?_, Ren.le.refl ρ, ?_, .tup .nil⟩
    · simp only [Sem.run_bind, hclr, Result.andThen_ok, Sem.run_pure]
    · rw [spliceF_none]
      refine hR.congr fun q => ?_
      rw [look_cons]
      by_cases e : id = q
      · subst e; rw [if_pos rfl, hr]
      · rw [if_neg e]
  · cases hv with
    | agg h1 _ _ => cases h1
    | own0 => exact absurd rfl h0
    | own hb hn hN =>
      rename_i b N c'
      obtain ⟨vs, e', fz, hh', hNs, hfz, hH, h1⟩ := hR.cells hr hb (by rintro z ks g ⟨⟩)
      have hkN := hH.1
      have hEl := hE.len
      have l1 : off * se + n * se ≤ m * se := by
        rw [← Nat.add_mul]; exact Nat.mul_le_mul_right _ (by omega)
      have hrun := run_storeCells (P := P) (o := off * se) hh' (news := (List.replicate n zv.cells.toList).flatten) (by rw [hEl]; simp only [Array.length_toList] at hkN; omega) (by rw [hNs]; exact hfz) hE.one
      have hclr : (Builtin.clear_ #[t] ty #[.slice (some ⟨b, off * se, none⟩) n c']).run P w = .ok (.tuple #[]) (setBlk w b (.cells (spliceL vs.toList (off * se) (List.replicate n zv.cells.toList).flatten).toArray e' fz)) := by
        have hne : n ≠ 0 := h0
        obtain ⟨n', rfl⟩ : ∃ n', n = n' + 1 := ⟨n - 1, by omega⟩
        simp only [Builtin.clear_, List.getElem?_toArray, List.getElem?_cons_zero, run_underlying hu, Sem.run_bind, Result.andThen_ok, zeroValue_run hie hzv, zeroCells_eq, hrun, Sem.run_pure]
      refine ⟨.tuple #[], _, ρ, ?_, Ren.le.refl ρ, hR.put hr hb (ob' := .arr se m (spliceF G off n fun _ => z)) (o := .cells (spliceL vs.toList (off * se) (List.replicate n zv.cells.toList).flatten).toArray e' fz) ⟨?_, hfz, ?_, ?_⟩, .tup .nil⟩
      · simp only [Sem.run_bind, hclr, Result.andThen_ok, Sem.run_pure]
      · rw [List.size_toArray, spliceL_length (by rw [hEl]; omega)]; simpa using hNs
      · show HoldsC I ρ _ (spliceL vs.toList (off * se) _)
        refine ⟨by rw [spliceL_length (by rw [hEl]; omega)]; exact hkN, fun i hi => ?_, fun i hi => ?_⟩
        · rw [spliceF_at]
          split
          · exact hE.ok (i - off) (by omega)
          · exact hH.2.1 i hi
        · rw [spliceF_at, splice_at hEl (by omega)]
          split
          · exact hE.at_ (i - off) (by omega)
          · exact hH.2.2 i hi
      · intro u hu'
        rcases mem_spliceL (by simpa using hu') with hu' | hu'
        · exact h1 u hu'
        · exact hE.one u hu'

/-! ### slices that keep their places in mind -/
theorem sbound_run {w : World} {k : IntKind} {i : Int} {y : Nat} {code : BoundsCode} (h : 0 ≤ i) (h' : i ≤ (y : Int)) : (Instr.sliceBound (.int k i) y code).run P w = .ok i.toNat w := by
  unfold Instr.sliceBound
  simp only [asIntOf, Sem.run_bind, Sem.run_pure, Result.andThen_ok]
  rw [if_pos ⟨h, h'⟩]
  rfl
theorem owk_own {I : Imm} {ρ : Ren} {sz id off n K : Nat} {v : Value} (hx : R I ρ (.owk sz id off n K) v) : R I ρ (.own sz id off n) v := by
  cases hx with
  | agg hx _ _ => cases hx
  | owk a b c d => exact .own a (Nat.le_trans b c) d
  | owk0 => exact .own0
theorem owk_cut {I : Imm} {ρ : Ren} {sz id off n K : Nat} {v : Value} (hx : R I ρ (.owk sz id off n K) v) : ∃ a c, v = .slice a n c ∧ n ≤ K ∧ K ≤ c ∧ ∀ l h, l ≤ h → h ≤ K →
    R I ρ (.owk sz id (addI off (l : Int)) (h - l) (K - l)) (.slice (if c = l then a else a.map (·.add (l * sz))) (h - l) (c - l)) := by
  cases hx with
  | agg hx _ _ => cases hx
  | owk h1 h2 h3 h4 =>
    rename_i b N c
    refine ⟨_, c, rfl, h2, h3, fun l h hl hh => ?_⟩
    rw [addI_eq, Int.toNat_natCast]
    by_cases e : c = l
    · rw [if_pos e, show h - l = 0 by omega, show c - l = 0 by omega, show K - l = 0 by omega]
      exact .owk0
    · rw [if_neg e]
      simp only [Option.map_some, add_none, ← Nat.add_mul]
      exact .owk h1 (by omega) (by omega) (by rw [show off + l + (c - l) = off + c by omega]; exact h4)
  | owk0 =>
    refine ⟨_, 0, rfl, Nat.le_refl _, Nat.le_refl _, fun l h hl hh => ?_⟩
    have h0 : h = 0 := by omega
    have l0 : l = 0 := by omega
    subst h0 l0
    exact .owk0

/-- 's[:h]'. -/
theorem W.sliceH (hT : TabOK P T.l) {nt : Nat} (hnt : nt = Γ.n) {ops : Array Oper} {i : Nat} {l : List Nat} {k : List Item} {o : Oper} (ho : ops.toList[i]? = some o) {g : List (Nat × Nat × Bool)} (hd : dstOk nt g o.dst = true) (hg : guardOf o g = some true)
    {τ : List (Nat × A)} {r : List (Nat × Option VX.Obj)} {us : List Nat} {t : Nat} {x hi : Operand} (hop : o.op = .slice t x none (some hi) none) {se id off n K : Nat} (hx : ev τ x = some (.owk se id off n K)) {kk : IntKind} {h1 : Int} (hh : ev τ hi = some (.int kk h1))
    {e : Nat} (ht : T.d t = .slice e) {d : TD} {be : Nat} {z : A} {q : Bool} (hti : nth T.l e = some ⟨d, se, be, z, q⟩) (hc : 0 ≤ h1 ∧ h1.toNat ≤ K)
    (h : W Γ P Q g (.inRegion ops l :: k) (putO o.dst (.owk se id off h1.toNat K) τ) r us) : W Γ P Q g (.inRegion ops (i :: l) :: k) τ r us := by
  refine W.opR hnt ho hd hg (fun a w I ρ hR hS => ?_) h
  have hv := ev_ok hS hx
  have hb := (ev_ok hS hh).int_inv
  obtain ⟨dst, op, ty, pos, aft, gd⟩ := o
  simp only at hop
  subst hop
  have hu := Tab.slice hT ht
  obtain ⟨_, ⟨ie, hie, hse, _, _⟩, _, _⟩ := hT e _ hti
  simp only at hse
  obtain ⟨ad, c, hvv, h2, h3, h4⟩ := owk_cut hv
  have h5 := h4 0 h1.toNat (by omega) hc.2
  refine ⟨_, w, ρ, ?_, Ren.le.refl ρ, hR, by rw [addI_eq] at h5; simpa using h5⟩
  rw [show h1.toNat = h1.toNat - 0 from rfl]
  simp only [execOp, Instr.sliceAt, hvv, hb, Option.map_none, Option.map_some, Instr.slice, Instr.sliceBounds, Sem.run_bind, Sem.run_pure, run_underlying hu, Result.andThen_ok, sbound_run hc.1 (show h1 ≤ (c : Int) by omega), sizeOf_run hie, hse]
  simp
/-- 's[l:]'. -/
theorem W.sliceL (hT : TabOK P T.l) {nt : Nat} (hnt : nt = Γ.n) {ops : Array Oper} {i : Nat} {l : List Nat} {k : List Item} {o : Oper} (ho : ops.toList[i]? = some o) {g : List (Nat × Nat × Bool)} (hd : dstOk nt g o.dst = true) (hg : guardOf o g = some true)
    {τ : List (Nat × A)} {r : List (Nat × Option VX.Obj)} {us : List Nat} {t : Nat} {x lo : Operand} (hop : o.op = .slice t x (some lo) none none) {se id off n K : Nat} (hx : ev τ x = some (.owk se id off n K)) {kk : IntKind} {l1 : Int} (hl : ev τ lo = some (.int kk l1))
    {e : Nat} (ht : T.d t = .slice e) {d : TD} {be : Nat} {z : A} {q : Bool} (hti : nth T.l e = some ⟨d, se, be, z, q⟩) (hc : 0 ≤ l1 ∧ l1.toNat ≤ n)
    (h : W Γ P Q g (.inRegion ops l :: k) (putO o.dst (.own se id (off + l1.toNat) (n - l1.toNat)) τ) r us) : W Γ P Q g (.inRegion ops (i :: l) :: k) τ r us := by
  refine W.opR hnt ho hd hg (fun a w I ρ hR hS => ?_) h
  have hv := ev_ok hS hx
  have hb := (ev_ok hS hl).int_inv
  obtain ⟨dst, op, ty, pos, aft, gd⟩ := o
  simp only at hop
  subst hop
  have hu := Tab.slice hT ht
  obtain ⟨_, ⟨ie, hie, hse, _, _⟩, _, _⟩ := hT e _ hti
  simp only at hse
  obtain ⟨ad, c, hvv, h2, h3, h4⟩ := owk_cut hv
  have h5 := h4 l1.toNat n hc.2 (by omega)
  rw [addI_eq, Int.toNat_natCast] at h5
  refine ⟨_, w, ρ, ?_, Ren.le.refl ρ, hR, owk_own h5⟩
  simp only [execOp, Instr.sliceAt, hvv, hb, Option.map_none, Option.map_some, Instr.slice, Instr.sliceBounds, Sem.run_bind, Sem.run_pure, run_underlying hu, Result.andThen_ok, sbound_run hc.1 (show l1 ≤ (n : Int) by omega), sizeOf_run hie, hse]
/-- 's[l:h]'. -/
theorem W.sliceB (hT : TabOK P T.l) {nt : Nat} (hnt : nt = Γ.n) {ops : Array Oper} {i : Nat} {l : List Nat} {k : List Item} {o : Oper} (ho : ops.toList[i]? = some o) {g : List (Nat × Nat × Bool)} (hd : dstOk nt g o.dst = true) (hg : guardOf o g = some true)
    {τ : List (Nat × A)} {r : List (Nat × Option VX.Obj)} {us : List Nat} {t : Nat} {x lo hi : Operand} (hop : o.op = .slice t x (some lo) (some hi) none) {se id off n K : Nat} (hx : ev τ x = some (.owk se id off n K)) {kk : IntKind} {l1 : Int} (hl : ev τ lo = some (.int kk l1))
    {k2 : IntKind} {h1 : Int} (hh : ev τ hi = some (.int k2 h1))
    {e : Nat} (ht : T.d t = .slice e) {d : TD} {be : Nat} {z : A} {q : Bool} (hti : nth T.l e = some ⟨d, se, be, z, q⟩) (hc : 0 ≤ l1 ∧ l1 ≤ h1 ∧ h1.toNat ≤ K)
    (h : W Γ P Q g (.inRegion ops l :: k) (putO o.dst (.own se id (off + l1.toNat) (h1.toNat - l1.toNat)) τ) r us) : W Γ P Q g (.inRegion ops (i :: l) :: k) τ r us := by
  refine W.opR hnt ho hd hg (fun a w I ρ hR hS => ?_) h
  have hv := ev_ok hS hx
  have hb := (ev_ok hS hl).int_inv
  have hb2 := (ev_ok hS hh).int_inv
  obtain ⟨dst, op, ty, pos, aft, gd⟩ := o
  simp only at hop
  subst hop
  have hu := Tab.slice hT ht
  obtain ⟨_, ⟨ie, hie, hse, _, _⟩, _, _⟩ := hT e _ hti
  simp only at hse
  obtain ⟨ad, c, hvv, h2, h3, h4⟩ := owk_cut hv
  have h5 := h4 l1.toNat h1.toNat (by omega) hc.2.2
  rw [addI_eq, Int.toNat_natCast] at h5
  refine ⟨_, w, ρ, ?_, Ren.le.refl ρ, hR, owk_own h5⟩
  simp only [execOp, Instr.sliceAt, hvv, hb, hb2, Option.map_none, Option.map_some, Instr.slice, Instr.sliceBounds, Sem.run_bind, Sem.run_pure, run_underlying hu, Result.andThen_ok, sbound_run (show 0 ≤ h1 by omega) (show h1 ≤ (c : Int) by omega), sbound_run hc.1 (show l1 ≤ (h1.toNat : Int) by omega), sizeOf_run hie, hse]
/-- 's[l:h:m]', whose slice is not used. -/
theorem W.slice3 (hT : TabOK P T.l) {nt : Nat} (hnt : nt = Γ.n) {ops : Array Oper} {i : Nat} {l : List Nat} {k : List Item} {o : Oper} (ho : ops.toList[i]? = some o) {g : List (Nat × Nat × Bool)} (hd : dstOk nt g o.dst = true) (hg : guardOf o g = some true)
    {τ : List (Nat × A)} {r : List (Nat × Option VX.Obj)} {us : List Nat} {t : Nat} {x lo hi mx : Operand} (hop : o.op = .slice t x (some lo) (some hi) (some mx)) {se id off n K : Nat} (hx : ev τ x = some (.owk se id off n K)) {kk : IntKind} {l1 : Int} (hl : ev τ lo = some (.int kk l1))
    {k2 : IntKind} {h1 : Int} (hh : ev τ hi = some (.int k2 h1)) {k3 : IntKind} {m1 : Int} (hm : ev τ mx = some (.int k3 m1))
    {e : Nat} (ht : T.d t = .slice e) {d : TD} {be : Nat} {z : A} {q : Bool} (hti : nth T.l e = some ⟨d, se, be, z, q⟩) (hc : 0 ≤ l1 ∧ l1 ≤ h1 ∧ h1 ≤ m1 ∧ m1.toNat ≤ K)
    (h : W Γ P Q g (.inRegion ops l :: k) (putO o.dst .any τ) r us) : W Γ P Q g (.inRegion ops (i :: l) :: k) τ r us := by
  refine W.opR hnt ho hd hg (fun a w I ρ hR hS => ?_) h
  have hv := ev_ok hS hx
  have hb := (ev_ok hS hl).int_inv
  have hb2 := (ev_ok hS hh).int_inv
  have hb3 := (ev_ok hS hm).int_inv
  obtain ⟨dst, op, ty, pos, aft, gd⟩ := o
  simp only at hop
  subst hop
  have hu := Tab.slice hT ht
  obtain ⟨_, ⟨ie, hie, hse, _, _⟩, _, _⟩ := hT e _ hti
  simp only at hse
  obtain ⟨ad, c, hvv, h2, h3, h4⟩ := owk_cut hv
  refine ⟨.slice (if m1.toNat = l1.toNat then ad else ad.map (·.add (l1.toNat * se))) (h1.toNat - l1.toNat) (m1.toNat - l1.toNat), w, ρ, ?_, Ren.le.refl ρ, hR, .any⟩
  simp only [execOp, Instr.sliceAt, hvv, hb, hb2, hb3, Option.map_none, Option.map_some, Instr.slice, Instr.sliceBounds, Sem.run_bind, Sem.run_pure, run_underlying hu, Result.andThen_ok, Option.isSome_some, if_true, sbound_run (show 0 ≤ m1 by omega) (show m1 ≤ (c : Int) by omega), sbound_run (show 0 ≤ h1 by omega) (show h1 ≤ (m1.toNat : Int) by omega), sbound_run hc.1 (show l1 ≤ (h1.toNat : Int) by omega), sizeOf_run hie, hse]

/-- What is appended where there is room for it stands in its place; the source may be a part of the same array. -/
theorem W.appendIn (hT : TabOK P T.l) {nt : Nat} (hnt : nt = Γ.n) {ops : Array Oper} {i : Nat} {l : List Nat} {k : List Item} {o : Oper} (ho : ops.toList[i]? = some o) {g : List (Nat × Nat × Bool)} (hd : dstOk nt g o.dst = true) (hg : guardOf o g = some true)
    {τ : List (Nat × A)} {r : List (Nat × Option VX.Obj)} {us : List Nat} {c : Call} (hop : o.op = .call c) (hcal : c.callee = .builtin .append) {s x : Operand} (hargs : c.args = #[s, x]) {t : Nat} (hts : c.argTypes = #[t, t])
    {se id n K : Nat} (hs : ev τ s = some (.owk se id 0 n K)) {off' n' : Nat} (hx : ev τ x = some (.own se id off' n')) {e : Nat} (ht : T.d t = .slice e) {d : TD} {be : Nat} {z : A} {q : Bool} (hti : nth T.l e = some ⟨d, se, be, z, q⟩)
    {m : Nat} {G : Nat → A} (hr : look r id = some (some (.arr se m G))) (hc : n + n' ≤ K ∧ K ≤ m ∧ off' + n' ≤ m ∧ 0 < K)
    (h : W Γ P Q g (.inRegion ops l :: k) (putO o.dst (.owk se id 0 (n + n') K) τ) ((id, some (.arr se m (spliceF G n n' (shiftF off' G)))) :: r) us) : W Γ P Q g (.inRegion ops (i :: l) :: k) τ r us := by
  refine W.opR hnt ho hd hg (fun a w I ρ hR hS => ?_) h
  have hv := ev_ok hS hs
  have hw := ev_ok hS hx
  obtain ⟨dst, op, ty, pos, aft, gd⟩ := o
  simp only at hop
  subst hop
  obtain ⟨callee, args, argTypes⟩ := c
  simp only at hcal hargs hts
  subst hcal hargs hts
  have hu := Tab.slice hT ht
  obtain ⟨_, ⟨ie, hie, hse, hbe, hz⟩, _, _⟩ := hT e _ hti
  simp only at hse hbe hz
  generalize hxv : a.eval x = xv at hw
  generalize hsv : a.eval s = sv at hv
  have hex : (execOp a.eval ⟨dst, .call ⟨.builtin .append, #[s, x], #[t, t]⟩, ty, pos, aft, gd⟩).run P w = (do let v ← Builtin.append_ #[t, t] ty #[sv, xv]; pure (Next.value v) : Sem Next).run P w := by
    simp [execOp, resolve, invoke, builtin, hxv, hsv]
  rw [hex]
  obtain ⟨cs, hRd⟩ : ∃ cs, Reads P I w xv se n' (shiftF off' G) cs := elems0_ok (P := P) (se := se) (o1 := [VX.Obj.arr se m G]) (o2 := []) (c := [off' + n' ≤ m]) hR hw (by simp [looks, hr, idOf]) (by
    simp [elems0, isNils, elems]) ⟨hc.2.2.1, trivial⟩
  cases hv with
  | agg h1 _ _ => cases h1
  | owk0 => exact absurd hc.2.2.2 (Nat.lt_irrefl _)
  | owk hb hn hK hN =>
    rename_i b N c'
    simp only [Nat.zero_mul, Nat.zero_add] at hN ⊢
    obtain ⟨vs, e', fz, hh, hNs, hfz, hH, h1⟩ := hR.cells hr hb (by rintro z ks g ⟨⟩)
    have hkN := hH.1
    have hsrc := toSrc (P := P) (xt := t) (.inl ⟨e, hu⟩) hRd
    have hdl := hRd.el.len
    have hle : (n + n') * se ≤ N := Nat.le_trans (Nat.mul_le_mul_right _ (by omega)) hN
    have hsum := Nat.add_mul n n' se
    have hnm := Nat.mul_le_mul_right se (show n + n' ≤ m by omega)
    have hrun := run_append_room_src (P := P) w t t ty e ie hu hie b 0 n c' xv n' cs (by rw [hse]; exact hsrc) (by omega)
      (fun j hj => by
        simp only [World.cell?, hh, Nat.zero_add, hse]
        simp [Array.getElem?_eq_getElem (show n * se + j < vs.size by omega)])
      (fun j hj => by
        simp only [World.frozen?, hh, Nat.zero_add, hse]
        exact hfz.2 _ (by omega))
    rw [Nat.zero_add, hse, setCells_setBlk b e' fz cs (n * se) w vs hh (by omega)] at hrun
    refine ⟨.slice (some ⟨b, 0, none⟩) (n + n') c', _, ρ, ?_, Ren.le.refl ρ, hR.put hr hb (ob' := .arr se m (spliceF G n n' (shiftF off' G))) (o := .cells (spliceL vs.toList (n * se) cs).toArray e' fz) ⟨?_, hfz, ?_, ?_⟩, ?_⟩
    · simp only [Sem.run_bind, hrun, Result.andThen_ok, Sem.run_pure]
    · rw [List.size_toArray, spliceL_length (by rw [hdl]; omega)]; simpa using hNs
    · show HoldsC I ρ _ (spliceL vs.toList (n * se) cs)
      refine ⟨by rw [spliceL_length (by rw [hdl]; omega)]; exact hkN, fun i hi => ?_, fun i hi => ?_⟩
      · rw [spliceF_at]
        split
        · exact hRd.el.ok _ (by omega)
        · exact hH.2.1 i hi
      · rw [spliceF_at, splice_at hdl (by omega)]
        split
        · exact hRd.el.at_ _ (by omega)
        · exact hH.2.2 i hi
    · intro u hu'
      rcases mem_spliceL (by simpa using hu') with hu' | hu'
      · exact h1 u hu'
      · exact hRd.el.one u hu'
    · have := R.owk (I := I) (ρ := ρ) (sz := se) (id := id) (off := 0) (n := n + n') (K := K) hb hc.1 hK (by simpa using hN)
      simpa using this

/-! ### methods -/
/-- The function that a type has as a method, told by the type itself; does it take the address? -/
def methRow (P : Program) (t : Nat) (name : String) : Option (FuncId × Bool) := match P.info? t with
  | some ti => (match ti.methods.find? (·.name == name) with
    | some m => (match m.path.toList with
      | [] => m.func
      | _ => none)
    | none => none)
  | none => none
theorem methRow_run {w : World} {t : Nat} {name : String} {f : FuncId} {p : Bool} (h : methRow P t name = some (f, p)) {v : Value} (fuel : Nat) :
    (Go.method (fuel + 1) t v name).run P w = (do pure (f, ← Go.receiverAt t (.val v) p (some ((name.splitOn ".").getLastD name))) : Sem (FuncId × Value)).run P w := by
  unfold methRow at h
  split at h
  · rename_i ti hti
    split at h
    · rename_i m hm
      split at h
      · rename_i hp
        have hpe : m.path = #[] := by
          have := congrArg List.toArray hp
          simpa using this
        simp only [Go.method, Sem.run_bind, typeInfo, run_program, Result.andThen_ok, hti, Sem.run_pure, hm, hpe, h, Go.follow]
        simp
      · cases h
    · cases h
  · cases h
theorem wrapNil_run {w : World} {t : Nat} {ad : Addr} {a b : Value} {sa sb : ByteArray} : (Builtin.ssaWrapNilChk_ #[t] t #[.pointer (some ad), .string sa, .string sb]).run P w = .ok (.pointer (some ad)) w := rfl
theorem depth_pos (P : Program) : P.types.size + Made.depth = P.types.size + Made.depth - 1 + 1 := by
  have : 0 < Made.depth := by decide
  omega
/-- Where an operation goes to: a function, with arguments. -/
def Goes (Γ : Ctx) (P : Program) (τ : List (Nat × A)) (r : List (Nat × Option VX.Obj)) (us : List Nat) (o : Oper) (f : FuncId) (vs : List A) : Prop :=
  ∀ a w I ρ, RW Γ I ρ r us w → Slots I ρ Γ.n τ a → ∃ args ρ', (execOp a.eval o).run P w = .ok (.enter f args) w ∧ ρ.le ρ' ∧ RW Γ I ρ' r us w ∧ RL I ρ' vs args.toList
theorem callFunc_run {w : World} {f : FuncId} (hf : callOK P f = true) (args : Array Value) : (callFunc f args).run P w = .ok (.enter f args) w := by
  unfold callOK at hf
  split at hf
  · rename_i fn hfn
    rw [Bool.and_eq_true, Bool.not_eq_true'] at hf
    have hb : fn.body.isNone = false := by
      cases hb : fn.body with
      | none => rw [hb] at hf; cases hf.2
      | some _ => rfl
    simp only [callFunc, Sem.run_bind, Sem.run_pure, Result.andThen_ok, run_program, hfn, hf.1, hb]
    simp
  · cases hf
/-- A method of an address. -/
theorem Goes.methP (hT : TabOK P T.l) {τ : List (Nat × A)} {r : List (Nat × Option VX.Obj)} {us : List Nat} {o : Oper} {c : Call} (hop : o.op = .call c) {rv : Operand} {name : String} (hcal : c.callee = .invoke rv name) {t : Nat} {x : A} (hx : ev τ rv = some (.iface t x)) {e : Nat}
    (ht : T.d t = .pointer e) {f : FuncId} (hm : methRow P t name = some (f, true)) (hf : callOK P f = true) {vs : List A} (hvs : evs τ c.args.toList = some vs) : Goes Γ P τ r us o f (x :: vs) := by
  intro a w I ρ hR hS
  obtain ⟨v, hv, hxv⟩ := (ev_ok hS hx).iface_inv
  have h3 := evs_ok hS hvs
  obtain ⟨dst, op, ty, pos, aft, gd⟩ := o
  simp only at hop
  subst hop
  have hu := Tab.pointer hT ht
  refine ⟨#[v] ++ c.args.map a.eval, ρ, ?_, Ren.le.refl ρ, hR, ?_⟩
  · simp only [execOp, resolve, hcal, Sem.run_bind, Sem.run_pure, Result.andThen_ok, invoke, hv]
    have e1 : (#[Value.iface t v] ++ c.args.map a.eval)[0]? = some (Value.iface t v) := by
      rw [Array.getElem?_append_left (by simp)]; rfl
    have e2 : (#[Value.iface t v] ++ c.args.map a.eval).extract 1 (#[Value.iface t v] ++ c.args.map a.eval).size = c.args.map a.eval := by
      apply Array.ext'
      simp only [Array.toList_extract, Array.toList_append, List.extract_eq_take_drop, Array.size_append]
      simp
      exact List.take_of_length_le (by simp)
    simp only [e1, e2, callMethod, Sem.run_bind, run_program, Result.andThen_ok]
    obtain ⟨q, hq⟩ : ∃ q, P.types.size + Made.depth = q + 1 := ⟨P.types.size + Made.depth - 1, depth_pos P⟩
    rw [hq, methRow_run hm]
    simp only [Go.receiverAt, Sem.run_bind, run_underlying hu, Result.andThen_ok, Sem.run_pure, Place.get, callFunc_run hf]
  · simpa using RL.cons hxv h3
/-- A method of what an address leads to. -/
theorem Goes.methV (hT : TabOK P T.l) {τ : List (Nat × A)} {r : List (Nat × Option VX.Obj)} {us : List Nat} {o : Oper} {c : Call} (hop : o.op = .call c) {rv : Operand} {name : String} (hcal : c.callee = .invoke rv name) {t : Nat} {x : A} (hx : ev τ rv = some (.iface t x)) {e : Nat}
    (ht : T.d t = .pointer e) {f : FuncId} (hm : methRow P t name = some (f, false)) (hf : callOK P f = true) {obs : List VX.Obj} (hobs : looks r (idOf x) = some obs) {y : A} {c' : List Prop} (hl : pLoad T e obs [x] = some ⟨c', y, [], false⟩) (hc : allP c')
    {vs : List A} (hvs : evs τ c.args.toList = some vs) : Goes Γ P τ r us o f (y :: vs) := by
  intro a w I ρ hR hS
  obtain ⟨v, hv, hxv⟩ := (ev_ok hS hx).iface_inv
  have h3 := evs_ok hS hvs
  obtain ⟨dst, op, ty, pos, aft, gd⟩ := o
  simp only at hop
  subst hop
  have hu := Tab.pointer hT ht
  obtain ⟨x', hx', v2, hrun, hd⟩ := load_ok (P := P) (nm := 0) hT hl hR (.cons hxv .nil) (by simpa [idsOf] using hobs) hc
  simp only [List.cons.injEq, and_true] at hx'
  subst hx'
  obtain ⟨ad, hx', hlv⟩ := loadAt_pure hrun
  obtain ⟨nx, v1, w1, ρ1, he, hv1, hle, hR1, hr1⟩ := hd.ex
  cases he
  simp only [nxV, Option.some.injEq] at hv1
  subst hv1
  subst hx'
  refine ⟨#[v2] ++ c.args.map a.eval, ρ1, ?_, hle, hR1, ?_⟩
  · simp only [execOp, resolve, hcal, Sem.run_bind, Sem.run_pure, Result.andThen_ok, invoke, hv]
    have e1 : (#[Value.iface t (.pointer (some ad))] ++ c.args.map a.eval)[0]? = some (Value.iface t (.pointer (some ad))) := by
      rw [Array.getElem?_append_left (by simp)]; rfl
    have e2 : (#[Value.iface t (.pointer (some ad))] ++ c.args.map a.eval).extract 1 (#[Value.iface t (.pointer (some ad))] ++ c.args.map a.eval).size = c.args.map a.eval := by
      apply Array.ext'
      simp only [Array.toList_extract, Array.toList_append, List.extract_eq_take_drop, Array.size_append]
      simp
      exact List.take_of_length_le (by simp)
    simp only [e1, e2, callMethod, Sem.run_bind, run_program, Result.andThen_ok]
    obtain ⟨q, hq⟩ : ∃ q, P.types.size + Made.depth = q + 1 := ⟨P.types.size + Made.depth - 1, depth_pos P⟩
    rw [hq, methRow_run hm]
    simp only [Go.receiverAt, Sem.run_bind, run_underlying hu, Result.andThen_ok, Sem.run_pure, Place.get, strVal, wrapNil_run, asAddr, hlv, callFunc_run hf]
  · simpa using RL.cons hr1 (h3.mono (Imm.le.refl I) hle)
theorem Goes.fn {τ : List (Nat × A)} {r : List (Nat × Option VX.Obj)} {us : List Nat} {o : Oper} {f : FuncId} {vs : List A} (h : callee τ o = some (f, vs)) (hf : callOK P f = true) : Goes Γ P τ r us o f vs := fun a w I ρ hR hS =>
  let ⟨args, h1, h2⟩ := callee_ok (P := P) (w := w) hS h hf
  ⟨args, ρ, h1, Ren.le.refl ρ, hR, h2⟩
section
variable {I : Imm} {ρ : Ren} {r : List (Nat × Option VX.Obj)} {us : List Nat} {w : World} {ld : List Nat} {π : List (Nat × Nat)}
/-- A call, wherever it goes to. -/
theorem W.callG {Q : Act → World → Prop} {f : FuncId} {xs : List A} {rc : List (Nat × Option VX.Obj)} {new : List Nat} {Y : A → List (Nat × Option VX.Obj) → Prop} (hS : Does P f xs rc new Y) 
    {g : List (Nat × Nat × Bool)} {ops : Array Oper} {i : Nat} {l : List Nat} {k : List Item} {τ : List (Nat × A)} {o : Oper} {vs : List A} (ho : ops.toList[i]? = some o) (hg : guardOf o g = some true)
    (hcal : Goes Γ P τ r us o f vs) (π : List (Nat × Nat)) (ld ns : List Nat) (hk : keys π = keys rc) (hchk : callChk us r π ld new ns rc = true) {nt : Nat} (hnt : nt = Γ.n) (hdst : dstOk nt g o.dst = true)
    (hargs : lentL π r ld vs xs) (hsub : subR π r rc) (hfl : ld = [] ∨ ∀ y r', Y y r' → y.flat ∧ flatR r')
    (h : ∀ y r', Y y r' → W Γ P Q g (.inRegion ops l :: k) (putO o.dst (y.ren (callRen (zipN new ns) π)) τ) (appR (renR (callRen (zipN new ns) π) r') (gone (vals π) r)) (appN ns us)) :
    W Γ P Q g (.inRegion ops (i :: l) :: k) τ r us := by
  refine ⟨fun a w I ρ0 hR0 hSl0 hG => ?_⟩
  obtain ⟨args, ρ, hx, hle0, hR, ha⟩ := hcal a w I ρ0 hR0 hSl0
  have hSl := hSl0.mono (Imm.le.refl I) hle0
  have ho : ops[i]? = some o := by simpa using ho
  have hw := guardOf_ok hSl hG hg
  have hchk' := hchk
  unfold callChk at hchk'
  obtain ⟨hl, hchk'⟩ := andb hchk'
  obtain ⟨hap, hchk'⟩ := andb hchk'
  obtain ⟨hlv, hchk'⟩ := andb hchk'
  obtain ⟨hn, _⟩ := andb hchk'
  have hargs' := lentL_ok hR hl hargs ha
  have hcalls := hS (lendI w ρ ld I) (viaRen π ρ) w args.toList hargs' (hR.enter hl hap hn hk hsub (nOf P f))
  rw [Array.toArray_toList] at hcalls
  intro b cs
  obtain ⟨v, w', ⟨y, r', I', ρ', hY, hv, hR'⟩, hsteps⟩ := step_call (b := b) (k := k) (cs := cs) (l := l) ho hw hx hcalls
  obtain ⟨I'', ρ'', hI, hρ, hren, hI2, hR''⟩ := hR.leave hk hchk hR' (hfl.imp id fun h => (h y r' hY).2)
  have hv' : R I'' ρ'' (y.ren (callRen (zipN new ns) π)) v := by
    refine (A.ren_both (f := callRen (zipN new ns) π) hren y).1 v ?_
    rcases hI2 with h | h
    · exact hv.mono h (Ren.le.refl _)
    · rcases hfl with h' | h'
      · exact (h h').elim
      · exact (A.flat_both y).1 v (h' y r' hY).1 hv
  have hSl' : Slots I'' ρ'' Γ.n (putO o.dst (y.ren (callRen (zipN new ns) π)) τ) (a.put o.dst v) ∧ GOK g (.inRegion ops l :: k) (putO o.dst (y.ren (callRen (zipN new ns) π)) τ) := by
    have := hSl.mono hI hρ
    cases hd : o.dst with
    | none => exact ⟨this.skip, hG.next⟩
    | some d =>
      rw [hd] at hdst
      obtain ⟨hlt, hoff⟩ := dstOk_some hdst
      exact ⟨this.put (hnt ▸ hlt) hv', hG.put hoff⟩
  obtain ⟨a2, w2, todo, hq, hs⟩ := (h y r' hY).ok _ w' I'' ρ'' hR'' hSl'.1 hSl'.2 b cs
  exact ⟨a2, w2, todo, hq, Steps.trans hsteps hs⟩

/-- A call of a function whose contract tells the result outright. -/
theorem W.callFG {Q : Act → World → Prop} {f : FuncId} {xs : List A} {rc : List (Nat × Option VX.Obj)} {new : List Nat} {y0 : A} {r0 : List (Nat × Option VX.Obj)} (hS : Does P f xs rc new (Is y0 r0)) 
    {g : List (Nat × Nat × Bool)} {ops : Array Oper} {i : Nat} {l : List Nat} {k : List Item} {τ : List (Nat × A)} {o : Oper} {vs : List A} (ho : ops.toList[i]? = some o) (hg : guardOf o g = some true)
    (hcal : Goes Γ P τ r us o f vs) (π : List (Nat × Nat)) (ld ns : List Nat) (hk : keys π = keys rc) (hchk : callChk us r π ld new ns rc = true) {nt : Nat} (hnt : nt = Γ.n) (hdst : dstOk nt g o.dst = true)
    (hargs : lentL π r ld vs xs) (hsub : subR π r rc) (hfl : ld = [] ∨ (y0.flat ∧ flatR r0))
    (h : W Γ P Q g (.inRegion ops l :: k) (putO o.dst (y0.ren (callRen (zipN new ns) π)) τ) (appR (renR (callRen (zipN new ns) π) r0) (gone (vals π) r)) (appN ns us)) :
    W Γ P Q g (.inRegion ops (i :: l) :: k) τ r us :=
  W.callG hS ho hg hcal π ld ns hk hchk hnt hdst hargs hsub (hfl.imp id fun h y r' hY => by obtain ⟨rfl, rfl⟩ := hY; exact h) (fun y r' hY => by obtain ⟨rfl, rfl⟩ := hY; exact h)
end
/-- A call; the names are found by looking. -/
theorem W.callAG {ops : Array Oper} {f : FuncId} {xs : List A} {rc : List (Nat × Option VX.Obj)} {new : List Nat} {y0 : A} {r0 : List (Nat × Option VX.Obj)} (hS : Does P f xs rc new (Is y0 r0)) 
    {g : List (Nat × Nat × Bool)} {i : Nat} {l : List Nat} {k : List Item} {τ : List (Nat × A)} {r : List (Nat × Option VX.Obj)} {us : List Nat} {o : Oper} {vs : List A} (ho : ops.toList[i]? = some o) (hg : guardOf o g = some true)
    (hcal : Goes Γ P τ r us o f vs) {nt : Nat} (hnt : nt = Γ.n) (hdst : dstOk nt g o.dst = true)
    (h : autoK us r vs xs rc new fun π ld ns => keys π = keys rc ∧ callChk us r π ld new ns rc = true ∧ lentL π r ld vs xs ∧ subR π r rc ∧ flOK ld y0 r0 ∧
      catK ns us fun us' => nrmK us' (y0.ren (callRen (zipN new ns) π)) fun y => nrmRK us' (renR (callRen (zipN new ns) π) r0) fun w => putK o.dst y τ fun τ' => catK w (gone (vals π) r) fun r' =>
        W Γ P Q g (.inRegion ops l :: k) τ' r' us') :
    W Γ P Q g (.inRegion ops (i :: l) :: k) τ r us := by
  obtain ⟨π, ld, ns, he⟩ := autoK_ex (us := us) (r := r) (vs := vs) (xs := xs) (rc := rc) (new := new) (k := fun π ld ns => keys π = keys rc ∧ callChk us r π ld new ns rc = true ∧ lentL π r ld vs xs ∧ subR π r rc ∧ flOK ld y0 r0 ∧
      catK ns us fun us' => nrmK us' (y0.ren (callRen (zipN new ns) π)) fun y => nrmRK us' (renR (callRen (zipN new ns) π) r0) fun w => putK o.dst y τ fun τ' => catK w (gone (vals π) r) fun r' =>
        W Γ P Q g (.inRegion ops l :: k) τ' r' us')
  rw [he] at h
  obtain ⟨h1, h2, h3, h4, h5, h6⟩ := h
  rw [catK_eq, nrmK_eq, nrmRK_eq, putK_eq, catK_eq] at h6
  exact W.callFG hS ho hg hcal π ld ns h1 h2 hnt hdst h3 h4 (flOK_ok h5) (by rw [appN_eq, appR_eq]; exact h6)
end
end VX

/- VX 43: calls that leave what is handed over as it was, in regions whose order is drawn. -/
namespace VX
open Go

theorem renR_has {f : Nat → Nat} {n : Nat} : ∀ {l : List (Nat × Option VX.Obj)}, hasN (keys (renR f l)) n = true → ∃ o, look (renR f l) n = some o := fun h => keys_has h
theorem gone_has : ∀ {l : List Nat} {r : List (Nat × Option VX.Obj)} {n : Nat}, hasN l n = false → look (gone l r) n = look r n
  | [], r, n, _ => rfl
  | m :: l, r, n, h => by
    rw [hasN_cons, Bool.or_eq_false_iff, decide_eq_false_iff_not] at h
    rw [gone, look_cons, if_neg h.1]
    exact gone_has h.2

/-- Each told object that is not new stands in r as it is told. -/
def sameN (f : Nat → Nat) (ns : List Nat) (r : List (Nat × Option VX.Obj)) : List (Nat × Option VX.Obj) → Prop
  | [] => True
  | (n, o) :: l => (match hasN ns (f n) with
    | true => True
    | false => match o with
      | some ob => look r (f n) = some (some (ob.ren f))
      | none => False) ∧ sameN f ns r l
/-- The new ones. -/
def freshR (f : Nat → Nat) (ns : List Nat) : List (Nat × Option VX.Obj) → List (Nat × Option VX.Obj)
  | [] => []
  | (n, o) :: l => match hasN ns (f n) with
    | true => (match o with
      | some ob => (f n, some (ob.ren f)) :: freshR f ns l
      | none => (f n, none) :: freshR f ns l)
    | false => freshR f ns l
theorem sameN_look {f : Nat → Nat} {ns : List Nat} {r : List (Nat × Option VX.Obj)} {n : Nat} (hn : hasN ns n = false) : ∀ {l : List (Nat × Option VX.Obj)}, sameN f ns r l → ∀ {o : Option VX.Obj}, look (renR f l) n = some o → look r n = some o
  | [], _, o, h => by simp [renR, look] at h
  | (m, none) :: l, hs, o, h => by
    rw [renR, look_cons] at h
    have h1 := hs.1
    by_cases e : f m = n
    · subst e
      rw [hn] at h1
      exact h1.elim
    · rw [if_neg e] at h
      exact sameN_look hn hs.2 h
  | (m, some ob) :: l, hs, o, h => by
    rw [renR, look_cons] at h
    have h1 := hs.1
    by_cases e : f m = n
    · rw [if_pos e] at h
      cases h
      subst e
      rw [hn] at h1
      exact h1
    · rw [if_neg e] at h
      exact sameN_look hn hs.2 h
theorem freshR_look {f : Nat → Nat} {ns : List Nat} {n : Nat} (hn : hasN ns n = true) : ∀ (l : List (Nat × Option VX.Obj)), look (freshR f ns l) n = look (renR f l) n
  | [] => rfl
  | (m, none) :: l => by
    rw [renR, freshR, look_cons]
    by_cases e : f m = n
    · subst e
      rw [hn]
      simp only [look_cons, if_true]
    · rw [if_neg e]
      split
      · simp only [look_cons]; rw [if_neg e]; exact freshR_look hn l
      · exact freshR_look hn l
  | (m, some ob) :: l => by
    rw [renR, freshR, look_cons]
    by_cases e : f m = n
    · subst e
      rw [hn]
      simp only [look_cons, if_true]
    · rw [if_neg e]
      split
      · simp only [look_cons]; rw [if_neg e]; exact freshR_look hn l
      · exact freshR_look hn l
theorem freshR_no {f : Nat → Nat} {ns : List Nat} {n : Nat} (hn : hasN ns n = false) : ∀ (l : List (Nat × Option VX.Obj)), look (freshR f ns l) n = none
  | [] => rfl
  | (m, none) :: l => by
    rw [freshR]
    split
    · rename_i h1
      simp only [look_cons]
      rw [if_neg (fun e => by rw [e, hn] at h1; cases h1)]
      exact freshR_no hn l
    · exact freshR_no hn l
  | (m, some ob) :: l => by
    rw [freshR]
    split
    · rename_i h1
      simp only [look_cons]
      rw [if_neg (fun e => by rw [e, hn] at h1; cases h1)]
      exact freshR_no hn l
    · exact freshR_no hn l
theorem freshR_keys {f : Nat → Nat} {ns rl : List Nat} : ∀ (l : List (Nat × Option VX.Obj)), oldN ns rl (keys (freshR f ns l)) = true
  | [] => rfl
  | (m, none) :: l => by
    rw [freshR]
    split
    · rename_i h1
      show oldN ns rl (f m :: keys (freshR f ns l)) = true
      rw [oldN, h1]
      exact freshR_keys l
    · exact freshR_keys l
  | (m, some ob) :: l => by
    rw [freshR]
    split
    · rename_i h1
      show oldN ns rl (f m :: keys (freshR f ns l)) = true
      rw [oldN, h1]
      exact freshR_keys l
    · exact freshR_keys l

section
variable {Γ : Ctx} {P : Program} {Q : Act → World → Prop} {ops : Array Oper} {k' : List Item}
theorem same_all {f : Nat → Nat} {ns : List Nat} {π : List (Nat × Nat)} {r σr : List (Nat × Option VX.Obj)} {r0 : List (Nat × Option VX.Obj)} (hs : sameN f ns r r0) (hsub : subN (vals π) (keys (renR f r0)) = true) (hback : subN (keys (renR f r0)) (appN ns (vals π)) = true) (ha : Agree (vals π) r σr) (n : Nat) :
    look (appT (freshR f ns r0) σr) n = look (appR (renR f r0) (gone (vals π) σr)) n := by
  rw [appR_eq, appT_eq, look_append, look_append]
  cases hn : hasN ns n with
  | true =>
    rw [freshR_look hn]
    cases e : look (renR f r0) n with
    | some o => rfl
    | none =>
      have : hasN (vals π) n = false := by
        cases h : hasN (vals π) n with
        | false => rfl
        | true =>
          obtain ⟨o, ho⟩ := renR_has (subN_ok hsub h)
          rw [e] at ho; cases ho
      simp only
      rw [gone_has this]
  | false =>
    rw [freshR_no hn]
    simp only
    cases e : look (renR f r0) n with
    | some o =>
      have hk := subN_ok hback (look_keys e)
      rw [has_app, hn, Bool.false_or] at hk
      rw [ha n hk]
      exact sameN_look hn hs e
    | none =>
      have : hasN (vals π) n = false := by
        cases h : hasN (vals π) n with
        | false => rfl
        | true =>
          obtain ⟨o, ho⟩ := renR_has (subN_ok hsub h)
          rw [e] at ho; cases ho
      simp only
      rw [gone_has this]

/-- A call that leaves all as it was; what it makes is new. -/
theorem D.callR0 {done : List FM} {f : FuncId} {xs : List A} {rc : List (Nat × Option VX.Obj)} {new : List Nat} {y0 : A} {r0 : List (Nat × Option VX.Obj)} (hS : Does P f xs rc new (Is y0 r0)) (hf : callOK P f = true)
    {g : List (Nat × Nat × Bool)} {i : Nat} {l : List Nat} {τ : List (Nat × A)} {r : List (Nat × Option VX.Obj)} {us : List Nat} {o : Oper} {vs : List A} (ho : ops.toList[i]? = some o) (hg : guardOf o g = some true)
    (hcal : callee τ o = some (f, vs)) (π : List (Nat × Nat)) (ld ns : List Nat) (hk : keys π = keys rc) (hchk : callChk us r π ld new ns rc = true) {nt : Nat} (hnt : nt = Γ.n) (hdst : dstOk nt g o.dst = true)
    (hargs : lentL π r ld vs xs) (hsub : subR π r rc) (hfl : ld = [] ∨ (y0.flat ∧ flatR r0))
    (hsame : sameN (callRen (zipN new ns) π) ns r r0) (h1 : subN (vals π) (keys (renR (callRen (zipN new ns) π) r0)) = true) (h2 : subN (keys (renR (callRen (zipN new ns) π) r0)) (appN ns (vals π)) = true)
    (hchk2 : chkM ops (callEff ops i o (y0.ren (callRen (zipN new ns) π)) ld π (freshR (callRen (zipN new ns) π) ns r0) ns).f done = true)
    (h : D Γ P Q ops k' g ((callEff ops i o (y0.ren (callRen (zipN new ns) π)) ld π (freshR (callRen (zipN new ns) π) ns r0) ns).f.m :: done) l (putO o.dst (y0.ren (callRen (zipN new ns) π)) τ) (appT (freshR (callRen (zipN new ns) π) ns r0) r) (appN ns us)) :
    D Γ P Q ops k' g done (i :: l) τ r us := by
  refine ⟨fun fs hfs hG => ?_⟩
  subst hfs
  have hn := h.ok (_ :: fs) rfl (hG.put hdst)
  have hchk' := hchk
  unfold callChk at hchk'
  obtain ⟨c1, hchk'⟩ := andb hchk'
  obtain ⟨c2, hchk'⟩ := andb hchk'
  obtain ⟨c3, hchk'⟩ := andb hchk'
  obtain ⟨c4, hchk'⟩ := andb hchk'
  obtain ⟨c5, hchk'⟩ := andb hchk'
  obtain ⟨c6, c7⟩ := andb hchk'
  refine .cons (callEff ops i o (y0.ren (callRen (zipN new ns) π)) ld π (freshR (callRen (zipN new ns) π) ns r0) ns) rfl (effOf_ok (freshR_keys _)) ?_ (fun n hn => ?_) c6 (chkM_ok hchk2) ?_
  · intro σ1 a1 a2 aA f1 l W1
    refine W.dropG (gFor_GD (o := o) hG a1.of_right) (W.callF hS hf ho ((guardOf_gFor o g).trans hg) ((callee_agree a1.of_left).trans hcal) π ld ns hk ?_ hnt (dstOk_gFor hdst) (lentL_agree a2.of_left hargs) (subR_agree a2.of_right hsub) hfl (W.anyG ?_))
    · unfold callChk
      rw [liveN_agree a2.of_left, liveN_agree a2.of_right, c1, c2, c3, c4, c5, c7]
      rw [show freshL σ1.us ns = true from f1]; rfl
    · have q1 : (σ1.add (callEff ops i o (y0.ren (callRen (zipN new ns) π)) ld π (freshR (callRen (zipN new ns) π) ns r0) ns)).τ = putO o.dst (y0.ren (callRen (zipN new ns) π)) σ1.τ := appT_putL _ _ _
      have W2 : W Γ P Q [] (.inRegion ops l :: k') (putO o.dst (y0.ren (callRen (zipN new ns) π)) σ1.τ) (appT (freshR (callRen (zipN new ns) π) ns r0) σ1.r) (appN ns σ1.us) := by rw [← q1]; exact W1
      exact W.eqv (σ := ⟨putO o.dst (y0.ren (callRen (zipN new ns) π)) σ1.τ, appT (freshR (callRen (zipN new ns) π) ns r0) σ1.r, appN ns σ1.us⟩) (σ' := ⟨putO o.dst (y0.ren (callRen (zipN new ns) π)) σ1.τ, appR (renR (callRen (zipN new ns) π) r0) (gone (vals π) σ1.r), appN ns σ1.us⟩) W2
        ⟨fun _ => rfl, fun n => same_all hsame h1 h2 a2.of_right n, fun _ => rfl⟩
  · have hn : hasN (appN ld (vals π)) n = true := hn
    rw [has_app, Bool.or_eq_true] at hn
    rcases hn with hn | hn
    · exact liveN_ok c1 hn
    · exact liveN_ok c3 hn
  · have : (St.add ⟨τ, r, us⟩ (callEff ops i o (y0.ren (callRen (zipN new ns) π)) ld π (freshR (callRen (zipN new ns) π) ns r0) ns)) = ⟨putO o.dst (y0.ren (callRen (zipN new ns) π)) τ, appT (freshR (callRen (zipN new ns) π) ns r0) r, appN ns us⟩ := by
      unfold St.add
      rw [show appT (callEff ops i o (y0.ren (callRen (zipN new ns) π)) ld π (freshR (callRen (zipN new ns) π) ns r0) ns).τ τ = putO o.dst (y0.ren (callRen (zipN new ns) π)) τ from appT_putL _ _ _]
      rfl
    rw [this]
    exact hn
/-- The same; the names are found by looking. -/
theorem D.callAR {done : List FM} {f : FuncId} {xs : List A} {rc : List (Nat × Option VX.Obj)} {new : List Nat} {y0 : A} {r0 : List (Nat × Option VX.Obj)} (hS : Does P f xs rc new (Is y0 r0)) (hf : callOK P f = true)
    {g : List (Nat × Nat × Bool)} {i : Nat} {l : List Nat} {τ : List (Nat × A)} {r : List (Nat × Option VX.Obj)} {us : List Nat} {o : Oper} {vs : List A} (ho : ops.toList[i]? = some o) (hg : guardOf o g = some true)
    (hcal : callee τ o = some (f, vs)) {nt : Nat} (hnt : nt = Γ.n) (hdst : dstOk nt g o.dst = true)
    (h : autoK us r vs xs rc new fun π ld ns => keys π = keys rc ∧ callChk us r π ld new ns rc = true ∧ subN (vals π) (keys (renR (callRen (zipN new ns) π) r0)) = true ∧ subN (keys (renR (callRen (zipN new ns) π) r0)) (appN ns (vals π)) = true ∧ sameN (callRen (zipN new ns) π) ns r r0 ∧ lentL π r ld vs xs ∧ subR π r rc ∧ flOK ld y0 r0 ∧
      catK ns us fun us' => nrmK us' (y0.ren (callRen (zipN new ns) π)) fun y => nrmRK us' (freshR (callRen (zipN new ns) π) ns r0) fun w => chkK ops i (callEff ops i o y ld π w ns).f done (fun m => putK o.dst y τ fun τ' => catK w r fun r' => D Γ P Q ops k' g (m :: done) l τ' r' us') False) :
    D Γ P Q ops k' g done (i :: l) τ r us := by
  obtain ⟨π, ld, ns, he⟩ := autoK_ex (us := us) (r := r) (vs := vs) (xs := xs) (rc := rc) (new := new) (k := fun π ld ns => keys π = keys rc ∧ callChk us r π ld new ns rc = true ∧ subN (vals π) (keys (renR (callRen (zipN new ns) π) r0)) = true ∧ subN (keys (renR (callRen (zipN new ns) π) r0)) (appN ns (vals π)) = true ∧ sameN (callRen (zipN new ns) π) ns r r0 ∧ lentL π r ld vs xs ∧ subR π r rc ∧ flOK ld y0 r0 ∧
      catK ns us fun us' => nrmK us' (y0.ren (callRen (zipN new ns) π)) fun y => nrmRK us' (freshR (callRen (zipN new ns) π) ns r0) fun w => chkK ops i (callEff ops i o y ld π w ns).f done (fun m => putK o.dst y τ fun τ' => catK w r fun r' => D Γ P Q ops k' g (m :: done) l τ' r' us') False)
  rw [he] at h
  obtain ⟨h1, h2, h3, h4, h5, h6, h7, h8, h9⟩ := h
  rw [catK_eq, nrmK_eq, nrmRK_eq] at h9
  rw [chkK_eq (by rfl) ho] at h9
  split at h9
  · rename_i hc
    rw [putK_eq, catK_eq] at h9
    exact D.callR0 hS hf ho hg hcal π ld ns h1 h2 hnt hdst h6 h7 (flOK_ok h8) h5 h3 h4 hc (by rw [appT_eq, appN_eq]; exact h9)
  · exact h9.elim
end
end VX

/- VX 44: slices that keep their places in mind, in regions whose order is drawn. -/
namespace VX
open Go

section
variable {Γ : Ctx} {P : Program} {T : Tab} {Q : Act → World → Prop} {ops : Array Oper} {k' : List Item}

/-- An operation that makes nothing, by its rule. -/
theorem D.by {nt : Nat} {i : Nat} {l : List Nat} {o : Oper} (ho : ops.toList[i]? = some o) {g : List (Nat × Nat × Bool)} (hd : dstOk nt g o.dst = true) (hg : guardOf o g = some true)
    {τ : List (Nat × A)} {r : List (Nat × Option VX.Obj)} {us : List Nat} {vs : List A} {obs : List VX.Obj} (hvs : evs τ (opnds o.op) = some vs) (hobs : looks r (idsOf vs) = some obs) (hnr : needR o.op = true) {v : A} {w : List (Nat × Option VX.Obj)}
    {done : List FM} (hold : oldN [] (idsOf vs) (keys (revA w [])) = true)
    (hchk : chkM ops (effOf i (appN (rdsO (opnds o.op)) (grdS ops o)) o.dst v (idsOf vs) (idsOf vs) (revA w []) []).f done = true)
    (hW : ∀ {g1 : List (Nat × Nat × Bool)} {l1 : List Nat} {τ1 : List (Nat × A)} {r1 : List (Nat × Option VX.Obj)} {us1 : List Nat}, dstOk nt g1 o.dst = true → guardOf o g1 = some true → evs τ1 (opnds o.op) = some vs → looks r1 (idsOf vs) = some obs →
      W Γ P Q g1 (.inRegion ops l1 :: k') (putO o.dst v τ1) (addW r1 w) us1 → W Γ P Q g1 (.inRegion ops (i :: l1) :: k') τ1 r1 us1)
    (h : D Γ P Q ops k' g ((effOf i (appN (rdsO (opnds o.op)) (grdS ops o)) o.dst v (idsOf vs) (idsOf vs) (revA w []) []).f.m :: done) l (putO o.dst v τ) (addW r w) us) :
    D Γ P Q ops k' g done (i :: l) τ r us := by
  refine ⟨fun fs hfs hG => ?_⟩
  subst hfs
  have hn := h.ok (_ :: fs) rfl (hG.put hd)
  refine .cons (effOf i (appN (rdsO (opnds o.op)) (grdS ops o)) o.dst v (idsOf vs) (idsOf vs) (revA w []) []) rfl (effOf_ok hold) ?_ (alive_looks hobs) rfl (chkM_ok hchk) ?_
  · intro σ1 a1 a2 aA f1 l W1
    have e1 : evs σ1.τ (opnds o.op) = some vs := (evs_agree a1.of_left).trans hvs
    obtain ⟨obs', e2⟩ := looks_alive (l := idsOf vs) aA
    have a2 : Agree (idsOf vs) r σ1.r := a2
    rw [looks_agree (l := idsOf vs) a2, hobs] at e2
    cases e2
    refine W.dropG (gFor_GD (o := o) hG a1.of_right) (hW (dstOk_gFor hd) ((guardOf_gFor o g).trans hg) e1 ((looks_agree a2).trans hobs) ?_)
    have W2 := W.anyG (g := gFor o g) W1
    have et : (σ1.add (effOf i (appN (rdsO (opnds o.op)) (grdS ops o)) o.dst v (idsOf vs) (idsOf vs) (revA w []) [])).τ = putO o.dst v σ1.τ := by
      show appT (putL o.dst _) _ = _
      cases o.dst <;> rfl
    have er : (σ1.add (effOf i (appN (rdsO (opnds o.op)) (grdS ops o)) o.dst v (idsOf vs) (idsOf vs) (revA w []) [])).r = addW σ1.r w := (addW_eq _ _).symm
    have eu : (σ1.add (effOf i (appN (rdsO (opnds o.op)) (grdS ops o)) o.dst v (idsOf vs) (idsOf vs) (revA w []) [])).us = σ1.us := rfl
    rw [et, er, eu] at W2
    exact W2
  · have : (St.add ⟨τ, r, us⟩ (effOf i (appN (rdsO (opnds o.op)) (grdS ops o)) o.dst v (idsOf vs) (idsOf vs) (revA w []) [])) = ⟨putO o.dst v τ, addW r w, us⟩ := by
      unfold St.add
      rw [addW_eq, ← appT_putL]; rfl
    rw [this]
    exact hn

theorem evs2 {τ : List (Nat × A)} {x y : Operand} {a b : A} (h : evs τ [x, y] = some [a, b]) : ev τ x = some a ∧ ev τ y = some b := by
  simp only [evs] at h
  cases hx : ev τ x with
  | none => rw [hx] at h; cases h
  | some a' =>
    cases hy : ev τ y with
    | none => rw [hx, hy] at h; cases h
    | some b' => rw [hx, hy] at h; cases h; exact ⟨rfl, rfl⟩
theorem evs2_of {τ : List (Nat × A)} {x y : Operand} {a b : A} (hx : ev τ x = some a) (hy : ev τ y = some b) : evs τ [x, y] = some [a, b] := by
  simp only [evs, hx, hy]
theorem looks1 {r : List (Nat × Option VX.Obj)} {id : Nat} {ob : VX.Obj} (h : look r id = some (some ob)) : looks r [id] = some [ob] := by
  simp only [looks, h]
/-- 's[:h]'. -/
theorem D.sliceH (hT : TabOK P T.l) {nt : Nat} (hnt : nt = Γ.n) {i : Nat} {l : List Nat} {o : Oper} (ho : ops.toList[i]? = some o) {g : List (Nat × Nat × Bool)} (hd : dstOk nt g o.dst = true) (hg : guardOf o g = some true)
    {τ : List (Nat × A)} {r : List (Nat × Option VX.Obj)} {us : List Nat} {t : Nat} {x hi : Operand} (hop : o.op = .slice t x none (some hi) none) {se id off n K : Nat} (hx : ev τ x = some (.owk se id off n K)) {kk : IntKind} {h1 : Int} (hh : ev τ hi = some (.int kk h1))
    {e : Nat} (ht : T.d t = .slice e) {d : TD} {be : Nat} {z : A} {q : Bool} (hti : nth T.l e = some ⟨d, se, be, z, q⟩) {ob : VX.Obj} (hr : look r id = some (some ob)) {done : List FM}
    (hc : 0 ≤ h1 ∧ h1.toNat ≤ K)
    (h : chkK ops i (effOf i (appN (rdsO [x, hi]) (grdS ops o)) o.dst (.owk se id off h1.toNat K) [id] [id] [] []).f done (fun m => D Γ P Q ops k' g (m :: done) l (putO o.dst (.owk se id off h1.toNat K) τ) r us) False) : D Γ P Q ops k' g done (i :: l) τ r us := by
  rw [chkK_eq (by rfl) ho] at h
  split at h
  rotate_left
  · exact h.elim
  rename_i hchk
  have ho2 : opnds o.op = [x, hi] := by rw [hop]; rfl
  refine D.by (nt := nt) (vs := [.owk se id off n K, .int kk h1]) (obs := [ob]) (v := .owk se id off h1.toNat K) (w := []) ho hd hg (by rw [ho2]; exact evs2_of hx hh) (looks1 hr) (by rw [hop]; rfl) rfl (by rw [ho2]; exact hchk) ?_ (by rw [ho2]; exact h)
  intro g1 l1 τ1 r1 us1 d1 g1 e1 e2 W1
  rw [ho2] at e1
  exact W.sliceH hT hnt ho d1 g1 hop (evs2 e1).1 (evs2 e1).2 ht hti hc W1

/-- 's[l:]'. -/
theorem D.sliceL (hT : TabOK P T.l) {nt : Nat} (hnt : nt = Γ.n) {i : Nat} {l : List Nat} {o : Oper} (ho : ops.toList[i]? = some o) {g : List (Nat × Nat × Bool)} (hd : dstOk nt g o.dst = true) (hg : guardOf o g = some true)
    {τ : List (Nat × A)} {r : List (Nat × Option VX.Obj)} {us : List Nat} {t : Nat} {x lo : Operand} (hop : o.op = .slice t x (some lo) none none) {se id off n K : Nat} (hx : ev τ x = some (.owk se id off n K)) {kk : IntKind} {l1 : Int} (hl : ev τ lo = some (.int kk l1))
    {e : Nat} (ht : T.d t = .slice e) {d : TD} {be : Nat} {z : A} {q : Bool} (hti : nth T.l e = some ⟨d, se, be, z, q⟩) {ob : VX.Obj} (hr : look r id = some (some ob)) {done : List FM}
    (hc : 0 ≤ l1 ∧ l1.toNat ≤ n)
    (h : chkK ops i (effOf i (appN (rdsO [x, lo]) (grdS ops o)) o.dst (.own se id (off + l1.toNat) (n - l1.toNat)) [id] [id] [] []).f done (fun m => D Γ P Q ops k' g (m :: done) l (putO o.dst (.own se id (off + l1.toNat) (n - l1.toNat)) τ) r us) False) : D Γ P Q ops k' g done (i :: l) τ r us := by
  rw [chkK_eq (by rfl) ho] at h
  split at h
  rotate_left
  · exact h.elim
  rename_i hchk
  have ho2 : opnds o.op = [x, lo] := by rw [hop]; rfl
  refine D.by (nt := nt) (vs := [.owk se id off n K, .int kk l1]) (obs := [ob]) (v := .own se id (off + l1.toNat) (n - l1.toNat)) (w := []) ho hd hg (by rw [ho2]; exact evs2_of hx hl) (looks1 hr) (by rw [hop]; rfl) rfl (by rw [ho2]; exact hchk) ?_ (by rw [ho2]; exact h)
  intro g1 l1 τ1 r1 us1 d1 g1 e1 e2 W1
  rw [ho2] at e1
  exact W.sliceL hT hnt ho d1 g1 hop (evs2 e1).1 (evs2 e1).2 ht hti hc W1

/-- What is appended where there is room for it; the source may be a part of the same array. -/
theorem D.appendIn (hT : TabOK P T.l) {nt : Nat} (hnt : nt = Γ.n) {i : Nat} {l : List Nat} {o : Oper} (ho : ops.toList[i]? = some o) {g : List (Nat × Nat × Bool)} (hd : dstOk nt g o.dst = true) (hg : guardOf o g = some true)
    {τ : List (Nat × A)} {r : List (Nat × Option VX.Obj)} {us : List Nat} {s x : Operand} {t : Nat} (hop : o.op = .call { callee := .builtin .append, args := #[s, x], argTypes := #[t, t] })
    {se id n K : Nat} (hs : ev τ s = some (.owk se id 0 n K)) {off' n' : Nat} (hx : ev τ x = some (.own se id off' n')) {e : Nat} (ht : T.d t = .slice e) {d : TD} {be : Nat} {z : A} {q : Bool} (hti : nth T.l e = some ⟨d, se, be, z, q⟩)
    {m : Nat} {G : Nat → A} (hr : look r id = some (some (.arr se m G))) {done : List FM}
    (hc : n + n' ≤ K ∧ K ≤ m ∧ off' + n' ≤ m ∧ 0 < K)
    (h : chkK ops i (effOf i (appN (rdsO [s, x]) (grdS ops o)) o.dst (.owk se id 0 (n + n') K) [id, id] [id, id] [(id, some (.arr se m (spliceF G n n' (shiftF off' G))))] []).f done (fun fm => D Γ P Q ops k' g (fm :: done) l (putO o.dst (.owk se id 0 (n + n') K) τ) ((id, some (.arr se m (spliceF G n n' (shiftF off' G)))) :: r) us) False) : D Γ P Q ops k' g done (i :: l) τ r us := by
  rw [chkK_eq (by rfl) ho] at h
  split at h
  rotate_left
  · exact h.elim
  rename_i hchk
  have ho2 : opnds o.op = [s, x] := by rw [hop]; rfl
  have hl2 : looks r [id, id] = some [.arr se m G, .arr se m G] := by simp only [looks, hr]
  refine D.by (nt := nt) (vs := [.owk se id 0 n K, .own se id off' n']) (obs := [.arr se m G, .arr se m G]) (v := .owk se id 0 (n + n') K) (w := [(id, some (.arr se m (spliceF G n n' (shiftF off' G))))]) ho hd hg (by rw [ho2]; exact evs2_of hs hx) hl2 (by rw [hop]; rfl) ?_ (by rw [ho2]; exact hchk) ?_ (by rw [ho2]; exact h)
  · show oldN [] [id, id] [id] = true
    simp [oldN, hasN]
  intro g1 l1 τ1 r1 us1 d1 g1 e1 e2 W1
  rw [ho2] at e1
  have e3 : look r1 id = some (some (.arr se m G)) := by
    obtain ⟨ob', obs', e, h1, h2⟩ := looks_cons (show looks r1 [id, id] = some [.arr se m G, .arr se m G] from e2)
    cases e
    exact h1
  exact W.appendIn hT hnt ho d1 g1 hop rfl rfl rfl (evs2 e1).1 (evs2 e1).2 ht hti e3 hc W1
end
end VX

