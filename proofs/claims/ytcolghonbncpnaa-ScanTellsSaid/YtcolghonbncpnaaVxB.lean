/- A symbolic executor for the model's code, and its soundness (part 2 of 9): a general tool, no statement about this program. -/
import Derived.Test.YtcolghonbncpnaaVxA
import Derived.Laws.Strings
set_option linter.unusedSimpArgs false
set_option linter.unusedVariables false
/- VX 5: parts of data, and memory: loads and stores. -/
namespace VX
open Go

theorem allP_append {l m : List Prop} : allP (l ++ m) ↔ allP l ∧ allP m := by
  induction l with
  | nil => simp [allP]
  | cons p l ih => simp [allP, ih, and_assoc]

theorem cellsL_append (l m : List A) : A.cellsL (l ++ m) = A.cellsL l ++ A.cellsL m := by
  induction l with
  | nil => rfl
  | cons x l ih => simp [A.cellsL, ih]
theorem sizeL_append (l m : List A) : A.sizeL (l ++ m) = A.sizeL l + A.sizeL m := by
  induction l with
  | nil => simp [A.sizeL]
  | cons x l ih => simp [A.sizeL, ih]; omega
theorem wfL_append (l m : List A) : A.wfL (l ++ m) ↔ A.wfL l ∧ A.wfL m := by
  induction l with
  | nil => simp [A.wfL]
  | cons x l ih => simp [A.wfL, ih, and_assoc]
theorem purePL_append (l m : List A) : A.purePL (l ++ m) ↔ A.purePL l ∧ A.purePL m := by
  induction l with
  | nil => simp [A.purePL]
  | cons x l ih => simp [A.purePL, ih, and_assoc]
theorem surePL_append (l m : List A) : A.surePL (l ++ m) ↔ A.surePL l ∧ A.surePL m := by
  induction l with
  | nil => simp [A.surePL]
  | cons x l ih => simp [A.surePL, ih, and_assoc]

theorem partL_ok : ∀ (ps : List A) (off : Nat) (y : A), partL ps off = some y → ∃ l m, ps = l ++ y :: m ∧ A.sizeL l = off ∧ ∀ z, setPartL ps off z = l ++ z :: m
  | [], off, y, h => by simp [partL] at h
  | x :: xs, off, y, h => by
    unfold partL at h
    cases e : Nat.beq off 0 with
    | true =>
      rw [e] at h
      simp only [cond_true, Option.some.injEq] at h
      subst h
      have := Nat.eq_of_beq_eq_true e
      subst this
      exact ⟨[], xs, rfl, rfl, fun z => rfl⟩
    | false =>
      rw [e] at h
      simp only [cond_false] at h
      cases e2 : Nat.ble x.size off with
      | false => rw [e2] at h; cases h
      | true =>
        rw [e2] at h
        simp only [cond_true] at h
        have hle := Nat.le_of_ble_eq_true e2
        obtain ⟨l, m, rfl, hl, hz⟩ := partL_ok xs _ y h
        refine ⟨x :: l, m, rfl, by simp [A.sizeL, hl]; omega, fun z => ?_⟩
        simp [setPartL, e, hz]

theorem flat_split {sz n : Nat} {f : Nat → List A} (hf : ∀ j, j < n → (f j).length = sz) {i : Nat} (hi : i < n) :
    ∃ l m, (List.range n).flatMap f = l ++ f i ++ m ∧ l.length = i * sz ∧ ∀ (f' : Nat → List A), (∀ j, j < n → j ≠ i → f' j = f j) → (List.range n).flatMap f' = l ++ f' i ++ m := by
  refine ⟨(List.range i).flatMap f, ((List.range' (i + 1) (n - (i + 1)))).flatMap f, ?_, ?_, ?_⟩
  · have : List.range n = List.range i ++ [i] ++ List.range' (i + 1) (n - (i + 1)) := by
      rw [List.range_eq_range', List.range_eq_range']
      rw [show [i] = List.range' i 1 from rfl]
      rw [show List.range' 0 i ++ List.range' i 1 = List.range' 0 (i + 1) by
        have := @List.range'_append 0 i 1 1
        simpa using this]
      have := @List.range'_append 0 (i + 1) (n - (i + 1)) 1
      simp only [Nat.one_mul, Nat.zero_add] at this
      rw [this]
      congr 1
      omega
    rw [this]
    simp
  · have : ∀ k, k ≤ n → ((List.range k).flatMap f).length = k * sz := by
      intro k
      induction k with
      | zero => intro _; simp
      | succ k ih =>
        intro hk
        rw [List.range_succ, List.flatMap_append, List.length_append, ih (by omega)]
        simp [hf k (by omega), Nat.succ_mul]
    exact this i (by omega)
  · intro f' h'
    have : List.range n = List.range i ++ [i] ++ List.range' (i + 1) (n - (i + 1)) := by
      rw [List.range_eq_range', List.range_eq_range']
      rw [show [i] = List.range' i 1 from rfl]
      rw [show List.range' 0 i ++ List.range' i 1 = List.range' 0 (i + 1) by
        have := @List.range'_append 0 i 1 1
        simpa using this]
      have := @List.range'_append 0 (i + 1) (n - (i + 1)) 1
      simp only [Nat.one_mul, Nat.zero_add] at this
      rw [this]
      congr 1
      omega
    rw [this]
    simp only [List.flatMap_append, List.flatMap_cons, List.flatMap_nil, List.append_nil]
    congr 1
    · congr 1
      rw [List.flatMap_def, List.flatMap_def]
      congr 1
      apply List.map_congr_left
      intro j hj
      have : j < i := by simpa using hj
      exact h' j (by omega) (by omega)
    · rw [List.flatMap_def, List.flatMap_def]
      congr 1
      apply List.map_congr_left
      intro j hj
      rw [List.mem_range'] at hj
      obtain ⟨k, hk, rfl⟩ := hj
      exact h' _ (by omega) (by omega)

theorem RL.middle {I : Imm} {ρ : Ren} {l x m : List A} {vs : List Value} (h : RL I ρ (l ++ x ++ m) vs) : RL I ρ x ((vs.drop l.length).take x.length) := by
  obtain ⟨h1, _⟩ := RL.split h
  obtain ⟨_, h3⟩ := RL.split h1
  rw [List.length_append] at h3
  rwa [List.drop_take, Nat.add_sub_cancel_left] at h3
theorem RL.splice {I : Imm} {ρ : Ren} {l x y m : List A} {vs us : List Value} (h : RL I ρ (l ++ x ++ m) vs) (hy : RL I ρ y us) (hl : x.length = y.length) : RL I ρ (l ++ y ++ m) (spliceL vs l.length us) := by
  obtain ⟨h1, h2⟩ := RL.split h
  obtain ⟨h3, _⟩ := RL.split h1
  rw [List.length_append] at h2 h3
  rw [List.take_take, Nat.min_eq_left (by omega)] at h3
  unfold spliceL
  refine RL.append (RL.append h3 hy) ?_
  rw [← hy.length, ← hl]
  exact h2

/-- The part at a path. -/
theorem getP_ok {I : Imm} {ρ : Ren} : ∀ (p : List Step) (x y : A) (c : List Prop), x.wf → getP p x = some (y, c) → allP c →
    y.wf ∧ addr p + y.size ≤ x.size ∧ y.size = lastSz p x.size ∧ (hasIdx p = true → y.pureP) ∧ (x.pureP → y.pureP) ∧ (∀ vs, RL I ρ x.cells vs → RL I ρ y.cells ((vs.drop (addr p)).take y.size))
  | [], x, y, c, hw, h, hc => by
    simp only [getP, Option.some.injEq, Prod.mk.injEq] at h
    obtain ⟨rfl, rfl⟩ := h
    refine ⟨hw, by simp [addr], rfl, by simp [hasIdx], fun h => h, fun vs hv => ?_⟩
    have := hv.length
    rw [A.length_cells x hw] at this
    simpa [addr, this] using hv
  | .fld off sz :: p, x, y, c, hw, h, hc => by
    cases x with
    | agg ps =>
      simp only [getP] at h
      cases e : partL ps off with
      | none => rw [e] at h; cases h
      | some z =>
        rw [e] at h
        simp only at h
        cases e2 : Nat.beq z.size sz with
        | false => rw [e2] at h; cases h
        | true =>
          rw [e2] at h
          simp only [cond_true] at h
          have hsz := Nat.eq_of_beq_eq_true e2
          obtain ⟨l, m, rfl, hl, _⟩ := partL_ok ps off z e
          have hw' : A.wfL (l ++ z :: m) := hw
          rw [wfL_append] at hw'
          obtain ⟨hwl, hwz, hwm⟩ := hw'
          obtain ⟨k1, k2, k3, k4, k4', k5⟩ := getP_ok p z y c hwz h hc
          refine ⟨k1, ?_, ?_, by simpa [hasIdx] using k4, fun hp => k4' ((purePL_append l (z :: m)).1 hp).2.1, fun vs hv => ?_⟩
          · simp only [addr, A.size, sizeL_append, A.sizeL]
            omega
          · rw [lastSz, ← hsz]; exact k3
          · simp only [A.cells, cellsL_append, A.cellsL] at hv
            rw [← List.append_assoc] at hv
            have h2 := k5 _ (RL.middle hv)
            rw [A.length_cells z hwz, A.length_cellsL l hwl, hl] at h2
            rw [List.drop_take, List.take_take, Nat.min_eq_left (by omega), List.drop_drop] at h2
            rw [addr]
            exact h2
    | _ => simp [getP] at h
  | .idx i sz :: p, x, y, c, hw, h, hc => by
    cases x with
    | vec sz' n g =>
      simp only [getP] at h
      cases e2 : Nat.beq sz sz' with
      | false => rw [e2] at h; cases h
      | true =>
        rw [e2] at h
        simp only [cond_true] at h
        have hsz := Nat.eq_of_beq_eq_true e2
        subst hsz
        cases e : getP p (g i) with
        | none => rw [e] at h; cases h
        | some z =>
          obtain ⟨z, c'⟩ := z
          rw [e] at h
          simp only [Option.some.injEq, Prod.mk.injEq] at h
          obtain ⟨rfl, rfl⟩ := h
          obtain ⟨hi, hc'⟩ := hc
          have hg := hw i hi
          obtain ⟨k1, k2, k3, k4, k4', k5⟩ := getP_ok p (g i) z c' hg.1 e hc'
          have hlen : ∀ j, j < n → ((fun i => (g i).cells) j).length = sz := fun j hj => by
            simp only []
            rw [A.length_cells _ (hw j hj).1, (hw j hj).2.1]
          refine ⟨k1, ?_, ?_, fun _ => k4' hg.2.2, fun _ => k4' hg.2.2, fun vs hv => ?_⟩
          · simp only [addr, A.size]
            have h1 : (i + 1) * sz ≤ n * sz := Nat.mul_le_mul_right _ hi
            rw [Nat.succ_mul] at h1
            have := hg.2.1
            omega
          · rw [lastSz, ← hg.2.1]; exact k3
          · obtain ⟨l, m, hf, hl, _⟩ := flat_split (f := fun i => (g i).cells) hlen hi
            simp only [A.cells] at hv
            rw [hf] at hv
            have h2 := k5 _ (RL.middle hv)
            rw [A.length_cells _ hg.1, hl] at h2
            rw [List.drop_take, List.take_take, Nat.min_eq_left (by omega), List.drop_drop] at h2
            rw [addr]
            exact h2
    | _ => simp [getP] at h

theorem spliceL_length {vs us : List Value} {o : Nat} (h : o + us.length ≤ vs.length) : (spliceL vs o us).length = vs.length := by
  simp [spliceL]; omega

theorem spliceL_deep (vs : List Value) (o m o' : Nat) (us : List Value) (h : o' + us.length ≤ m) (hv : o + m ≤ vs.length) :
    spliceL vs o (spliceL ((vs.drop o).take m) o' us) = spliceL vs (o + o') us := by
  have hlen : (spliceL ((vs.drop o).take m) o' us).length = m := by
    rw [spliceL_length] <;> simp <;> omega
  unfold spliceL at hlen ⊢
  rw [hlen]
  rw [List.take_take, Nat.min_eq_left (by omega)]
  rw [List.drop_take, List.drop_drop]
  rw [List.take_add (i := o) (j := o')]
  simp only [List.append_assoc]
  congr 1
  congr 1
  congr 1
  rw [show vs.drop (o + o' + us.length) = (vs.drop (o + (o' + us.length))) by rw [Nat.add_assoc]]
  have : vs.drop (o + m) = (vs.drop (o + (o' + us.length))).drop (m - (o' + us.length)) := by
    rw [List.drop_drop]; congr 1; omega
  rw [this, List.take_append_drop]

/-- Another part at a path. -/
theorem setP_ok {I : Imm} {ρ : Ren} : ∀ (p : List Step) (x y z : A) (c : List Prop), x.wf → getP p x = some (z, c) → allP c → y.wf → y.size = z.size → (hasIdx p = true → y.pureP) →
    (setP p x y).wf ∧ (setP p x y).size = x.size ∧ (x.pureP → y.pureP → (setP p x y).pureP) ∧ (∀ vs us, RL I ρ x.cells vs → RL I ρ y.cells us → RL I ρ (setP p x y).cells (spliceL vs (addr p) us))
  | [], x, y, z, c, hw, h, hc, hy, hs, hp => by
    simp only [getP, Option.some.injEq, Prod.mk.injEq] at h
    obtain ⟨rfl, rfl⟩ := h
    refine ⟨hy, hs, fun _ h => h, fun vs us hv hu => ?_⟩
    have h1 := hv.length
    have h2 := hu.length
    rw [A.length_cells x hw] at h1
    rw [A.length_cells y hy] at h2
    simp only [setP, addr, spliceL, List.take_zero, List.nil_append, Nat.zero_add]
    rw [List.drop_of_length_le (by omega), List.append_nil]
    exact hu
  | .fld off sz :: p, x, y, z, c, hw, h, hc, hy, hs, hp => by
    cases x with
    | agg ps =>
      simp only [getP] at h
      cases e : partL ps off with
      | none => rw [e] at h; cases h
      | some q =>
        rw [e] at h
        simp only at h
        cases e2 : Nat.beq q.size sz with
        | false => rw [e2] at h; cases h
        | true =>
          rw [e2] at h
          simp only [cond_true] at h
          obtain ⟨l, m, rfl, hl, hset⟩ := partL_ok ps off q e
          have hw' : A.wfL (l ++ q :: m) := hw
          rw [wfL_append] at hw'
          obtain ⟨hwl, hwz, hwm⟩ := hw'
          obtain ⟨k1, k2, k3, k4⟩ := setP_ok (I := I) (ρ := ρ) p q y z c hwz h hc hy hs (by simpa [hasIdx] using hp)
          obtain ⟨g1, g2, _, _, _, g5⟩ := getP_ok (I := I) (ρ := ρ) p q z c hwz h hc
          have hsetE : setP (.fld off sz :: p) (.agg (l ++ q :: m)) y = .agg (l ++ setP p q y :: m) := by
            simp only [setP, e, hset]
          rw [hsetE]
          refine ⟨?_, ?_, fun hx hy' => ?_, fun vs us hv hu => ?_⟩
          · show A.wfL _
            rw [wfL_append]
            exact ⟨hwl, k1, hwm⟩
          · simp only [A.size, sizeL_append, A.sizeL, k2]
          · have := (purePL_append l (q :: m)).1 hx
            exact (purePL_append l _).2 ⟨this.1, k3 this.2.1 hy', this.2.2⟩
          · simp only [A.cells, cellsL_append, A.cellsL] at hv ⊢
            rw [← List.append_assoc] at hv ⊢
            have hlenv := hv.length
            have hu' := hu.length
            rw [A.length_cells y hy] at hu'
            have h2 := k4 _ us (RL.middle hv) hu
            have h3 := RL.splice hv h2 (by rw [A.length_cells _ hwz, A.length_cells _ k1, k2])
            rw [A.length_cells q hwz, A.length_cellsL l hwl, hl] at h3
            rw [spliceL_deep _ _ _ _ _ (by omega) (by
              rw [← hlenv]
              simp only [List.length_append, A.length_cells q hwz, A.length_cellsL l hwl, hl]
              omega)] at h3
            exact h3
    | _ => simp [getP] at h
  | .idx i sz :: p, x, y, z, c, hw, h, hc, hy, hs, hp => by
    cases x with
    | vec sz' n g =>
      simp only [getP] at h
      cases e2 : Nat.beq sz sz' with
      | false => rw [e2] at h; cases h
      | true =>
        rw [e2] at h
        simp only [cond_true] at h
        have hsz := Nat.eq_of_beq_eq_true e2
        subst hsz
        cases e : getP p (g i) with
        | none => rw [e] at h; cases h
        | some q =>
          obtain ⟨q, c'⟩ := q
          rw [e] at h
          simp only [Option.some.injEq, Prod.mk.injEq] at h
          obtain ⟨rfl, rfl⟩ := h
          obtain ⟨hi, hc'⟩ := hc
          have hg := hw i hi
          have hpy : y.pureP := hp rfl
          obtain ⟨k1, k2, k3, k4⟩ := setP_ok (I := I) (ρ := ρ) p (g i) y q c' hg.1 e hc' hy hs (fun _ => hpy)
          obtain ⟨g1, g2, _, _, _, g5⟩ := getP_ok (I := I) (ρ := ρ) p (g i) q c' hg.1 e hc'
          have hlen : ∀ j, j < n → ((fun i => (g i).cells) j).length = sz := fun j hj => by
            simp only []
            rw [A.length_cells _ (hw j hj).1, (hw j hj).2.1]
          have hat : ∀ j, (bif Nat.beq j i then setP p (g i) y else g j) = if j = i then setP p (g i) y else g j := fun j => by
            by_cases hj : j = i
            · subst hj; simp
            · rw [nbeq_ne hj]; simp [hj]
          have hS : setP (.idx i sz :: p) (.vec sz n g) y = .vec sz n fun j => if j = i then setP p (g i) y else g j := by
            simp only [setP]
            congr 1
            exact funext hat
          rw [hS]
          refine ⟨fun j hj => ?_, by simp [A.size], fun hx hy' j hj => ?_, fun vs us hv hu => ?_⟩
          · show (if j = i then setP p (g i) y else g j).wf ∧ (if j = i then setP p (g i) y else g j).size = sz ∧ (if j = i then setP p (g i) y else g j).pureP
            by_cases hji : j = i
            · rw [if_pos hji]; exact ⟨k1, by rw [k2]; exact hg.2.1, k3 hg.2.2 hpy⟩
            · rw [if_neg hji]; exact hw j hj
          · show (if j = i then setP p (g i) y else g j).pureP
            by_cases hji : j = i
            · rw [if_pos hji]; exact k3 hg.2.2 hpy
            · rw [if_neg hji]; exact (hw j hj).2.2
          · obtain ⟨l, m, hf, hl, hf'⟩ := flat_split (f := fun i => (g i).cells) hlen hi
            simp only [A.cells] at hv ⊢
            rw [hf] at hv
            have hlenv := hv.length
            have hu' := hu.length
            rw [A.length_cells y hy] at hu'
            rw [hf' (fun j => (if j = i then setP p (g i) y else g j).cells) (fun j hj hne => by simp only [if_neg hne])]
            simp only [if_true]
            have h2 := k4 _ us (RL.middle hv) hu
            have h3 := RL.splice hv h2 (by rw [A.length_cells _ hg.1, A.length_cells _ k1, k2])
            rw [A.length_cells _ hg.1, hl] at h3
            rw [spliceL_deep _ _ _ _ _ (by omega) (by
              rw [← hlenv]
              simp only [List.length_append, A.length_cells _ hg.1, hl]
              omega)] at h3
            exact h3
    | _ => simp [getP] at h
end VX

/- VX 6: loads, stores, new variables. -/
namespace VX
open Go

/-! ### what is sure -/
def Cell (x : A) : Prop := isAgg x = false ∧ x ≠ .any ∧ ∀ l, x ≠ .tup l
mutual
theorem cells_pure : ∀ (x : A), x.wf → x.pureP → ∀ c ∈ x.cells, Cell c
  | .vec sz n g, h, hp, c, hc => by
    simp only [A.cells, List.mem_flatMap, List.mem_range] at hc
    obtain ⟨i, hi, hc⟩ := hc
    exact cells_pure (g i) (h i hi).1 (h i hi).2.2 c hc
  | .agg ps, h, hp, c, hc => cells_pureL ps h hp c hc
  | .int .., _, _, c, hc | .bool _, _, _, c, hc | .str _, _, _, c, hc | .ro .., _, _, c, hc | .rol .., _, _, c, hc | .own .., _, _, c, hc | .owl .., _, _, c, hc | .owk .., _, _, c, hc | .ptr .., _, _, c, hc
  | .vsl .., _, _, c, hc | .rop _, _, _, c, hc | .nils, _, _, c, hc | .nilp, _, _, c, hc | .nilm, _, _, c, hc | .nilf, _, _, c, hc | .nili, _, _, c, hc | .map _, _, _, c, hc | .func .., _, _, c, hc
  | .iface .., _, _, c, hc => by
    simp only [A.cells, List.mem_singleton] at hc
    subst hc
    exact ⟨rfl, by simp, by simp⟩
  | .tup _, _, hp, _, _ => hp.elim
  | .any, _, hp, _, _ => hp.elim
theorem cells_pureL : ∀ (l : List A), A.wfL l → A.purePL l → ∀ c ∈ A.cellsL l, Cell c
  | [], _, _, c, hc => by simp [A.cellsL] at hc
  | x :: xs, h, hp, c, hc => by
    rw [A.cellsL, List.mem_append] at hc
    rcases hc with hc | hc
    · exact cells_pure x h.1 hp.1 c hc
    · exact cells_pureL xs h.2 hp.2 c hc
end
mutual
theorem cells_sure : ∀ (x : A), x.wf → x.sureP → ∀ c ∈ x.cells, Cell c
  | .vec sz n g, h, hp, c, hc => by
    simp only [A.cells, List.mem_flatMap, List.mem_range] at hc
    obtain ⟨i, hi, hc⟩ := hc
    exact cells_pure (g i) (h i hi).1 (h i hi).2.2 c hc
  | .agg ps, h, hp, c, hc => cells_sureL ps h hp c hc
  | .int .., _, _, c, hc | .bool _, _, _, c, hc | .str _, _, _, c, hc | .ro .., _, _, c, hc | .rol .., _, _, c, hc | .own .., _, _, c, hc | .owl .., _, _, c, hc | .owk .., _, _, c, hc | .ptr .., _, _, c, hc
  | .vsl .., _, _, c, hc | .rop _, _, _, c, hc | .nils, _, _, c, hc | .nilp, _, _, c, hc | .nilm, _, _, c, hc | .nilf, _, _, c, hc | .nili, _, _, c, hc | .map _, _, _, c, hc | .func .., _, _, c, hc
  | .iface .., _, _, c, hc => by
    simp only [A.cells, List.mem_singleton] at hc
    subst hc
    exact ⟨rfl, by simp, by simp⟩
  | .tup _, _, hp, _, _ => hp.elim
  | .any, _, hp, _, _ => hp.elim
theorem cells_sureL : ∀ (l : List A), A.wfL l → A.surePL l → ∀ c ∈ A.cellsL l, Cell c
  | [], _, _, c, hc => by simp [A.cellsL] at hc
  | x :: xs, h, hp, c, hc => by
    rw [A.cellsL, List.mem_append] at hc
    rcases hc with hc | hc
    · exact cells_sure x h.1 hp.1 c hc
    · exact cells_sureL xs h.2 hp.2 c hc
end
mutual
theorem pure_sure : ∀ (x : A), x.pureP → x.sureP
  | .agg ps, h => pure_sureL ps h
  | .vec .., _ | .int .., _ | .bool _, _ | .str _, _ | .ro .., _ | .rol .., _ | .own .., _ | .owl .., _ | .owk .., _ | .ptr .., _ | .vsl .., _ | .rop _, _ | .nils, _ | .nilp, _ | .nilm, _ | .nilf, _ | .nili, _
  | .map _, _ | .func .., _ | .iface .., _ => trivial
  | .tup _, h => h
  | .any, h => h
theorem pure_sureL : ∀ (l : List A), A.purePL l → A.surePL l
  | [], _ => trivial
  | x :: xs, h => ⟨pure_sure x h.1, pure_sureL xs h.2⟩
end

theorem RL.oneCell {I : Imm} {ρ : Ren} : ∀ {xs : List A} {vs : List Value}, RL I ρ xs vs → (∀ c ∈ xs, Cell c) → ∀ v ∈ vs, v.oneCell' = true
  | _, _, .nil, _, v, hv => by simp at hv
  | _, _, .cons a b, h, v, hv => by
    rcases List.mem_cons.1 hv with rfl | hv
    · have := h _ (List.mem_cons_self)
      exact a.one this.1 this.2.1 this.2.2
    · exact RL.oneCell b (fun c hc => h c (List.mem_cons_of_mem _ hc)) v hv

/-- The cells of a value that can be stored. -/
theorem R.cells {I : Imm} {ρ : Ren} {y : A} {v : Value} (h : R I ρ y v) (hs : y.sureP) : RL I ρ y.cells v.cells.toList ∧ ∀ u ∈ v.cells.toList, u.oneCell' = true := by
  cases hy : isAgg y with
  | true =>
    obtain ⟨vs, rfl, hw, hr⟩ := h.agg_inv hy
    exact ⟨by simpa [Value.cells] using hr, by simpa [Value.cells] using hr.oneCell (cells_sure y hw hs)⟩
  | false =>
    have h1 : v.oneCell' = true := h.one hy (by rintro rfl; exact hs) (by rintro l rfl; exact hs)
    have h2 : v.cells = #[v] := by cases v <;> first | rfl | (simp [Value.oneCell'] at h1)
    rw [h2, cells_of_one hy]
    exact ⟨by simpa using RL.cons h .nil, by simpa using h1⟩

theorem isAgg_run {P : Program} {w : World} {t : Nat} {u : TypeDesc} (hu : P.underlying t = some u) : (Go.isAgg t).run P w = .ok (aggD (tdOf u)) w := by
  unfold Go.isAgg
  simp only [Sem.run_bind, underlying, run_program, Result.andThen_ok, hu, Sem.run_pure]
  cases u <;> rfl
theorem sizeOf_run {P : Program} {w : World} {t : Nat} {i : TypeInfo} (hi : P.info? t = some i) : (Go.sizeOf t).run P w = .ok i.size w := by
  simp [Go.sizeOf, typeInfo, hi]
theorem zeroValue_run {P : Program} {w : World} {t : Nat} {i : TypeInfo} {z : Value} (hi : P.info? t = some i) (hz : i.zero = some z) : (Go.zeroValue t).run P w = .ok z w := by
  simp [Go.zeroValue, typeInfo, hi, hz]

section
variable {P : Program} {T : Tab} (hT : TabOK P T.l)
variable {Γ : Ctx} {I : Imm} {ρ : Ren} {r : List (Nat × Option Obj)} {us : List Nat} {w : World} {nm : Nat}

/-- Cells of a block, read as a datum. -/
theorem loadVar_blk {t : Nat} {u : TypeDesc} {i : TypeInfo} (hu : P.underlying t = some u) (hi : P.info? t = some i) {b o : Nat} {vs : Array Value} {e : TypeId} {fz : Nat × Nat}
    (hb : w.heap[b]? = some (.cells vs e fz)) {y : A} (hw : y.wf) (hs : y.size = i.size) (ha : isAgg y = aggD (tdOf u)) (ho : o + y.size ≤ vs.size) (hr : RL I ρ y.cells ((vs.toList.drop o).take y.size)) :
    ∃ v, (loadVar t ⟨b, o, none⟩).run P w = .ok v w ∧ R I ρ y v := by
  unfold loadVar
  rw [Sem.run_bind, isAgg_run hu, Result.andThen_ok, ← ha]
  cases hy : isAgg y with
  | true =>
    refine ⟨.agg ((vs.toList.drop o).take y.size).toArray, ?_, .agg hy hw hr⟩
    simp only [if_true, Sem.run_bind, sizeOf_run hi, Result.andThen_ok, ← hs, run_loadCells_blk hb ho, Sem.run_pure]
  | false =>
    rw [cells_of_one hy] at hr
    obtain ⟨v, hv, hR⟩ := hr.one_inv
    have h1 := size_of_one hy
    rw [h1] at hv ho
    refine ⟨v, ?_, hR⟩
    have : vs[o]? = some v := by
      have := congrArg (·[0]?) hv
      simpa using this
    simp [World.cell?, hb, this]

/-- What never changes, read as a datum. -/
theorem loadVar_imm (hI : ∀ b o v, I b o = some v → w.cell? ⟨b, o, none⟩ = some v) {t : Nat} {u : TypeDesc} {i : TypeInfo} (hu : P.underlying t = some u) (hi : P.info? t = some i) {b o : Nat}
    {y : A} (hw : y.wf) (hs : y.size = i.size) (ha : isAgg y = aggD (tdOf u)) (hr : RA I nr y.cells b o) :
    ∃ v, (loadVar t ⟨b, o, none⟩).run P w = .ok v w ∧ R I nr y v := by
  obtain ⟨vs, hl, hv⟩ := hr.get
  unfold loadVar
  rw [Sem.run_bind, isAgg_run hu, Result.andThen_ok, ← ha]
  cases hy : isAgg y with
  | true =>
    refine ⟨.agg vs.toArray, ?_, .agg hy hw hl⟩
    have hlen : vs.length = y.size := by rw [← hl.length, A.length_cells y hw]
    simp only [if_true, Sem.run_bind, sizeOf_run hi, Result.andThen_ok, ← hs, ← hlen, run_loadCells_imm hI (fun j v h => (hv j v h).1), Sem.run_pure]
  | false =>
    rw [cells_of_one hy] at hl
    obtain ⟨v, rfl, hR⟩ := hl.one_inv
    refine ⟨v, ?_, hR⟩
    have := hI _ _ _ (hv 0 v rfl).1
    simp only [Nat.add_zero] at this
    simp [this]

/-- A datum written over another one. -/
theorem storeVar_blk {t : Nat} {i : TypeInfo} (hi : P.info? t = some i) {b o : Nat} {vs : Array Value} {e : TypeId} {fz : Nat × Nat}
    (hb : w.heap[b]? = some (.cells vs e fz)) (hfz : Thawed fz vs.size) {y : A} {v : Value} (hR : R I ρ y v) (hsure : y.sureP) (hs : y.size = i.size) (ho : o + y.size ≤ vs.size) :
    (storeVar t ⟨b, o, none⟩ v).run P w = .ok () (setBlk w b (.cells (spliceL vs.toList o v.cells.toList).toArray e fz)) := by
  obtain ⟨hc, h1⟩ := hR.cells hsure
  have hlen := hc.length
  rw [A.length_cells y hR.wf] at hlen
  unfold storeVar
  simp only [Sem.run_bind, sizeOf_run hi, Result.andThen_ok]
  have : v.cells.size = i.size := by rw [← hs, hlen]; simp
  rw [if_neg (by simp [this])]
  exact run_storeCells hb (by rw [← hlen]; exact ho) hfz h1

theorem looks_one {id : Nat} {obs : List Obj} (h : looks r [id] = some obs) : ∃ ob, obs = [ob] ∧ look r id = some (some ob) := by
  unfold looks at h
  split at h
  · rename_i ob e
    simp only [looks, Option.some.injEq] at h
    exact ⟨ob, h.symm, e⟩
  · cases h
theorem looks_cons {id : Nat} {l : List Nat} {obs : List Obj} (h : looks r (id :: l) = some obs) : ∃ ob obs', obs = ob :: obs' ∧ look r id = some (some ob) ∧ looks r l = some obs' := by
  unfold looks at h
  split at h
  · rename_i ob e
    split at h
    · cases h
    · rename_i obs' e2
      simp only [Option.some.injEq] at h
      exact ⟨ob, obs', h.symm, e, e2⟩
  · cases h
theorem looks_append {l m : List Nat} : ∀ {obs : List Obj}, looks r (l ++ m) = some obs → ∃ o1 o2, obs = o1 ++ o2 ∧ looks r l = some o1 ∧ looks r m = some o2 := by
  induction l with
  | nil => intro obs h; exact ⟨[], obs, rfl, rfl, h⟩
  | cons x l ih =>
    intro obs h
    obtain ⟨ob, obs', rfl, h1, h2⟩ := looks_cons h
    obtain ⟨o1, o2, rfl, h3, h4⟩ := ih h2
    exact ⟨ob :: o1, o2, rfl, by simp [looks, h1, h3], h4⟩

/-- What an owned block holds, opened. -/
theorem RW.cells (h : RW Γ I ρ r us w) {id b N : Nat} {ob : Obj} (hl : look r id = some (some ob)) (hb : ρ id = some (.blk b N)) (hm : ∀ z ks g, ob ≠ .smap z ks g) (hm2 : ∀ ks xs, ob ≠ .pmap ks xs := by rintro ks xs ⟨⟩) :
    ∃ vs e fz, w.heap[b]? = some (.cells vs e fz) ∧ vs.size = N ∧ Thawed fz N ∧ HoldsC I ρ ob vs.toList ∧ ∀ v ∈ vs.toList, v.oneCell' = true := by
  obtain ⟨o, ho, hh⟩ := (h.lt_of_own hl hb).blk
  cases o with
  | cells vs e fz => exact ⟨vs, e, fz, ho, hh⟩
  | map es c =>
    obtain ⟨_, h2⟩ := hh
    cases ob with
    | smap z ks g => exact absurd rfl (hm z ks g)
    | pmap ks xs => exact absurd rfl (hm2 ks xs)
    | _ => exact h2.elim
  | _ => exact hh.elim

/-- What lies at an address in an owned block, read. -/
theorem loadO_ok {ob : Obj} {path : List Step} {m : Nat} {y : A} {c : List Prop} (h : loadO ob path m = some (y, c)) (hc : allP c) {vs : List Value} (hH : HoldsC I ρ ob vs) :
    y.wf ∧ y.size = m ∧ addr path + y.size ≤ vs.length ∧ RL I ρ y.cells ((vs.drop (addr path)).take y.size) := by
  cases ob with
  | var x =>
    simp only [loadO] at h
    cases e : Nat.beq (lastSz path x.size) m with
    | false => rw [e] at h; cases h
    | true =>
      rw [e] at h
      simp only [cond_true] at h
      have hm := Nat.eq_of_beq_eq_true e
      obtain ⟨k1, k2, k3, _, _, k5⟩ := getP_ok (I := I) (ρ := ρ) path x y c hH.1 h hc
      have hl := hH.2.length
      rw [A.length_cells x hH.1] at hl
      exact ⟨k1, by omega, by omega, k5 _ hH.2⟩
  | arr sz n g =>
    simp only [loadO] at h
    split at h
    · rename_i e sz' p
      cases e1 : Nat.beq sz sz' && Nat.beq (lastSz p sz) m with
      | false => rw [e1] at h; cases h
      | true =>
        rw [e1] at h
        simp only [cond_true] at h
        rw [Bool.and_eq_true] at e1
        have hsz := Nat.eq_of_beq_eq_true e1.1
        have hm := Nat.eq_of_beq_eq_true e1.2
        subst hsz
        cases e2 : getP p (g e) with
        | none => rw [e2] at h; cases h
        | some q =>
          obtain ⟨q, c'⟩ := q
          rw [e2] at h
          simp only [Option.some.injEq, Prod.mk.injEq] at h
          obtain ⟨rfl, rfl⟩ := h
          obtain ⟨hn, hwf, hr⟩ := hH
          obtain ⟨hi, hc'⟩ := hc
          obtain ⟨k1, k2, k3, _, _, k5⟩ := getP_ok (I := I) (ρ := nr) p (g e) q c' (hwf e hi).1 e2 hc'
          have hg := (hwf e hi).2.1
          have h1 : (e + 1) * sz ≤ n * sz := Nat.mul_le_mul_right _ hi
          rw [Nat.succ_mul] at h1
          have h2 := k5 _ (hr e hi)
          rw [List.drop_take, List.take_take, Nat.min_eq_left (by omega), List.drop_drop] at h2
          rw [hg] at k3
          refine ⟨k1, by omega, by simp only [addr]; omega, ?_⟩
          rw [addr]
          exact h2.mono (Imm.le.refl _) (Ren.le.nr _)
    · cases h
  | smap => cases h
  | pmap => cases h

include hT in
theorem load_ok {t : Nat} {vs : List A} {xs : List Value} {obs : List Obj} {out : Out} (hp : pLoad T t obs vs = some out) (h : RW Γ I ρ r us w) (hv : RL I ρ vs xs) (ho : looks r (idsOf vs) = some obs)
    (hc : allP out.c) : ∃ x, xs = [x] ∧ ∃ v, (Instr.loadAt t x).run P w = .ok v w ∧ Done Γ I ρ r us nm out (.ok (.value v) w) := by
  unfold pLoad at hp
  split at hp
  · rename_i x
    obtain ⟨v, rfl, hx⟩ := hv.one_inv
    refine ⟨v, rfl, ?_⟩
    split at hp
    · rename_i d sz _ _ _ hti
      obtain ⟨⟨u, hu, hd⟩, ⟨i, hi, his, _, _⟩, _, _⟩ := hT t _ hti
      simp only at hd his
      cases ek : knownD d with
      | false => rw [ek] at hp; cases hp
      | true =>
        rw [ek] at hp
        simp only [cond_true] at hp
        split at hp
        · rename_i y
          obtain ⟨b, o, rfl, hw, _, hra⟩ := hx.rop_inv
          simp only [Option.some.injEq] at hp
          subst hp
          obtain ⟨h1, h2, _⟩ := hc
          obtain ⟨v, hv, hR⟩ := loadVar_imm h.imm hu hi hw (h1.trans his.symm) (by rw [hd]; exact h2) hra
          exact ⟨v, by simpa [Instr.loadAt, Instr.sureAddr] using hv, .value h (hR.mono (Imm.le.refl _) (Ren.le.nr _))⟩
        · rename_i id path
          obtain ⟨b, N, rfl, hb⟩ := hx.ptr_inv
          split at hp
          · rename_i ob
            split at hp
            · rename_i y c hl
              simp only [Option.some.injEq] at hp
              subst hp
              obtain ⟨ob', hob, hlk⟩ := looks_one (show looks r [id] = _ by simpa [idsOf, idOf] using ho)
              cases hob
              obtain ⟨ha, hc'⟩ := hc
              obtain ⟨vs, e, fz, hh, hN, _, hH, _⟩ := h.cells hlk hb (by rintro z ks g rfl; simp [loadO] at hl) (by rintro ks xs rfl; simp [loadO] at hl)
              obtain ⟨k1, k2, k3, k4⟩ := loadO_ok hl hc' hH
              obtain ⟨v, hv, hR⟩ := loadVar_blk hu hi hh k1 (by omega) (by rw [hd]; exact ha) (by simpa using k3) k4
              exact ⟨v, by simpa [Instr.loadAt, Instr.sureAddr] using hv, .value h hR⟩
            · cases hp
          · cases hp
        · cases hp
    · cases hp
  · cases hp
end
end VX

/- VX 7: stores, new variables, composite literals. -/
namespace VX
open Go

theorem spliceL_get {vs us : List Value} {o : Nat} (h : o + us.length ≤ vs.length) (j : Nat) : (spliceL vs o us)[j]? = if j < o then vs[j]? else if j < o + us.length then us[j - o]? else vs[j]? := by
  unfold spliceL
  rw [List.getElem?_append, List.getElem?_append]
  simp only [List.length_append, List.length_take, Nat.min_eq_left (show o ≤ vs.length by omega)]
  by_cases h1 : j < o
  · rw [if_pos (by omega), if_pos h1, if_pos h1, List.getElem?_take_of_lt h1]
  · rw [if_neg h1]
    by_cases h2 : j < o + us.length
    · rw [if_pos h2, if_neg h1, if_pos h2]
    · rw [if_neg h2, if_neg h2, List.getElem?_drop, show o + us.length + (j - (o + us.length)) = j by omega]
      simp
theorem slice_get (vs : List Value) (k m j : Nat) : ((vs.drop k).take m)[j]? = if j < m then vs[k + j]? else none := by
  by_cases h : j < m
  · rw [if_pos h, List.getElem?_take_of_lt h, List.getElem?_drop]
  · rw [if_neg h, List.getElem?_take_eq_none (by omega)]
theorem spliceL_in {vs us : List Value} {o k m : Nat} (h1 : k ≤ o) (h2 : o + us.length ≤ k + m) (h3 : k + m ≤ vs.length) :
    ((spliceL vs o us).drop k).take m = spliceL ((vs.drop k).take m) (o - k) us := by
  apply List.ext_getElem?
  intro j
  rw [slice_get, spliceL_get (by omega), spliceL_get (by simp; omega), slice_get]
  by_cases hj : j < m
  · simp only [if_pos hj]
    by_cases c1 : j < o - k
    · rw [if_pos c1, if_pos (by omega)]
    · rw [if_neg c1, if_neg (by omega)]
      by_cases c2 : j < o - k + us.length
      · rw [if_pos c2, if_pos (by omega)]; congr 1; omega
      · rw [if_neg c2, if_neg (by omega)]
  · simp only [if_neg hj]
    rw [if_neg (by omega), if_neg (by omega)]
theorem spliceL_out {vs us : List Value} {o k m : Nat} (h1 : k + m ≤ o ∨ o + us.length ≤ k) (h2 : o + us.length ≤ vs.length) : ((spliceL vs o us).drop k).take m = (vs.drop k).take m := by
  apply List.ext_getElem?
  intro j
  rw [slice_get, slice_get, spliceL_get h2]
  by_cases hj : j < m
  · simp only [if_pos hj]
    rcases h1 with h1 | h1
    · rw [if_pos (by omega)]
    · rw [if_neg (by omega), if_neg (by omega)]
  · simp only [if_neg hj]
theorem mem_spliceL {vs us : List Value} {o : Nat} {v : Value} (h : v ∈ spliceL vs o us) : v ∈ vs ∨ v ∈ us := by
  unfold spliceL at h
  rw [List.mem_append, List.mem_append] at h
  rcases h with (h | h) | h
  · exact .inl (List.mem_of_mem_take h)
  · exact .inr h
  · exact .inl (List.mem_of_mem_drop h)

/-- Two elements of an array don't overlap. -/
theorem apart_mul {i e sz : Nat} (h : i ≠ e) : i * sz + sz ≤ e * sz ∨ e * sz + sz ≤ i * sz := by
  rcases Nat.lt_or_gt_of_ne h with h | h
  · exact .inl (by have := Nat.mul_le_mul_right sz h; rwa [Nat.succ_mul] at this)
  · exact .inr (by have := Nat.mul_le_mul_right sz h; rwa [Nat.succ_mul] at this)

section
variable {P : Program} {T : Tab} (hT : TabOK P T.l)
variable {Γ : Ctx} {I : Imm} {ρ : Ren} {r : List (Nat × Option Obj)} {us : List Nat} {w : World} {nm : Nat}

theorem setF_at (g : Nat → A) (i : Nat) (x : A) (j : Nat) : setF g i x j = if j = i then x else g j := by
  unfold setF
  by_cases h : j = i
  · subst h; simp
  · rw [nbeq_ne h]; simp [h]

theorem storeO_ok {ob ob' : Obj} {path : List Step} {m : Nat} {y : A} {c : List Prop} (h : storeO ob path m y = some (ob', c)) (hc : allP c) {vs ys : List Value} (hH : HoldsC I ρ ob vs)
    (hy : y.wf) (hR : RL I ρ y.cells ys) (hRp : y.pureP → RL I nr y.cells ys) :
    y.size = m ∧ y.sureP ∧ addr path + y.size ≤ vs.length ∧ HoldsC I ρ ob' (spliceL vs (addr path) ys) := by
  have hyl := hR.length
  rw [A.length_cells y hy] at hyl
  cases ob with
  | var x =>
    simp only [storeO] at h
    cases e : Nat.beq (lastSz path x.size) m with
    | false => rw [e] at h; cases h
    | true =>
      rw [e] at h
      simp only [cond_true] at h
      have hm := Nat.eq_of_beq_eq_true e
      cases e2 : getP path x with
      | none => rw [e2] at h; cases h
      | some q =>
        obtain ⟨q, c'⟩ := q
        rw [e2] at h
        simp only [Option.some.injEq, Prod.mk.injEq] at h
        obtain ⟨rfl, rfl⟩ := h
        obtain ⟨hs, hsp, hc'⟩ := hc
        obtain ⟨k1, k2, k3, _, _, k5⟩ := getP_ok (I := I) (ρ := ρ) path x q c' hH.1 e2 hc'
        have hsure : y.sureP := by
          cases hx : hasIdx path with
          | true => rw [hx] at hsp; exact pure_sure y hsp
          | false => rw [hx] at hsp; exact hsp
        obtain ⟨s1, s2, _, s4⟩ := setP_ok (I := I) (ρ := ρ) path x y q c' hH.1 e2 hc' hy (by omega) (fun hx => by rw [hx] at hsp; exact hsp)
        have hl := hH.2.length
        rw [A.length_cells x hH.1] at hl
        exact ⟨hs, hsure, by omega, s1, s4 _ _ hH.2 hR⟩
  | arr sz n g =>
    simp only [storeO] at h
    split at h
    · rename_i e sz' p
      cases e1 : Nat.beq sz sz' && Nat.beq (lastSz p sz) m with
      | false => rw [e1] at h; cases h
      | true =>
        rw [e1] at h
        simp only [cond_true] at h
        rw [Bool.and_eq_true] at e1
        have hsz := Nat.eq_of_beq_eq_true e1.1
        have hm := Nat.eq_of_beq_eq_true e1.2
        subst hsz
        cases e2 : getP p (g e) with
        | none => rw [e2] at h; cases h
        | some q =>
          obtain ⟨q, c'⟩ := q
          rw [e2] at h
          simp only [Option.some.injEq, Prod.mk.injEq] at h
          obtain ⟨rfl, rfl⟩ := h
          obtain ⟨hn, hwf, hr⟩ := hH
          obtain ⟨hs, hpy, hi, hc'⟩ := hc
          obtain ⟨k1, k2, k3, _, _, k5⟩ := getP_ok (I := I) (ρ := nr) p (g e) q c' (hwf e hi).1 e2 hc'
          have hg := (hwf e hi).2.1
          rw [hg] at k3
          obtain ⟨s1, s2, s3, s4⟩ := setP_ok (I := I) (ρ := nr) p (g e) y q c' (hwf e hi).1 e2 hc' hy (by omega) (fun _ => hpy)
          have h1 : (e + 1) * sz ≤ n * sz := Nat.mul_le_mul_right _ hi
          rw [Nat.succ_mul] at h1
          have hfit : addr (.idx e sz :: p) + y.size ≤ vs.length := by simp only [addr]; omega
          refine ⟨hs, pure_sure y hpy, hfit, ?_, fun i hi' => ?_, fun i hi' => ?_⟩
          · rw [spliceL_length (by rw [← hyl]; exact hfit)]; exact hn
          · rw [setF_at]
            by_cases hie : i = e
            · rw [if_pos hie]; exact ⟨s1, by rw [s2]; exact hg, s3 (hwf e hi).2.2 hpy⟩
            · rw [if_neg hie]; exact hwf i hi'
          · rw [setF_at]
            by_cases hie : i = e
            · subst hie
              rw [if_pos rfl, spliceL_in (by simp only [addr]; omega) (by simp only [addr]; omega) (by omega)]
              simp only [addr, Nat.add_sub_cancel_left]
              exact s4 _ _ (hr i hi') (hRp hpy)
            · rw [if_neg hie, spliceL_out ?_ (by rw [← hyl]; exact hfit)]
              · exact hr i hi'
              · simp only [addr]
                rcases apart_mul (sz := sz) hie with h' | h'
                · exact .inl (by omega)
                · exact .inr (by omega)
    · cases h
  | smap => cases h
  | pmap => cases h

theorem purePL_mem : ∀ {l : List A}, A.purePL l → ∀ d ∈ l, d.pureP
  | x :: xs, h, d, hd => by
    rcases List.mem_cons.1 hd with rfl | hd
    · exact h.1
    · exact purePL_mem h.2 d hd
mutual
theorem cells_pureP : ∀ {x : A}, x.wf → x.pureP → ∀ d ∈ x.cells, d.pureP
  | .vec sz n g, h, hp, c, hc => by
    simp only [A.cells, List.mem_flatMap, List.mem_range] at hc
    obtain ⟨i, hi, hc⟩ := hc
    exact cells_pureP (h i hi).1 (h i hi).2.2 c hc
  | .agg ps, h, hp, c, hc => cells_purePL h hp c hc
  | .int .., _, hp, c, hc | .bool _, _, hp, c, hc | .str _, _, hp, c, hc | .ro .., _, hp, c, hc | .rol .., _, hp, c, hc | .own .., _, hp, c, hc | .owl .., _, hp, c, hc | .owk .., _, hp, c, hc | .ptr .., _, hp, c, hc
  | .vsl .., _, hp, c, hc | .rop _, _, hp, c, hc | .nils, _, hp, c, hc | .nilp, _, hp, c, hc | .nilm, _, hp, c, hc | .nilf, _, hp, c, hc | .nili, _, hp, c, hc | .map _, _, hp, c, hc | .func .., _, hp, c, hc
  | .iface .., _, hp, c, hc | .tup _, _, hp, c, hc | .any, _, hp, c, hc => by
    simp only [A.cells, List.mem_singleton] at hc
    subst hc
    exact hp
theorem cells_purePL : ∀ {l : List A}, A.wfL l → A.purePL l → ∀ d ∈ A.cellsL l, d.pureP
  | [], _, _, c, hc => by simp [A.cellsL] at hc
  | x :: xs, h, hp, c, hc => by
    rw [A.cellsL, List.mem_append] at hc
    rcases hc with hc | hc
    · exact cells_pureP h.1 hp.1 c hc
    · exact cells_purePL h.2 hp.2 c hc
end

mutual
/-- What names nothing means the same whatever the names mean. -/
theorem R.pure {I : Imm} {ρ ρ' : Ren} : ∀ {x : A} {v : Value}, R I ρ x v → x.pureP → R I ρ' x v
  | _, _, .int, _ => .int
  | _, _, .bool, _ => .bool
  | _, _, .str, _ => .str
  | x, _, .agg (x := _) a b c, hp => .agg a b (RL.pure c (fun d hd => cells_pureP b hp d hd))
  | _, _, .ro a b c, _ => .ro a b c
  | _, _, .ro0, _ => .ro0
  | _, _, .rol b c, _ => .rol b c
  | _, _, .rol0, _ => .rol0
  | _, _, .own .., hp => hp.elim
  | _, _, .own0, hp => hp.elim
  | _, _, .owl .., hp => hp.elim
  | _, _, .owl0, hp => hp.elim
  | _, _, .owk .., hp => hp.elim
  | _, _, .owk0, hp => hp.elim
  | _, _, .vsl .., hp => hp.elim
  | _, _, .vsl0, hp => hp.elim
  | _, _, .ptr _, hp => hp.elim
  | _, _, .rop a a' b, _ => .rop a a' b
  | _, _, .nils, _ => .nils
  | _, _, .nilp, _ => .nilp
  | _, _, .nilm, _ => .nilm
  | _, _, .nilf, _ => .nilf
  | _, _, .nili, _ => .nili
  | _, _, .map _, hp => hp.elim
  | _, _, .func a b, hp => .func (RL.pure a (fun d hd => purePL_mem hp.1 d hd)) (RL.pure b (fun d hd => purePL_mem hp.2 d hd))
  | _, _, .iface a, hp => .iface (R.pure a hp)
  | _, _, .tup _, hp => hp.elim
  | _, _, .any, hp => hp.elim
theorem RL.pure {I : Imm} {ρ ρ' : Ren} : ∀ {x : List A} {v : List Value}, RL I ρ x v → (∀ d ∈ x, d.pureP) → RL I ρ' x v
  | _, _, .nil, _ => .nil
  | _, _, .cons a b, hp => .cons (R.pure a (hp _ List.mem_cons_self)) (RL.pure b (fun d hd => hp d (List.mem_cons_of_mem _ hd)))
end

include hT in
theorem store_ok {t : Nat} {vs : List A} {xs : List Value} {obs : List Obj} {out : Out} (hp : pStore T t obs vs = some out) (h : RW Γ I ρ r us w) (hv : RL I ρ vs xs) (ho : looks r (idsOf vs) = some obs)
    (hc : allP out.c) : ∃ x y, xs = [x, y] ∧ ∃ w', (Instr.storeAt t x y).run P w = .ok () w' ∧ Done Γ I ρ r us nm out (.ok .skip w') := by
  unfold pStore at hp
  split at hp
  · rename_i id path y
    obtain ⟨v, u, rfl, hx, hy⟩ := hv.two_inv
    obtain ⟨b, N, rfl, hb⟩ := hx.ptr_inv
    refine ⟨_, u, rfl, ?_⟩
    split at hp
    · rename_i ob obs'
      split at hp
      · rename_i d sz _ _ _ hti
        obtain ⟨_, ⟨i, hi, his, _, _⟩, _, _⟩ := hT t _ hti
        simp only at his
        split at hp
        · rename_i ob' c hl
          simp only [Option.some.injEq] at hp
          subst hp
          obtain ⟨ob1, obs1, e, hlk, _⟩ := looks_cons (show looks r (id :: idsOf [y]) = _ by simpa [idsOf, idOf] using ho)
          cases e
          obtain ⟨vs, e, fz, hh, hN, hfz, hH, h1⟩ := h.cells hlk hb (by rintro z ks g rfl; simp [storeO] at hl) (by rintro ks xs rfl; simp [storeO] at hl)
          have hsure : y.sureP := by
            cases ob with
            | var x =>
              simp only [storeO] at hl
              cases e1 : Nat.beq (lastSz path x.size) sz with
              | false => rw [e1] at hl; cases hl
              | true =>
                rw [e1] at hl
                simp only [cond_true] at hl
                split at hl
                · simp only [Option.some.injEq, Prod.mk.injEq] at hl
                  obtain ⟨_, rfl⟩ := hl
                  have := hc.2.1
                  cases hx : hasIdx path with
                  | true => rw [hx] at this; exact pure_sure y this
                  | false => rw [hx] at this; exact this
                · cases hl
            | arr sz1 n g =>
              simp only [storeO] at hl
              split at hl
              · rename_i e sz' p
                cases e1 : Nat.beq sz1 sz' && Nat.beq (lastSz p sz1) sz with
                | false => rw [e1] at hl; cases hl
                | true =>
                  rw [e1] at hl
                  simp only [cond_true] at hl
                  split at hl
                  · simp only [Option.some.injEq, Prod.mk.injEq] at hl
                    obtain ⟨_, rfl⟩ := hl
                    exact pure_sure y hc.2.1
                  · cases hl
              · cases hl
            | smap => cases hl
            | pmap => cases hl
          obtain ⟨hcy, hoy⟩ := hy.cells hsure
          obtain ⟨k1, _, k3, k4⟩ := storeO_ok hl hc hH hy.wf hcy (fun hp => RL.pure hcy (cells_pureP hy.wf hp))
          have hst := storeVar_blk (P := P) (t := t) hi hh (hN ▸ hfz) hy hsure (by omega) (by simpa using k3)
          refine ⟨_, by simpa [Instr.storeAt, Instr.sureAddr] using hst, .skip, undef, _, ρ, rfl, rfl, Ren.le.refl _, ?_, .any⟩
          refine h.put hlk hb ⟨?_, hfz, by simpa using k4, fun v hv => ?_⟩
          · have := hcy.length
            rw [A.length_cells y hy.wf] at this
            rw [List.size_toArray, spliceL_length (by rw [← this]; simpa using k3)]
            simpa using hN
          · rcases mem_spliceL (by simpa using hv) with hv | hv
            · exact h1 v hv
            · exact hoy v hv
        · cases hp
      · cases hp
    · cases hp
  · cases hp

theorem newVar_run {t : Nat} {v : Value} : (newVar t v).run P w = .ok ⟨w.heap.size, 0, none⟩ (w.alloc (.cells v.cells t)) := by
  unfold newVar newRow
  simp

theorem Thawed.none (N : Nat) : Thawed (0, 0) N := ⟨Nat.le_refl _, fun o _ => by simp⟩

/-- A new variable. -/
theorem Done.var {x : A} {v : Value} {t : Nat} {c : List Prop} (h : RW Γ I ρ r us w) (hnm : usedN us nm = false) (hR : R I ρ x v) (hs : x.sureP) :
    Done Γ I ρ r us nm ⟨c, .ptr nm [], [(nm, some (.var x))], true⟩ (.ok (.value (.pointer (some ⟨w.heap.size, 0, none⟩))) (w.alloc (.cells v.cells t))) := by
  obtain ⟨hc, h1⟩ := hR.cells hs
  have hp : R I (ρ.set nm (.blk w.heap.size v.cells.size)) (.ptr nm []) (.pointer (some ⟨w.heap.size, 0, none⟩)) := R.ptr (path := []) (b := w.heap.size) (N := v.cells.size) (by simp [Ren.set])
  exact ⟨_, _, _, ρ.set nm (.blk w.heap.size v.cells.size), rfl, rfl, Ren.le_set (h.names nm hnm), h.alloc hnm (ob := .var x) ⟨rfl, Thawed.none _, ⟨hR.wf, hc⟩, h1⟩, hp⟩

include hT in
theorem alloc_ok {t : Nat} {out : Out} (hp : pAlloc T t nm = some out) (h : RW Γ I ρ r us w) (hnm : usedN us nm = false) (hc : allP out.c) :
    ∃ v w', (Instr.alloc t true (.tuple #[])).run P w = .ok v w' ∧ Done Γ I ρ r us nm out (.ok (.value v) w') := by
  unfold pAlloc at hp
  split at hp
  · rename_i d sz bt z q hti
    simp only [Option.some.injEq] at hp
    subst hp
    obtain ⟨_, ⟨i, hi, _, _, hz⟩, _, _⟩ := hT t _ hti
    obtain ⟨zv, hzv, hzR, _, _⟩ := hz hc.1
    refine ⟨_, _, ?_, Done.var (t := t) h hnm (hzR I ρ) hc.1⟩
    simp [Instr.alloc, zeroValue_run hi hzv, newVar_run]
  · cases hp

theorem box_ok {t : Nat} {vs : List A} {xs : List Value} {out : Out} (hp : pBox T t nm vs = some out) (h : RW Γ I ρ r us w) (hv : RL I ρ vs xs) (hnm : usedN us nm = false) (hc : allP out.c) :
    ∃ x, xs = [x] ∧ ∃ v w', (Instr.box t x).run P w = .ok v w' ∧ Done Γ I ρ r us nm out (.ok (.value v) w') := by
  unfold pBox at hp
  split at hp
  · rename_i x
    obtain ⟨v, rfl, hx⟩ := hv.one_inv
    split at hp
    · simp only [Option.some.injEq] at hp
      subst hp
      refine ⟨v, rfl, _, _, ?_, Done.var (t := t) h hnm hx hc.2.1⟩
      simp [Instr.box, newVar_run]
    · cases hp
  · cases hp
end
end VX

/- VX 8: arithmetic, comparisons, strings, fields, indexes, bounds. -/
namespace VX
open Go

theorem kIdx_inj {k k' : IntKind} (h : kIdx k = kIdx k') : k = k' := by
  cases k <;> cases k' <;> first | rfl | (simp [kIdx] at h)

theorem beq_dec {α : Type} [BEq α] [LawfulBEq α] [DecidableEq α] (a b : α) : (a == b) = decide (a = b) := by
  by_cases h : a = b <;> simp [h]

theorem wrap_inr {k : IntKind} {n : Int} (h : inr k n) : k.wrap n = n := by
  unfold inr IntKind.min IntKind.max at h
  unfold IntKind.wrap
  cases k <;> simp [IntKind.signed, IntKind.bits] at h ⊢ <;> omega

section
variable {P : Program} {T : Tab} (hT : TabOK P T.l)
variable {Γ : Ctx} {I : Imm} {ρ : Ren} {r : List (Nat × Option Obj)} {us : List Nat} {w : World} {nm : Nat}

/-- A value of a plain run. -/
theorem val_done {v : A} {u : Value} {out : Out} (h : RW Γ I ρ r us w) (hp : val v = some out) (hu : R I ρ v u) : Done Γ I ρ r us nm out (.ok (.value u) w) := by
  rw [val_inv hp]
  exact .value h hu

theorem arith_ok {k : IntKind} {n : Int} {out : Out} (hp : arith T k n = some out) (hc : allP out.c) (h : RW Γ I ρ r us w) : Done Γ I ρ r us nm out (.ok (.value (.int k (k.wrap n))) w) := by
  unfold arith at hp
  split at hp
  · simp only [Option.some.injEq] at hp
    subst hp
    rw [wrap_inr hc.1]
    exact .value h .int
  · exact val_done h hp .int

theorem wrap_div {k : IntKind} {a b : Int} (h : inr k a) (h0 : 0 ≤ a) (hb : 0 < b) : k.wrap (a.tdiv b) = a / b := by
  rw [Int.tdiv_eq_ediv_of_nonneg h0]
  refine wrap_inr ?_
  have h1 : 0 ≤ a / b := Int.ediv_nonneg h0 (Int.le_of_lt hb)
  have h2 : a / b ≤ a := Int.ediv_le_self _ h0
  have h3 : k.min ≤ 0 := by cases k <;> simp [IntKind.min, IntKind.signed, IntKind.bits]
  exact ⟨by omega, by have := h.2; omega⟩

theorem binInt_ok {op : BinOp} {k : IntKind} {a b : Int} {out : Out} {t : Nat} (hs : op ≠ .shl ∧ op ≠ .shr) (hp : binInt T op k a b = some out) (hc : allP out.c) (h : RW Γ I ρ r us w) :
    ∃ v, (Go.binOp op t (.int k a) (.int k b)).run P w = .ok v w ∧ Done Γ I ρ r us nm out (.ok (.value v) w) := by
  cases op <;> simp only [binInt] at hp
  case add => exact ⟨_, by simp [Go.binOp, Op.intArith], arith_ok hp hc h⟩
  case sub => exact ⟨_, by simp [Go.binOp, Op.intArith], arith_ok hp hc h⟩
  case mul => exact ⟨_, by simp [Go.binOp, Op.intArith], arith_ok hp hc h⟩
  case quo =>
    split at hp
    · simp only [Option.some.injEq] at hp
      subst hp
      obtain ⟨h1, h2, h3, _⟩ := hc
      refine ⟨.int k (a / b), ?_, .value h .int⟩
      have hb : b ≠ 0 := by omega
      simp only [Go.binOp, ne_eq, not_true_eq_false, if_false, Op.intDiv, hb, Sem.run_pure, wrap_div h3 h1 h2]
    · simp only [Option.some.injEq] at hp
      subst hp
      refine ⟨.int k (k.wrap (a.tdiv b)), ?_, .value h .int⟩
      simp only [Go.binOp, ne_eq, not_true_eq_false, if_false, Op.intDiv, hc.1, Sem.run_pure]
  case rem =>
    split at hp
    · simp only [Option.some.injEq] at hp
      subst hp
      obtain ⟨h1, h2, _⟩ := hc
      refine ⟨.int k (a % b), ?_, .value h .int⟩
      have hb : b ≠ 0 := by omega
      simp only [Go.binOp, ne_eq, not_true_eq_false, if_false, Op.intDiv, hb, Sem.run_pure, Int.tmod_eq_emod_of_nonneg h1]
    · simp only [Option.some.injEq] at hp
      subst hp
      refine ⟨.int k (a.tmod b), ?_, .value h .int⟩
      simp only [Go.binOp, ne_eq, not_true_eq_false, if_false, Op.intDiv, hc.1, Sem.run_pure]
  case and => exact ⟨.int k (bitsI .and k a b), by simp only [Go.binOp, ne_eq, not_true_eq_false, if_false, Op.intBits, Sem.run_pure]; rfl, val_done h hp .int⟩
  case or => exact ⟨.int k (bitsI .or k a b), by simp only [Go.binOp, ne_eq, not_true_eq_false, if_false, Op.intBits, Sem.run_pure]; rfl, val_done h hp .int⟩
  case xor => exact ⟨.int k (bitsI .xor k a b), by simp only [Go.binOp, ne_eq, not_true_eq_false, if_false, Op.intBits, Sem.run_pure]; rfl, val_done h hp .int⟩
  case andNot => exact ⟨.int k (bitsI .andNot k a b), by simp only [Go.binOp, ne_eq, not_true_eq_false, if_false, Op.intBits, Sem.run_pure]; rfl, val_done h hp .int⟩
  case shl => exact absurd rfl hs.1
  case shr => exact absurd rfl hs.2
  case eql => exact ⟨.bool (decide (a = b)), by simp only [Go.binOp, ne_eq, not_true_eq_false, if_false, Op.intCmp, Sem.run_pure, beq_dec], val_done h hp .bool⟩
  case neq => exact ⟨.bool (!decide (a = b)), by simp only [Go.binOp, ne_eq, not_true_eq_false, if_false, Op.intCmp, Sem.run_pure, bne, beq_dec], val_done h hp .bool⟩
  case lss => exact ⟨_, by simp [Go.binOp, Op.intCmp], val_done h hp .bool⟩
  case leq => exact ⟨_, by simp [Go.binOp, Op.intCmp], val_done h hp .bool⟩
  case gtr => exact ⟨_, by simp [Go.binOp, Op.intCmp], val_done h hp .bool⟩
  case geq => exact ⟨_, by simp [Go.binOp, Op.intCmp], val_done h hp .bool⟩

theorem binStr_ok {op : BinOp} {a b : List UInt8} {out : Out} {t : Nat} (hp : binStr op a b = some out) (hc : allP out.c) (h : RW Γ I ρ r us w) :
    ∃ v, (Go.binOp op t (.string ⟨a.toArray⟩) (.string ⟨b.toArray⟩)).run P w = .ok v w ∧ Done Γ I ρ r us nm out (.ok (.value v) w) := by
  have hs : ∀ l : List UInt8, (ByteArray.mk l.toArray).size = l.length := fun l => by simp [ByteArray.size]
  cases op <;> simp only [binStr] at hp <;> (try (cases hp; done))
  case add =>
    simp only [Option.some.injEq] at hp
    subst hp
    refine ⟨.string ⟨(a ++ b).toArray⟩, ?_, .value h .str⟩
    have h1 := hc.1
    have : ¬ (((a.length + b.length : Nat) : Int) > IntKind.i64.max) := by
      have : IntKind.i64.max = 9223372036854775807 := by decide
      omega
    simp only [Go.binOp, Op.stringOp, hs, this, if_false, Sem.run_pure]
    congr 2
  case eql => exact ⟨.bool (decide (a = b)), by simp only [Go.binOp, Op.stringOp, Sem.run_pure, ByteArray.toList_mk, beq_dec, strLt], val_done h hp .bool⟩
  case neq => exact ⟨.bool (!decide (a = b)), by simp only [Go.binOp, Op.stringOp, Sem.run_pure, ByteArray.toList_mk, beq_dec, strLt], val_done h hp .bool⟩
  case lss => exact ⟨.bool (strLt a b), by simp only [Go.binOp, Op.stringOp, Sem.run_pure, ByteArray.toList_mk, beq_dec, strLt], val_done h hp .bool⟩
  case leq => exact ⟨.bool (strLt a b || decide (a = b)), by simp only [Go.binOp, Op.stringOp, Sem.run_pure, ByteArray.toList_mk, beq_dec, strLt], val_done h hp .bool⟩
  case gtr => exact ⟨.bool (!(strLt a b || decide (a = b))), by simp only [Go.binOp, Op.stringOp, Sem.run_pure, ByteArray.toList_mk, beq_dec, strLt], val_done h hp .bool⟩
  case geq => exact ⟨.bool (!strLt a b), by simp only [Go.binOp, Op.stringOp, Sem.run_pure, ByteArray.toList_mk, beq_dec, strLt], val_done h hp .bool⟩

/-- Results of comparisons of what is no aggregate. -/
theorem eqlNil_ok {op : BinOp} {b : Bool} {out : Out} (hp : eqlNil op b = some out) (h : RW Γ I ρ r us w) :
    (op = .eql ∧ Done Γ I ρ r us nm out (.ok (.value (.bool b)) w)) ∨ (op = .neq ∧ Done Γ I ρ r us nm out (.ok (.value (.bool !b)) w)) := by
  cases op <;> simp only [eqlNil] at hp <;> (try (cases hp; done))
  · exact .inl ⟨rfl, val_done h hp .bool⟩
  · exact .inr ⟨rfl, val_done h hp .bool⟩
end
end VX

/- VX 9: the other operations that make nothing. -/
namespace VX
open Go

theorem shiftF_at (o : Nat) (g : Nat → A) (i : Nat) : shiftF o g i = g (o + i) := by
  cases o with
  | zero => simp [shiftF]
  | succ o => rfl
theorem addI_eq (o : Nat) (i : Int) : addI o i = o + i.toNat := by
  cases o with
  | zero => simp [addI]
  | succ o => rfl
theorem catF_at (n : Nat) (g h : Nat → A) (i : Nat) : catF n g h i = if i < n then g i else h (i - n) := by
  cases n with
  | zero => simp [catF]
  | succ n =>
    unfold catF
    by_cases hi : i < n + 1
    · have : Nat.blt i (n + 1) = true := by simpa [Nat.blt_eq] using hi
      simp [this, hi]
    · have : Nat.blt i (n + 1) = false := by
        cases e : Nat.blt i (n + 1) with
        | false => rfl
        | true => exact absurd (by simpa [Nat.blt_eq] using e) hi
      simp [this, hi]

theorem addr_append (p q : List Step) : addr (p ++ q) = addr p + addr q := by
  induction p with
  | nil => simp [addr]
  | cons s p ih => cases s <;> simp [addr, ih] <;> omega

theorem add_none (b o n : Nat) : (⟨b, o, none⟩ : Addr).add n = ⟨b, o + n, none⟩ := by
  unfold Addr.add; split <;> simp_all

theorem RA.split {I : Imm} {ρ : Ren} : ∀ {xs ys : List A} {b o : Nat}, RA I ρ (xs ++ ys) b o → RA I ρ xs b o ∧ RA I ρ ys b (o + xs.length)
  | [], _, _, _, h => ⟨.nil, by simpa using h⟩
  | x :: xs, ys, b, o, .cons h1 h2 h3 h4 => by
    obtain ⟨k1, k2⟩ := RA.split h4
    exact ⟨.cons h1 h2 h3 k1, by rw [List.length_cons, show o + (xs.length + 1) = o + 1 + xs.length by omega]; exact k2⟩
theorem RA.append {I : Imm} {ρ : Ren} : ∀ {xs ys : List A} {b o : Nat}, RA I ρ xs b o → RA I ρ ys b (o + xs.length) → RA I ρ (xs ++ ys) b o
  | [], _, _, _, _, h => by simpa using h
  | x :: xs, ys, b, o, .cons h1 h2 h3 h4, h => .cons h1 h2 h3 (RA.append h4 (by rwa [List.length_cons, show o + (xs.length + 1) = o + 1 + xs.length by omega] at h))

section
variable {P : Program} {T : Tab} (hT : TabOK P T.l)
variable {Γ : Ctx} {I : Imm} {ρ : Ren} {r : List (Nat × Option Obj)} {us : List Nat} {w : World} {nm : Nat}

theorem nilCheck_ok {vs : List A} {xs : List Value} {out : Out} (hp : pNilCheck vs = some out) (h : RW Γ I ρ r us w) (hv : RL I ρ vs xs) :
    ∃ a, xs = [.pointer (some a)] ∧ Done Γ I ρ r us nm out (.ok (.value (.pointer (some a))) w) := by
  unfold pNilCheck at hp
  split at hp
  · obtain ⟨v, rfl, hx⟩ := hv.one_inv
    split at hp
    · obtain ⟨b, N, rfl, hb⟩ := hx.ptr_inv
      exact ⟨_, rfl, val_done h hp hx⟩
    · obtain ⟨b, o, rfl, _, _, _⟩ := hx.rop_inv
      exact ⟨_, rfl, val_done h hp hx⟩
    · cases hp
  · cases hp

theorem unOp_ok {op : UnOp} {vs : List A} {xs : List Value} {out : Out} (hp : pUnOp T op vs = some out) (h : RW Γ I ρ r us w) (hv : RL I ρ vs xs) (hc : allP out.c) :
    ∃ x, xs = [x] ∧ ∃ v, (Op.unary op x).run P w = .ok v w ∧ Done Γ I ρ r us nm out (.ok (.value v) w) := by
  unfold pUnOp at hp
  split at hp
  · obtain ⟨v, rfl, hx⟩ := hv.one_inv
    cases hx.int_inv
    refine ⟨_, rfl, ?_⟩
    cases op <;> simp only at hp <;> (try (cases hp; done))
    · exact ⟨_, by simp only [Op.unary, Op.intArith, Sem.run_pure], arith_ok hp hc h⟩
    · rename_i k n
      refine ⟨.int k (bitsI .xor k (if k.signed then -1 else k.max) n), ?_, val_done h hp .int⟩
      simp only [Op.unary, Op.intBits, Sem.run_pure]
      rfl
  · obtain ⟨v, rfl, hx⟩ := hv.one_inv
    cases hx.bool_inv
    refine ⟨_, rfl, ?_⟩
    cases op <;> simp only at hp <;> (try (cases hp; done))
    exact ⟨_, by simp [Op.unary], val_done h hp .bool⟩
  · cases hp

include hT in
theorem makeInterface_ok {t : Nat} {vs : List A} {xs : List Value} {out : Out} (hp : pMakeInterface T t vs = some out) (h : RW Γ I ρ r us w) (hv : RL I ρ vs xs) :
    ∃ x, xs = [x] ∧ ∃ v, (Instr.makeInterface t x).run P w = .ok v w ∧ Done Γ I ρ r us nm out (.ok (.value v) w) := by
  unfold pMakeInterface at hp
  split at hp
  · obtain ⟨v, rfl, hx⟩ := hv.one_inv
    refine ⟨v, rfl, .iface t v, ?_, ?_⟩
    · cases hd : T.d t with
      | iface => rw [hd] at hp; cases hp
      | other => rw [hd] at hp; cases hp
      | _ =>
        obtain ⟨u, hu, hd'⟩ := Tab.under hT hd (by simp)
        unfold Instr.makeInterface
        simp only [Sem.run_bind, underlying, run_program, Result.andThen_ok, hu, Sem.run_pure]
        cases u <;> first | (simp [tdOf] at hd'; done) | rfl
    · split at hp
      · cases hp
      · cases hp
      · exact val_done h hp (.iface hx)
  · cases hp

theorem extract_ok {i : Nat} {vs : List A} {xs : List Value} {out : Out} (hp : pExtract i vs = some out) (h : RW Γ I ρ r us w) (hv : RL I ρ vs xs) :
    ∃ x, xs = [x] ∧ ∃ v, (Instr.extract x i).run P w = .ok v w ∧ Done Γ I ρ r us nm out (.ok (.value v) w) := by
  unfold pExtract at hp
  split at hp
  · rename_i l
    obtain ⟨v, rfl, hx⟩ := hv.one_inv
    obtain ⟨ys, rfl, hl⟩ := hx.tup_inv
    refine ⟨_, rfl, ?_⟩
    split at hp
    · rename_i y hy
      rw [nth_getElem?] at hy
      obtain ⟨v, hv', hR⟩ := hl.get hy
      exact ⟨v, by simp [Instr.extract, hv'], val_done h hp hR⟩
    · cases hp
  · cases hp

include hT in
theorem typeAssert_ok {t xt : Nat} {ok : Bool} {vs : List A} {xs : List Value} {out : Out} (hp : pTypeAssert T t ok vs = some out) (h : RW Γ I ρ r us w) (hv : RL I ρ vs xs) :
    ∃ x, xs = [x] ∧ ∃ v, (Instr.typeAssert x xt t ok).run P w = .ok v w ∧ Done Γ I ρ r us nm out (.ok (.value v) w) := by
  unfold pTypeAssert at hp
  split at hp
  · rename_i t' x
    obtain ⟨v, rfl, hx⟩ := hv.one_inv
    obtain ⟨u, rfl, hu⟩ := hx.iface_inv
    refine ⟨_, rfl, ?_⟩
    have key : T.d t ≠ .iface ∧ T.d t ≠ .other ∧ (bif Nat.beq t t' then (match ok with
      | true => val (.tup [x, .bool true])
      | false => val x) else none) = some out := by
      split at hp
      · cases hp
      · cases hp
      · rename_i h1 h2
        exact ⟨h1, h2, hp⟩
    obtain ⟨k1, k2, k3⟩ := key
    cases e : Nat.beq t t' with
    | false => rw [e] at k3; cases k3
    | true =>
      rw [e] at k3
      have := Nat.eq_of_beq_eq_true e
      subst this
      obtain ⟨ud, hud, hd'⟩ := Tab.under hT rfl k2
      have hrun : ∀ w : World, (Instr.typeAssert (.iface t u) xt t ok).run P w = .ok (if ok then .tuple #[u, .bool true] else u) w := fun w => by
        unfold Instr.typeAssert
        simp only [Sem.run_bind, underlying, run_program, Result.andThen_ok, hud, Sem.run_pure]
        cases ud <;> first | (simp only [tdOf] at hd'; exact absurd hd'.symm k1) | simp
      cases ok with
      | true => exact ⟨_, hrun w, val_done h k3 (.tup (.cons hu (.cons .bool .nil)))⟩
      | false => exact ⟨_, hrun w, val_done h k3 (by simpa using hu)⟩
  · cases hp

/-- A part of an aggregate. -/
theorem part_ok {t : Nat} {u : TypeDesc} {i : TypeInfo} (hu : P.underlying t = some u) (hi : P.info? t = some i) {vs : List Value} {o : Nat} {y : A} (hw : y.wf) (hs : y.size = i.size)
    (ha : isAgg y = aggD (tdOf u)) (hr : RL I ρ y.cells ((vs.drop o).take y.size)) (hl : o + y.size ≤ vs.length) : ∃ v, (part t vs.toArray o).run P w = .ok v w ∧ R I ρ y v := by
  unfold part
  rw [Sem.run_bind, isAgg_run hu, Result.andThen_ok, ← ha]
  cases hy : isAgg y with
  | true =>
    refine ⟨.agg ((vs.drop o).take y.size).toArray, ?_, .agg hy hw hr⟩
    simp only [if_true, Sem.run_bind, sizeOf_run hi, Result.andThen_ok, ← hs, Sem.run_pure]
    congr 2
    simp only [List.extract_toArray]
    rw [List.extract_eq_take_drop]
    simp
  | false =>
    rw [cells_of_one hy] at hr
    obtain ⟨v, hv, hR⟩ := hr.one_inv
    have h1 := size_of_one hy
    rw [h1] at hv hl
    refine ⟨v, ?_, hR⟩
    have : vs[o]? = some v := by
      have := congrArg (·[0]?) hv
      simpa using this
    simp [this]

include hT in
theorem field_ok {t f : Nat} {vs : List A} {xs : List Value} {out : Out} (hp : pField T t f vs = some out) (h : RW Γ I ρ r us w) (hv : RL I ρ vs xs) (hc : allP out.c) :
    ∃ x, xs = [x] ∧ ∃ v, (Instr.field t x f).run P w = .ok v w ∧ Done Γ I ρ r us nm out (.ok (.value v) w) := by
  unfold pField at hp
  split at hp
  · rename_i ps
    obtain ⟨v, rfl, hx⟩ := hv.one_inv
    obtain ⟨ys, rfl, hwf, hl⟩ := hx.agg_inv rfl
    refine ⟨_, rfl, ?_⟩
    split at hp
    · rename_i fs hd
      obtain ⟨fl, hfl, hfs⟩ := Tab.struct hT hd
      split at hp
      · rename_i off ft hf
        split at hp
        · rename_i d sz _ _ _ hti
          obtain ⟨⟨u, hu, hd2⟩, ⟨i, hi, his, _, _⟩, _, _⟩ := hT ft _ hti
          simp only at hd2 his
          split at hp
          · rename_i y hy
            cases e : Nat.beq y.size sz && knownD d with
            | false => rw [e] at hp; cases hp
            | true =>
              rw [e] at hp
              simp only [cond_true, Option.some.injEq] at hp
              subst hp
              rw [Bool.and_eq_true] at e
              have hsz := Nat.eq_of_beq_eq_true e.1
              obtain ⟨l, m, rfl, hoff, _⟩ := partL_ok ps off y hy
              have hwf' : A.wfL (l ++ y :: m) := hwf
              rw [wfL_append] at hwf'
              rw [nth_getElem?, ← hfs] at hf
              obtain ⟨fd, hfd, hfe⟩ : ∃ fd, fl[f]? = some fd ∧ (fd.offset, fd.type) = (off, ft) := by
                simpa using hf
              simp only [Prod.mk.injEq] at hfe
              simp only [A.cells, cellsL_append, A.cellsL] at hl
              rw [← List.append_assoc] at hl
              have hll := hl.length
              have hmid := RL.middle hl
              rw [A.length_cells y hwf'.2.1, A.length_cellsL l hwf'.1, hoff] at hmid
              obtain ⟨v, hv, hR⟩ := part_ok (P := P) (w := w) hu hi (vs := ys) (o := off) hwf'.2.1 (by omega) (by rw [hd2]; exact hc.1) hmid (by
                rw [← hll]
                simp only [List.length_append, A.length_cells y hwf'.2.1, A.length_cellsL l hwf'.1, hoff]
                omega)
              refine ⟨v, ?_, .value h hR⟩
              unfold Instr.field
              simp only [Sem.run_bind, underlying, run_program, Result.andThen_ok, hfl, Sem.run_pure, hfd, asAgg]
              rw [hfe.1, hfe.2]
              exact hv
          · cases hp
        · cases hp
      · cases hp
    · cases hp
  · cases hp
end
end VX

/- VX 10: addresses of parts, elements, slices, lengths, conversions of numbers. -/
namespace VX
open Go

section
variable {P : Program} {T : Tab} (hT : TabOK P T.l)
variable {Γ : Ctx} {I : Imm} {ρ : Ren} {r : List (Nat × Option Obj)} {us : List Nat} {w : World} {nm : Nat}

include hT in
theorem fieldAddr_ok {t f : Nat} {vs : List A} {xs : List Value} {out : Out} (hp : pFieldAddr T t f vs = some out) (h : RW Γ I ρ r us w) (hv : RL I ρ vs xs) :
    ∃ x, xs = [x] ∧ ∃ v, (Instr.fieldAt t x f).run P w = .ok v w ∧ Done Γ I ρ r us nm out (.ok (.value v) w) := by
  unfold pFieldAddr at hp
  split at hp
  · rename_i x
    obtain ⟨v, rfl, hx⟩ := hv.one_inv
    refine ⟨_, rfl, ?_⟩
    split at hp
    · rename_i fs hd
      obtain ⟨fl, hfl, hfs⟩ := Tab.struct hT hd
      split at hp
      · rename_i off ft hf
        split at hp
        · rename_i d sz _ _ _ hti
          obtain ⟨_, ⟨i, hi, his, _, _⟩, _, _⟩ := hT ft _ hti
          simp only at his
          cases e0 : Nat.blt 0 sz with
          | false => rw [e0] at hp; cases hp
          | true =>
            rw [e0] at hp
            simp only [cond_true] at hp
            have hpos : 0 < sz := by simpa [Nat.blt_eq] using e0
            rw [nth_getElem?, ← hfs] at hf
            obtain ⟨fd, hfd, hfe⟩ : ∃ fd, fl[f]? = some fd ∧ (fd.offset, fd.type) = (off, ft) := by simpa using hf
            simp only [Prod.mk.injEq] at hfe
            have hrun : ∀ b o, (Instr.fieldAt t (.pointer (some ⟨b, o, none⟩)) f).run P w = .ok (.pointer (some ⟨b, o + off, none⟩)) w := fun b o => by
              unfold Instr.fieldAt
              simp only [Sem.run_bind, underlying, run_program, Result.andThen_ok, hfl, Sem.run_pure, hfd, Instr.sureAddr, fieldPlace, hfe.1, hfe.2, sizeOf_run hi]
              rw [if_neg (by omega)]
              simp only [Sem.run_pure, Result.andThen_ok, add_none]
            split at hp
            · rename_i id path
              obtain ⟨b, N, rfl, hb⟩ := hx.ptr_inv
              refine ⟨_, hrun _ _, val_done h hp ?_⟩
              have : addr path + off = addr (path ++ [.fld off sz]) := by simp [addr_append, addr]
              rw [this]
              exact .ptr hb
            · rename_i ps
              obtain ⟨b, o, rfl, hwf, hpu, hra⟩ := hx.rop_inv
              refine ⟨_, hrun _ _, ?_⟩
              split at hp
              · rename_i y hy
                cases e : Nat.beq y.size sz with
                | false => rw [e] at hp; cases hp
                | true =>
                  rw [e] at hp
                  simp only [cond_true] at hp
                  obtain ⟨l, m, rfl, hoff, _⟩ := partL_ok ps off y hy
                  have hwf' : A.wfL (l ++ y :: m) := hwf
                  rw [wfL_append] at hwf'
                  simp only [A.cells, cellsL_append, A.cellsL] at hra
                  have h2 := (RA.split (RA.split hra).2).1
                  rw [A.length_cellsL l hwf'.1, hoff] at h2
                  exact val_done h hp (.rop hwf'.2.1 ((purePL_append l (y :: m)).1 hpu).2.1 h2)
              · cases hp
            · cases hp
        · cases hp
      · cases hp
    · cases hp
  · cases hp

theorem RA.vec {sz n : Nat} {g : Nat → A} {b o : Nat} (hw : (A.vec sz n g).wf) (h : RA I ρ (A.vec sz n g).cells b o) {i : Nat} (hi : i < n) : RA I ρ (g i).cells b (o + i * sz) := by
  have hlen : ∀ j, j < n → ((fun i => (g i).cells) j).length = sz := fun j hj => by
    simp only []
    rw [A.length_cells _ (hw j hj).1, (hw j hj).2.1]
  obtain ⟨l, m, hf, hl, _⟩ := flat_split (f := fun i => (g i).cells) hlen hi
  simp only [A.cells] at h
  rw [hf, List.append_assoc] at h
  have := (RA.split (RA.split h).2).1
  rwa [hl] at this

include hT in
theorem indexAddr_ok {t : Nat} {vs : List A} {xs : List Value} {out : Out} (hp : pIndexAddr T t vs = some out) (h : RW Γ I ρ r us w) (hv : RL I ρ vs xs) (hc : allP out.c) :
    ∃ x y, xs = [x, y] ∧ ∃ v, (Instr.indexAt t x y).run P w = .ok v w ∧ Done Γ I ρ r us nm out (.ok (.value v) w) := by
  unfold pIndexAddr at hp
  split at hp
  · rename_i x k i
    obtain ⟨v, u, rfl, hx, hy⟩ := hv.two_inv
    cases hy.int_inv
    refine ⟨_, _, rfl, ?_⟩
    split at hp
    · rename_i n e hd
      have hu := Tab.array hT hd
      split at hp
      · rename_i d se _ _ _ hti
        obtain ⟨_, ⟨ie, hie, hse, _, _⟩, _, _⟩ := hT e _ hti
        simp only at hse
        have hrun : ∀ b o, 0 ≤ i ∧ i < (n : Int) → (Instr.indexAt t (.pointer (some ⟨b, o, none⟩)) (.int k i)).run P w = .ok (.pointer (some ⟨b, o + i.toNat * se, none⟩)) w := fun b o hi => by
          unfold Instr.indexAt
          simp only [asIntOf, Sem.run_bind, Sem.run_pure, underlying, run_program, Result.andThen_ok, hu, Instr.sureAddr]
          rw [if_pos hi]
          simp only [Sem.run_bind, sizeOf_run hie, Result.andThen_ok, Sem.run_pure, add_none, hse]
        split at hp
        · split at hp
          · rename_i id path
            obtain ⟨b, N, rfl, hb⟩ := hx.ptr_inv
            simp only [Option.some.injEq] at hp
            subst hp
            refine ⟨_, hrun _ _ ⟨hc.1, hc.2.1⟩, .value h ?_⟩
            have : addr path + i.toNat * se = addr (path ++ [.fld (i.toNat * se) se]) := by simp [addr_append, addr]
            rw [this]
            exact .ptr hb
          · cases hp
        unfold indexAddrV at hp
        simp only at hp
        split at hp
        · rename_i id path
          obtain ⟨b, N, rfl, hb⟩ := hx.ptr_inv
          simp only [Option.some.injEq] at hp
          subst hp
          refine ⟨_, hrun _ _ ⟨hc.1, hc.2.1⟩, .value h ?_⟩
          have : addr path + i.toNat * se = addr (path ++ [.idx i.toNat se]) := by simp [addr_append, addr]
          rw [this]
          exact .ptr hb
        · rename_i sz n' g
          obtain ⟨b, o, rfl, hwf, hpu, hra⟩ := hx.rop_inv
          cases e : Nat.beq n n' && Nat.beq sz se with
          | false => rw [e] at hp; cases hp
          | true =>
            rw [e] at hp
            simp only [cond_true, Option.some.injEq] at hp
            subst hp
            rw [Bool.and_eq_true] at e
            have e1 := Nat.eq_of_beq_eq_true e.1
            have e2 := Nat.eq_of_beq_eq_true e.2
            subst e1 e2
            have hi : i.toNat < n := by have := hc.1; have := hc.2.1; omega
            exact ⟨_, hrun _ _ ⟨hc.1, hc.2.1⟩, .value h (.rop (hwf _ hi).1 (hwf _ hi).2.2 (hra.vec hwf hi))⟩
        · cases hp
      · cases hp
    · rename_i e hd
      have hu := Tab.slice hT hd
      split at hp
      · rename_i d se _ _ _ hti
        obtain ⟨_, ⟨ie, hie, hse, _, _⟩, _, _⟩ := hT e _ hti
        simp only at hse
        unfold indexAddrV at hp
        simp only at hp
        have hrun : ∀ b o (l c : Nat), 0 ≤ i ∧ i < (l : Int) → (Instr.indexAt t (.slice (some ⟨b, o, none⟩) l c) (.int k i)).run P w = .ok (.pointer (some ⟨b, o + i.toNat * se, none⟩)) w := fun b o l c hi => by
          unfold Instr.indexAt
          simp only [asIntOf, Sem.run_bind, Sem.run_pure, underlying, run_program, Result.andThen_ok, hu, Instr.sureAddr]
          rw [if_pos hi]
          simp only [Sem.run_bind, sizeOf_run hie, Result.andThen_ok, Sem.run_pure, add_none, hse]
        split at hp
        · rename_i sz n g
          cases e1 : Nat.beq sz se with
          | false => rw [e1] at hp; cases hp
          | true =>
            rw [e1] at hp
            simp only [cond_true, Option.some.injEq] at hp
            subst hp
            have e2 := Nat.eq_of_beq_eq_true e1
            subst e2
            have hi : i.toNat < n := by have := hc.1; have := hc.2.1; omega
            cases hx with
            | agg hx _ _ => cases hx
            | ro h1 h2 h3 => exact ⟨_, hrun _ _ _ _ ⟨hc.1, hc.2.1⟩, .value h (.rop (h2 _ hi).1 (h2 _ hi).2.2 (h3 _ hi))⟩
            | ro0 => omega
        · rename_i sz n g
          cases e1 : Nat.beq sz se with
          | false => rw [e1] at hp; cases hp
          | true =>
            rw [e1] at hp
            simp only [cond_true, Option.some.injEq] at hp
            subst hp
            have e2 := Nat.eq_of_beq_eq_true e1
            subst e2
            have hi : i.toNat < n := by have := hc.1; have := hc.2.1; omega
            cases hx with
            | agg hx _ _ => cases hx
            | rol h2 h3 => exact ⟨_, hrun _ _ _ _ ⟨hc.1, hc.2.1⟩, .value h (.rop (h2 _ hi).1 (h2 _ hi).2.2 (h3 _ hi))⟩
            | rol0 => omega
        · rename_i sz id off n
          cases e1 : Nat.beq sz se with
          | false => rw [e1] at hp; cases hp
          | true =>
            rw [e1] at hp
            simp only [cond_true, Option.some.injEq] at hp
            subst hp
            have e2 := Nat.eq_of_beq_eq_true e1
            subst e2
            have hi : i.toNat < n := by have := hc.1; have := hc.2.1; omega
            cases hx with
            | agg hx _ _ => cases hx
            | own h1 h2 h3 =>
              refine ⟨_, hrun _ _ _ _ ⟨hc.1, hc.2.1⟩, .value h ?_⟩
              have : off * sz + i.toNat * sz = addr [.idx (addI off i) sz] := by simp [addr, addI_eq, Nat.add_mul]
              rw [this]
              exact .ptr h1
            | own0 => omega
        · rename_i sz id off n
          cases e1 : Nat.beq sz se with
          | false => rw [e1] at hp; cases hp
          | true =>
            rw [e1] at hp
            simp only [cond_true, Option.some.injEq] at hp
            subst hp
            have e2 := Nat.eq_of_beq_eq_true e1
            subst e2
            have hi : i.toNat < n := by have := hc.1; have := hc.2.1; omega
            cases hx with
            | agg hx _ _ => cases hx
            | owl h1 h3 =>
              refine ⟨_, hrun _ _ _ _ ⟨hc.1, hc.2.1⟩, .value h ?_⟩
              have : off * sz + i.toNat * sz = addr [.idx (addI off i) sz] := by simp [addr, addI_eq, Nat.add_mul]
              rw [this]
              exact .ptr h1
            | owl0 => omega
        · rename_i sz id path o n
          cases e1 : Nat.beq sz se with
          | false => rw [e1] at hp; cases hp
          | true =>
            rw [e1] at hp
            simp only [cond_true, Option.some.injEq] at hp
            subst hp
            have e2 := Nat.eq_of_beq_eq_true e1
            subst e2
            have hi : i.toNat < n := by have := hc.1; have := hc.2.1; omega
            cases hx with
            | agg hx _ _ => cases hx
            | vsl h1 h2 h3 =>
              refine ⟨_, hrun _ _ _ _ ⟨hc.1, hc.2.1⟩, .value h ?_⟩
              have : addr path + o * sz + i.toNat * sz = addr (path ++ [.idx (addI o i) sz]) := by simp [addr, addr_append, addI_eq, Nat.add_mul]; omega
              rw [this]
              exact .ptr h1
            | vsl0 => omega
        · cases hp
      · cases hp
    · cases hp
  · cases hp

include hT in
theorem index_ok {t : Nat} {vs : List A} {xs : List Value} {out : Out} (hp : pIndex T t vs = some out) (h : RW Γ I ρ r us w) (hv : RL I ρ vs xs) (hc : allP out.c) :
    ∃ x y, xs = [x, y] ∧ ∃ v, (Instr.index t x y).run P w = .ok v w ∧ Done Γ I ρ r us nm out (.ok (.value v) w) := by
  unfold pIndex at hp
  split at hp
  · rename_i x k i
    obtain ⟨v, u, rfl, hx, hy⟩ := hv.two_inv
    cases hy.int_inv
    refine ⟨_, _, rfl, ?_⟩
    split at hp
    · rename_i hd
      have hu := Tab.str hT hd
      split at hp
      · rename_i l
        cases hx.str_inv
        simp only [Option.some.injEq] at hp
        subst hp
        have hi : i.toNat < l.length := by have := hc.1; have := hc.2.1; omega
        refine ⟨.int .u8 (l[i.toNat].toNat), ?_, .value h ?_⟩
        · unfold Instr.index
          simp only [asIntOf, Sem.run_bind, Sem.run_pure, underlying, run_program, Result.andThen_ok, hu]
          rw [if_pos hc.1]
          have : (ByteArray.mk l.toArray)[i.toNat]? = some l[i.toNat] := by
            have hs : i.toNat < (ByteArray.mk l.toArray).size := by simpa [ByteArray.size] using hi
            rw [getElem?_pos (ByteArray.mk l.toArray) i.toNat hs]
            rfl
          simp only [this, Sem.run_pure]
        · simp only [byteAt, byte, List.getD_eq_getElem?_getD, List.getElem?_eq_getElem hi, Option.getD_some]
          exact .int
      · cases hp
    · rename_i n e hd
      have hu := Tab.array hT hd
      split at hp
      · rename_i sz n' g
        obtain ⟨ys, rfl, hwf, hl⟩ := hx.agg_inv rfl
        split at hp
        · rename_i d se _ _ _ hti
          obtain ⟨⟨ud, hud, hd2⟩, ⟨ie, hie, hse, _, _⟩, _, _⟩ := hT e _ hti
          simp only at hd2 hse
          cases e1 : Nat.beq n n' && (Nat.beq sz se && knownD d) with
          | false => rw [e1] at hp; cases hp
          | true =>
            rw [e1] at hp
            simp only [cond_true, Option.some.injEq] at hp
            subst hp
            rw [Bool.and_eq_true, Bool.and_eq_true] at e1
            have e2 := Nat.eq_of_beq_eq_true e1.1
            have e3 := Nat.eq_of_beq_eq_true e1.2.1
            subst e2 e3
            obtain ⟨c1, c2, c3, _⟩ := hc
            have hi : i.toNat < n := by omega
            have hlen : ∀ j, j < n → ((fun i => (g i).cells) j).length = sz := fun j hj => by
              simp only []
              rw [A.length_cells _ (hwf j hj).1, (hwf j hj).2.1]
            obtain ⟨l, m, hf, hll, _⟩ := flat_split (f := fun i => (g i).cells) hlen hi
            simp only [A.cells] at hl
            rw [hf] at hl
            have hlen2 := hl.length
            have hmid := RL.middle hl
            rw [A.length_cells _ (hwf _ hi).1, hll] at hmid
            obtain ⟨v, hv, hR⟩ := part_ok (P := P) (w := w) hud hie (vs := ys) (o := i.toNat * sz) (hwf _ hi).1 (by rw [(hwf _ hi).2.1, hse]) (by rw [hd2]; exact c3) hmid (by
              rw [← hlen2]
              simp only [List.length_append, A.length_cells _ (hwf _ hi).1, hll]
              omega)
            refine ⟨v, ?_, .value h hR⟩
            unfold Instr.index
            simp only [asIntOf, Sem.run_bind, Sem.run_pure, underlying, run_program, Result.andThen_ok, hu]
            rw [if_pos ⟨c1, c2⟩]
            simp only [Sem.run_bind, sizeOf_run hie, Result.andThen_ok, hse]
            exact hv
        · cases hp
      · cases hp
    · cases hp
  · cases hp
end
end VX

