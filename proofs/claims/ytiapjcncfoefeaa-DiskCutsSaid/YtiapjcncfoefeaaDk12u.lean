/- Walks: the statements of layer 12. -/
import Derived.Test.YtiapjcncfoefeaaDk12k
set_option linter.unusedSimpArgs false
set_option linter.unusedVariables false
namespace Go.Proofs.Ytiapjcncfoefeaa
open VX
set_option maxRecDepth 100000
set_option maxHeartbeats 4000000
abbrev keepD (s : List UInt8) (ps : List (List UInt8)) : DK.D := ⟨⟨[], []⟩, ⟨[], []⟩, ⟨s, ps⟩, 1048576, -1⟩
theorem flat_len {l : List (List UInt8)} {c : Nat} (h : ∀ p ∈ l, p.length ≤ c) : l.flatten.length ≤ l.length * c := by
  induction l with
  | nil => simp
  | cons p l ih =>
    rw [List.flatten_cons, List.length_append, List.length_cons, Nat.succ_mul]
    have h1 := h p (List.mem_cons_self ..)
    have h2 := ih fun q hq => h q (List.mem_cons_of_mem _ hq)
    omega
theorem keepD_ok {s : List UInt8} {ps : List (List UInt8)} (hs : s.length ≤ 60) (hp : ps.length ≤ 20) (h : ∀ p ∈ ps, p.length ≤ 20) : DK.Ok (keepD s ps) := by
  have := flat_len h
  have hm : ps.length * 20 ≤ 400 := by omega
  have hb : (DK.F.b ⟨s, ps⟩).length ≤ 460 := by show (s ++ ps.flatten).length ≤ 460; rw [List.length_append]; omega
  exact ⟨by simp [keepD], by simp [keepD], by simp [keepD], by simp [keepD], Nat.zero_le _, Nat.zero_le _, Nat.le_trans hb (by decide), Nat.zero_le _, Nat.zero_le _, Nat.le_trans hp (by decide)⟩
theorem keepD_app {s : List UInt8} {ps : List (List UInt8)} (b : List UInt8) (hs : s.length ≤ 60) (hp : ps.length ≤ 20) (h : ∀ p ∈ ps, p.length ≤ 20) (hb : b.length ≤ 60) : DK.appE (keepD s ps) 2 b = 0 ∧ DK.appD (keepD s ps) 2 b = keepD s (ps ++ [b]) := by
  have := flat_len h
  have hm : ps.length * 20 ≤ 400 := by omega
  have hu : ¬ (keepD s ps).room - (DK.used (keepD s ps) : Int) < b.length := by
    have hb' : (s ++ ps.flatten).length ≤ 460 := by rw [List.length_append]; omega
    have : DK.used (keepD s ps) = (s ++ ps.flatten).length := by show 0 + 0 + (s ++ ps.flatten).length = _; omega
    rw [this]
    show ¬ (1048576 : Int) - _ < _
    omega
  have hf : ¬ DK.failB (keepD s ps) = true := fun h => Bool.noConfusion h
  exact ⟨(if_neg (by decide)).trans ((if_neg hf).trans (if_neg hu)), (if_neg (by decide)).trans ((if_neg hf).trans (if_neg hu))⟩
/-- What is there behind a crash: a beginning, each byte as it was or nought. -/
theorem left_get (m : Nat) (t last : Int) (i : Nat) (p : List UInt8) {j : Nat} (hj : j < (DK.left m t last i p).length) : (DK.left m t last i p).getD j 0 = p.getD j 0 ∨ (DK.left m t last i p).getD j 0 = 0 := by
  unfold DK.left at hj ⊢
  split at hj
  · rename_i h
    rw [if_pos h]
    refine .inr ?_
    rw [List.getD_eq_getElem?_getD, List.getElem?_replicate]
    split <;> rfl
  · rename_i h
    rw [if_neg h]
    split at hj
    · rename_i h2
      rw [if_pos h2]
      refine .inl ?_
      rw [List.length_take] at hj
      rw [List.getD_eq_getElem?_getD, List.getD_eq_getElem?_getD, List.getElem?_take_of_lt (by omega)]
    · rename_i h2
      rw [if_neg h2]
      exact .inl rfl
/-- Ahead of the last one that is there, all parts have their lengths. -/
theorem left_full (m : Nat) (t last : Int) (i : Nat) (p : List UInt8) (h : (i : Int) < last) : (DK.left m t last i p).length = p.length := by
  unfold DK.left
  split
  · simp
  · rw [if_neg (by omega)]
theorem lefts_full (m : Nat) (t last : Int) (ps : List (List UInt8)) : ∀ k : Nat, k ≤ ps.length → (k : Int) ≤ last → (DK.lefts m t last ps k).length = (ps.take k).flatten.length
  | 0, _, _ => by simp [DK.lefts]
  | k + 1, h, hk => by
    rw [DK.lefts_succ, DK.take_flat (by omega), List.length_append, List.length_append, lefts_full m t last ps k (by omega) (by omega), left_full _ _ _ _ _ (by omega)]
theorem lefts_get (m : Nat) (t last : Int) (ps : List (List UInt8)) : ∀ k : Nat, k ≤ ps.length → (k : Int) ≤ last + 1 → ∀ j, j < (DK.lefts m t last ps k).length → (DK.lefts m t last ps k).getD j 0 = ps.flatten.getD j 0 ∨ (DK.lefts m t last ps k).getD j 0 = 0
  | 0, _, _, j, hj => by simp [DK.lefts] at hj
  | k + 1, h, hk, j, hj => by
    have hf := lefts_full m t last ps k (by omega) (by omega)
    have hg := lefts_get m t last ps k (by omega) (by omega)
    have hps : ps.flatten = (ps.take k).flatten ++ (ps.getD k [] ++ (ps.drop (k + 1)).flatten) := by
      rw [← List.append_assoc, ← DK.take_flat (by omega), ← List.flatten_append, List.take_append_drop]
    rw [DK.lefts_succ] at hj ⊢
    by_cases h1 : j < (DK.lefts m t last ps k).length
    · have := hg j h1
      simp only [List.getD_eq_getElem?_getD] at this ⊢
      rw [List.getElem?_append_left h1]
      exact this
    · have h2 : j - (DK.lefts m t last ps k).length < (DK.left m t last k (ps.getD k [])).length := by rw [List.length_append] at hj; omega
      have := left_get m t last k (ps.getD k []) h2
      have h3 := DK.left_len m t last k (ps.getD k [])
      have e : ps.flatten.getD j 0 = (ps.getD k []).getD (j - (DK.lefts m t last ps k).length) 0 := by
        simp only [List.getD_eq_getElem?_getD]
        rw [hps, List.getElem?_append_right (by omega), hf, List.getElem?_append_left (by omega)]
        simp only [List.getD_eq_getElem?_getD]
      rw [e]
      simp only [List.getD_eq_getElem?_getD] at this ⊢
      rw [List.getElem?_append_right (by omega)]
      exact this
/-- What is there of a file behind a crash. -/
def keptB (s : List UInt8) (ps : List (List UInt8)) (m : Nat) (t : Int) : List UInt8 := DK.lefts m t (DK.lastOf m ⟨s, ps⟩) ps (DK.lastOf m ⟨s, ps⟩ + 1).toNat
theorem keepD_crash (s : List UInt8) (ps : List (List UInt8)) (m : Nat) (t : Int) : DK.crashD (keepD s ps) m t = keepD (s ++ keptB s ps m t) [] := by
  have e0 : DK.crashF m t ⟨[], []⟩ = ⟨[], []⟩ := rfl
  unfold DK.crashD
  show (⟨DK.crashF m t ⟨[], []⟩, DK.crashF m t ⟨[], []⟩, DK.crashF m t ⟨s, ps⟩, 1048576, -1⟩ : DK.D) = _
  rw [e0]
  rfl
theorem keptB_len (s : List UInt8) (ps : List (List UInt8)) (m : Nat) (t : Int) : (keptB s ps m t).length ≤ ps.flatten.length := by
  have h1 := DK.lastB_le m (min ps.length 64)
  have h2 := DK.lefts_len m t (DK.lastOf m ⟨s, ps⟩) ps (DK.lastOf m ⟨s, ps⟩ + 1).toNat (by unfold DK.lastOf; simp only; omega)
  exact Nat.le_trans h2 (DK.flat_le _)
theorem keptB_get (s : List UInt8) (ps : List (List UInt8)) (m : Nat) (t : Int) {j : Nat} (hj : j < (keptB s ps m t).length) : (keptB s ps m t).getD j 0 = ps.flatten.getD j 0 ∨ (keptB s ps m t).getD j 0 = 0 := by
  have h1 := DK.lastB_le m (min ps.length 64)
  exact lefts_get m t _ ps _ (by unfold DK.lastOf; simp only; omega) (by unfold DK.lastOf; simp only; omega) j hj
theorem keepD_again (s : List UInt8) (m : Nat) (t : Int) : DK.crashD (keepD s []) m t = keepD s [] := by
  rw [keepD_crash]
  have : keptB s [] m t = [] := rfl
  rw [this, List.append_nil]

theorem lastB_zero : ∀ k, DK.lastB 0 k = -1
  | 0 => rfl
  | k + 1 => by
    unfold DK.lastB
    rw [if_neg (by simp)]
    exact lastB_zero k
theorem keptB_zero (s : List UInt8) (ps : List (List UInt8)) (t : Int) : keptB s ps 0 t = [] := by
  unfold keptB DK.lastOf
  rw [lastB_zero]
  rfl
theorem cuts_does (sure : List UInt8) (l : List (List UInt8)) (n8 : UInt8) : Does Try.prog 5 [bytesA sure, sl 1 bytesA l, VX.byte n8] [] [] Yes := by
  have k8 := n8.toNat_lt
  have c0 : Does Try.prog 9 [.int .i64 1048576] [] [1, 2, 3, 4, 5, 6, 7] (Is (.ptr 1 []) (diskR 1 2 3 4 5 6 7 (keepD [] []))) := newd_does 1048576
  by_cases hs : sure.length ≤ 40
  rotate_left
  · skip
    refine Does.intro (fn := Try.f5) Try.func5 rfl rfl fun Γ hΓ => ?_
    refine W.run TOK 108 hΓ 1000 ?_
    conv => whnf
    refine ⟨?_, ?_⟩
    repeat' first
      | assumption
      | exact Bool.noConfusion hb
      | exact absurd hb (by decide)
      | (exfalso; omega)
      | (exfalso; simp at hb; done)
      | (refine W.retY TOK rfl rfl ⟨?_, ?_⟩)
      | (refine W.branch rfl (fun hb => ?_) (fun hb => ?_) <;> ((try simp only [decide_eq_true_eq, decide_eq_false_iff_not, Bool.not_eq_true', Bool.not_eq_false', Int.not_lt, Int.not_le, cond_true, cond_false, reduceCtorEq, Int.toNat_natCast, Int.reduceToNat, addI] at hb); (try replace hb := of_decide_eq_true hb); (try replace hb := of_decide_eq_false hb)))
      | (refine D.branch rfl (fun hb => ?_) (fun hb => ?_) <;> ((try simp only [decide_eq_true_eq, decide_eq_false_iff_not, Bool.not_eq_true', Bool.not_eq_false', Int.not_lt, Int.not_le, cond_true, cond_false, reduceCtorEq, Int.toNat_natCast, Int.reduceToNat, addI] at hb); (try replace hb := of_decide_eq_true hb); (try replace hb := of_decide_eq_false hb)))
      | ((first | (refine D.callA (known_does) rfl rfl rfl rfl hΓ rfl ?_; (conv => whnf); refine ⟨rfl, rfl, rfl, ?_, ?_, ?_, ?_⟩) | (refine W.callA (known_does) rfl rfl rfl rfl hΓ rfl ?_; (conv => whnf); refine ⟨rfl, rfl, ?_, ?_, ?_, ?_⟩)); iterate 3 (focus ((repeat' apply And.intro) <;> first | exact trivial | (intro i _; rw [Nat.zero_add]; exact A.sim.refl _) | with_reducible exact rfl | exact fun _ _ => A.sim.refl _ | exact A.sim.refl _ | exact rfl | exact Nat.le_refl _ | omega | exact fun i _ => shift_sim _ _ i | exact fun _ _ => trivial | exact fun _ h => absurd h (Nat.not_lt_zero _))); (conv => whnf))
      | (refine W.go TOK 108 hΓ 1000 rfl ?_; (conv => whnf); refine ⟨?_, ?_⟩)
      | (refine D.go TOK 108 hΓ 1000 rfl ?_; (conv => whnf); refine ⟨?_, ?_⟩)
      | (refine W.drawn rfl rfl ?_; refine D.run TOK 108 hΓ 1000 ?_; (conv => whnf); refine ⟨?_, ?_⟩)
    all_goals (repeat' apply And.intro)
    all_goals try (first
      | exact trivial
      | exact rfl
      | exact fun _ _ => A.sim.refl _
      | exact A.sim.refl _
      | exact Nat.le_refl _
      | omega
      | exact fun _ _ => trivial
      | exact fun i _ => shift_sim _ _ i
      | exact fun _ h => absurd h (Nat.not_lt_zero _)
      | exact fun i _ => isInt_byteAt _ i
      | (simp only [allP, List.nil_append, List.append_nil, List.cons_append, List.append_eq, and_true, true_and, inr_i64, inr_u8, inr_u64, min_i64, max_i64, min_u64, max_u64, min_u8, max_u8, A.purePL, A.pureP, A.sureP, A.surePL, Int.toNat_natCast, Int.reduceToNat, addI, cHi, cLo, hiN, loN, subO, addO, hasIdx, cond_true, cond_false]; first | done | omega | ((repeat' apply And.intro) <;> first | exact trivial | rfl | omega | decide))
      )
  by_cases hl20 : l.length ≤ 10
  rotate_left
  · skip
    refine Does.intro (fn := Try.f5) Try.func5 rfl rfl fun Γ hΓ => ?_
    refine W.run TOK 108 hΓ 1000 ?_
    conv => whnf
    refine ⟨?_, ?_⟩
    repeat' first
      | assumption
      | exact Bool.noConfusion hb
      | exact absurd hb (by decide)
      | (exfalso; omega)
      | (exfalso; simp at hb; done)
      | (refine W.retY TOK rfl rfl ⟨?_, ?_⟩)
      | (refine W.branch rfl (fun hb => ?_) (fun hb => ?_) <;> ((try simp only [decide_eq_true_eq, decide_eq_false_iff_not, Bool.not_eq_true', Bool.not_eq_false', Int.not_lt, Int.not_le, cond_true, cond_false, reduceCtorEq, Int.toNat_natCast, Int.reduceToNat, addI] at hb); (try replace hb := of_decide_eq_true hb); (try replace hb := of_decide_eq_false hb)))
      | (refine D.branch rfl (fun hb => ?_) (fun hb => ?_) <;> ((try simp only [decide_eq_true_eq, decide_eq_false_iff_not, Bool.not_eq_true', Bool.not_eq_false', Int.not_lt, Int.not_le, cond_true, cond_false, reduceCtorEq, Int.toNat_natCast, Int.reduceToNat, addI] at hb); (try replace hb := of_decide_eq_true hb); (try replace hb := of_decide_eq_false hb)))
      | ((first | (refine D.callA (known_does) rfl rfl rfl rfl hΓ rfl ?_; (conv => whnf); refine ⟨rfl, rfl, rfl, ?_, ?_, ?_, ?_⟩) | (refine W.callA (known_does) rfl rfl rfl rfl hΓ rfl ?_; (conv => whnf); refine ⟨rfl, rfl, ?_, ?_, ?_, ?_⟩)); iterate 3 (focus ((repeat' apply And.intro) <;> first | exact trivial | (intro i _; rw [Nat.zero_add]; exact A.sim.refl _) | with_reducible exact rfl | exact fun _ _ => A.sim.refl _ | exact A.sim.refl _ | exact rfl | exact Nat.le_refl _ | omega | exact fun i _ => shift_sim _ _ i | exact fun _ _ => trivial | exact fun _ h => absurd h (Nat.not_lt_zero _))); (conv => whnf))
      | (refine W.go TOK 108 hΓ 1000 rfl ?_; (conv => whnf); refine ⟨?_, ?_⟩)
      | (refine D.go TOK 108 hΓ 1000 rfl ?_; (conv => whnf); refine ⟨?_, ?_⟩)
      | (refine W.drawn rfl rfl ?_; refine D.run TOK 108 hΓ 1000 ?_; (conv => whnf); refine ⟨?_, ?_⟩)
    all_goals (repeat' apply And.intro)
    all_goals try (first
      | exact trivial
      | exact rfl
      | exact fun _ _ => A.sim.refl _
      | exact A.sim.refl _
      | exact Nat.le_refl _
      | omega
      | exact fun _ _ => trivial
      | exact fun i _ => shift_sim _ _ i
      | exact fun _ h => absurd h (Nat.not_lt_zero _)
      | exact fun i _ => isInt_byteAt _ i
      | (simp only [allP, List.nil_append, List.append_nil, List.cons_append, List.append_eq, and_true, true_and, inr_i64, inr_u8, inr_u64, min_i64, max_i64, min_u64, max_u64, min_u8, max_u8, A.purePL, A.pureP, A.sureP, A.surePL, Int.toNat_natCast, Int.reduceToNat, addI, cHi, cLo, hiN, loN, subO, addO, hasIdx, cond_true, cond_false]; first | done | omega | ((repeat' apply And.intro) <;> first | exact trivial | rfl | omega | decide))
      )
  have ok0 : DK.Ok (keepD [] []) := keepD_ok (Nat.zero_le _) (Nat.zero_le _) (fun _ h => by cases h)
  have a0 := keepD_app (s := []) (ps := []) sure (Nat.zero_le _) (Nat.zero_le _) (fun _ h => by cases h) (by omega)
  have c1 := append_does (keepD [] []) 2 sure ok0 (by omega)
  rw [a0.1, a0.2, List.nil_append] at c1
  have ok1 : DK.Ok (keepD [] [sure]) := by
    have hb : (DK.F.b ⟨[], [sure]⟩).length ≤ 60 := by show ([] ++ (sure ++ [])).length ≤ 60; simp only [List.nil_append, List.append_nil]; omega
    exact ⟨by simp [keepD], by simp [keepD], by simp [keepD], by simp [keepD], Nat.zero_le _, Nat.zero_le _, Nat.le_trans hb (by decide), Nat.zero_le _, Nat.zero_le _, by simp [keepD]⟩
  have c2 := sync_does (keepD [] [sure]) 2 ok1
  rw [show DK.syncE (keepD [] [sure]) 2 = 0 from rfl, show DK.syncD (keepD [] [sure]) 2 = keepD sure [] by
    show keepD ([] ++ (sure ++ [])) [] = _
    rw [List.nil_append, List.append_nil]] at c2
  refine Does.intro (fn := Try.f5) Try.func5 rfl rfl fun Γ hΓ => ?_
  refine W.run TOK 108 hΓ 1000 ?_
  conv => whnf
  refine ⟨?_, ?_⟩
  repeat' first
    | assumption
    | exact Bool.noConfusion hb
    | exact absurd hb (by decide)
    | (exfalso; omega)
    | (exfalso; simp at hb; done)
    | (refine W.retY TOK rfl rfl ⟨?_, ?_⟩)
    | (refine W.branch rfl (fun hb => ?_) (fun hb => ?_) <;> ((try simp only [decide_eq_true_eq, decide_eq_false_iff_not, Bool.not_eq_true', Bool.not_eq_false', Int.not_lt, Int.not_le, cond_true, cond_false, reduceCtorEq, Int.toNat_natCast, Int.reduceToNat, addI] at hb); (try replace hb := of_decide_eq_true hb); (try replace hb := of_decide_eq_false hb)))
    | (refine D.branch rfl (fun hb => ?_) (fun hb => ?_) <;> ((try simp only [decide_eq_true_eq, decide_eq_false_iff_not, Bool.not_eq_true', Bool.not_eq_false', Int.not_lt, Int.not_le, cond_true, cond_false, reduceCtorEq, Int.toNat_natCast, Int.reduceToNat, addI] at hb); (try replace hb := of_decide_eq_true hb); (try replace hb := of_decide_eq_false hb)))
    | ((first | (refine D.callA (known_does) rfl rfl rfl rfl hΓ rfl ?_; (conv => whnf); refine ⟨rfl, rfl, rfl, ?_, ?_, ?_, ?_⟩) | (refine W.callA (known_does) rfl rfl rfl rfl hΓ rfl ?_; (conv => whnf); refine ⟨rfl, rfl, ?_, ?_, ?_, ?_⟩)); iterate 3 (focus ((repeat' apply And.intro) <;> first | exact trivial | (intro i _; rw [Nat.zero_add]; exact A.sim.refl _) | with_reducible exact rfl | exact fun _ _ => A.sim.refl _ | exact A.sim.refl _ | exact rfl | exact Nat.le_refl _ | omega | exact fun i _ => shift_sim _ _ i | exact fun _ _ => trivial | exact fun _ h => absurd h (Nat.not_lt_zero _) | exact ⟨rfl, rfl⟩)); (conv => whnf))
    | ((first | (refine D.callA (c0) rfl rfl rfl rfl hΓ rfl ?_; (conv => whnf); refine ⟨rfl, rfl, rfl, ?_, ?_, ?_, ?_⟩) | (refine W.callA (c0) rfl rfl rfl rfl hΓ rfl ?_; (conv => whnf); refine ⟨rfl, rfl, ?_, ?_, ?_, ?_⟩)); iterate 3 (focus ((repeat' apply And.intro) <;> first | exact trivial | (intro i _; rw [Nat.zero_add]; exact A.sim.refl _) | with_reducible exact rfl | exact fun _ _ => A.sim.refl _ | exact A.sim.refl _ | exact rfl | exact Nat.le_refl _ | omega | exact fun i _ => shift_sim _ _ i | exact fun _ _ => trivial | exact fun _ h => absurd h (Nat.not_lt_zero _) | exact ⟨rfl, rfl⟩)); (conv => whnf))
    | ((first | (refine D.callA (c1) rfl rfl rfl rfl hΓ rfl ?_; (conv => whnf); refine ⟨rfl, rfl, rfl, ?_, ?_, ?_, ?_⟩) | (refine W.callA (c1) rfl rfl rfl rfl hΓ rfl ?_; (conv => whnf); refine ⟨rfl, rfl, ?_, ?_, ?_, ?_⟩)); iterate 3 (focus ((repeat' apply And.intro) <;> first | exact trivial | (intro i _; rw [Nat.zero_add]; exact A.sim.refl _) | with_reducible exact rfl | exact fun _ _ => A.sim.refl _ | exact A.sim.refl _ | exact rfl | exact Nat.le_refl _ | omega | exact fun i _ => shift_sim _ _ i | exact fun _ _ => trivial | exact fun _ h => absurd h (Nat.not_lt_zero _) | exact ⟨rfl, rfl⟩)); (conv => whnf))
    | ((first | (refine D.callA (c2) rfl rfl rfl rfl hΓ rfl ?_; (conv => whnf); refine ⟨rfl, rfl, rfl, ?_, ?_, ?_, ?_⟩) | (refine W.callA (c2) rfl rfl rfl rfl hΓ rfl ?_; (conv => whnf); refine ⟨rfl, rfl, ?_, ?_, ?_, ?_⟩)); iterate 3 (focus ((repeat' apply And.intro) <;> first | exact trivial | (intro i _; rw [Nat.zero_add]; exact A.sim.refl _) | with_reducible exact rfl | exact fun _ _ => A.sim.refl _ | exact A.sim.refl _ | exact rfl | exact Nat.le_refl _ | omega | exact fun i _ => shift_sim _ _ i | exact fun _ _ => trivial | exact fun _ h => absurd h (Nat.not_lt_zero _) | exact ⟨rfl, rfl⟩)); (conv => whnf))
    | (refine W.go TOK 108 hΓ 1000 rfl ?_; (conv => whnf); refine ⟨?_, ?_⟩)
    | (refine D.go TOK 108 hΓ 1000 rfl ?_; (conv => whnf); refine ⟨?_, ?_⟩)
    | (refine W.drawn rfl rfl ?_; refine D.run TOK 108 hΓ 1000 ?_; (conv => whnf); refine ⟨?_, ?_⟩)
  all_goals (repeat' apply And.intro)
  all_goals try (first
    | exact trivial
    | exact rfl
    | exact fun _ _ => A.sim.refl _
    | exact A.sim.refl _
    | exact Nat.le_refl _
    | omega
    | exact fun _ _ => trivial
    | exact fun i _ => shift_sim _ _ i
    | exact fun _ h => absurd h (Nat.not_lt_zero _)
    | exact fun i _ => isInt_byteAt _ i
    | (simp only [allP, List.nil_append, List.append_nil, List.cons_append, List.append_eq, and_true, true_and, inr_i64, inr_u8, inr_u64, min_i64, max_i64, min_u64, max_u64, min_u8, max_u8, A.purePL, A.pureP, A.sureP, A.surePL, Int.toNat_natCast, Int.reduceToNat, addI, cHi, cLo, hiN, loN, subO, addO, hasIdx, cond_true, cond_false]; first | done | omega | ((repeat' apply And.intro) <;> first | exact trivial | rfl | omega | decide))
    )
  refine W.loopA (Nat) (fun i => i ≤ l.length ∧ ∀ p ∈ l.take i, p.length ≤ 20) (fun i => l.length - i) (fun i => [(7, .ptr 700 []), (8, .own 1 710 0 (sure ++ (l.take i).flatten).length), (9, .int .i64 i)]) (fun i => (710, some (.arr 1 (sure ++ (l.take i).flatten).length (byteAt (sure ++ (l.take i).flatten)))) :: diskR 700 701 702 703 704 705 706 (keepD sure (l.take i))) [] (0) (⟨Nat.zero_le _, fun p h => by simp at h⟩) ?_
  (conv => whnf); refine ⟨?_, ?_⟩; focus ((conv => whnf); refine ⟨rfl, rfl, rfl, rfl, rfl, rfl, ?_, ?_⟩; iterate 2 (focus ((repeat' apply And.intro) <;> first | exact trivial | (intro i _; rw [Nat.zero_add]; exact A.sim.refl _) | with_reducible exact rfl | exact fun _ _ => A.sim.refl _ | exact A.sim.refl _ | exact rfl | exact Nat.le_refl _ | omega | exact fun i _ => shift_sim _ _ i | exact fun _ _ => trivial | exact fun _ h => absurd h (Nat.not_lt_zero _) | exact ⟨rfl, rfl⟩ | exact (congrArg List.length (List.append_nil sure)).symm | exact Nat.le_of_eq (congrArg List.length (List.append_nil sure)) | exact sim_eq (List.append_nil sure).symm)))
  rintro i ⟨hi, hp⟩ ih
  have htl : (l.take i).length ≤ 20 := by rw [List.length_take]; omega
  have hok := keepD_ok (show sure.length ≤ 60 by omega) htl hp
  have hfl := flat_len hp
  have hfm : (l.take i).length * 20 ≤ 400 := by omega
  have hal : (sure ++ (l.take i).flatten).length ≤ 460 := by rw [List.length_append]; omega
  by_cases hil : i < l.length
  · by_cases hx : (l.getD i []).length ≤ 20
    · have hmem : ∀ p ∈ l.take (i + 1), p.length ≤ 20 := by
        rw [List.take_succ_eq_append_getElem hil]
        intro p h
        rcases List.mem_append.1 h with h | h
        · exact hp p h
        · rw [List.mem_singleton] at h
          subst h
          simpa [List.getD_eq_getElem?_getD, List.getElem?_eq_getElem hil] using hx
      have e1 : l.take (i + 1) = l.take i ++ [l.getD i []] := by
        rw [List.take_succ_eq_append_getElem hil]
        simp [List.getD_eq_getElem?_getD, List.getElem?_eq_getElem hil]
      have e2 : sure ++ (l.take (i + 1)).flatten = (sure ++ (l.take i).flatten) ++ l.getD i [] := by
        rw [e1, List.flatten_append, List.append_assoc]; simp
      have ap := keepD_app (s := sure) (ps := l.take i) (l.getD i []) (by omega) htl hp (by omega)
      have ca := append_does (keepD sure (l.take i)) 2 (l.getD i []) hok (by omega)
      rw [ap.1, ap.2, ← e1] at ca
      have hq1 : (sure ++ (l.take (i + 1)).flatten).length = (sure ++ (l.take i).flatten).length + (l.getD i []).length := by rw [e2, List.length_append]
      have hq2 : ∀ j, j < (sure ++ (l.take (i + 1)).flatten).length → (catF (sure ++ (l.take i).flatten).length (byteAt (sure ++ (l.take i).flatten)) (byteAt (l.getD i [])) j).sim (byteAt (sure ++ (l.take (i + 1)).flatten) j) := fun j _ => A.sim.of (by rw [e2, cat_fun rfl])
      repeat' first
        | assumption
        | exact Bool.noConfusion hb
        | exact absurd hb (by decide)
        | (exfalso; omega)
        | (exfalso; simp at hb; done)
        | (refine W.toA (ih (i + 1) ?_ ?_) ?_; rotate_left 2; (conv => whnf); refine ⟨rfl, rfl, rfl, rfl, rfl, rfl, ?_, ?_⟩; iterate 2 (focus ((repeat' apply And.intro) <;> first | exact trivial | (intro i _; rw [Nat.zero_add]; exact A.sim.refl _) | with_reducible exact rfl | exact fun _ _ => A.sim.refl _ | exact A.sim.refl _ | exact rfl | exact Nat.le_refl _ | omega | exact fun i _ => shift_sim _ _ i | exact fun _ _ => trivial | exact fun _ h => absurd h (Nat.not_lt_zero _) | exact hq1 | exact hq1.symm | exact Nat.le_of_eq hq1 | exact hq2 | exact ⟨rfl, rfl⟩)))
        | (refine W.retY TOK rfl rfl ⟨?_, ?_⟩)
        | (refine W.branch rfl (fun hb => ?_) (fun hb => ?_) <;> ((try simp only [decide_eq_true_eq, decide_eq_false_iff_not, Bool.not_eq_true', Bool.not_eq_false', Int.not_lt, Int.not_le, cond_true, cond_false, reduceCtorEq, Int.toNat_natCast, Int.reduceToNat, addI] at hb); (try replace hb := of_decide_eq_true hb); (try replace hb := of_decide_eq_false hb)))
        | (refine D.branch rfl (fun hb => ?_) (fun hb => ?_) <;> ((try simp only [decide_eq_true_eq, decide_eq_false_iff_not, Bool.not_eq_true', Bool.not_eq_false', Int.not_lt, Int.not_le, cond_true, cond_false, reduceCtorEq, Int.toNat_natCast, Int.reduceToNat, addI] at hb); (try replace hb := of_decide_eq_true hb); (try replace hb := of_decide_eq_false hb)))
        | ((first | (refine D.callA (ca) rfl rfl rfl rfl hΓ rfl ?_; (conv => whnf); refine ⟨rfl, rfl, rfl, ?_, ?_, ?_, ?_⟩) | (refine W.callA (ca) rfl rfl rfl rfl hΓ rfl ?_; (conv => whnf); refine ⟨rfl, rfl, ?_, ?_, ?_, ?_⟩)); iterate 3 (focus ((repeat' apply And.intro) <;> first | exact trivial | (intro i _; rw [Nat.zero_add]; exact A.sim.refl _) | with_reducible exact rfl | exact fun _ _ => A.sim.refl _ | exact A.sim.refl _ | exact rfl | exact Nat.le_refl _ | omega | exact fun i _ => shift_sim _ _ i | exact fun _ _ => trivial | exact fun _ h => absurd h (Nat.not_lt_zero _) | exact hq1 | exact hq1.symm | exact Nat.le_of_eq hq1 | exact hq2 | exact ⟨rfl, rfl⟩)); (conv => whnf))
        | (refine W.go TOK 108 hΓ 1000 rfl ?_; (conv => whnf); refine ⟨?_, ?_⟩)
        | (refine D.go TOK 108 hΓ 1000 rfl ?_; (conv => whnf); refine ⟨?_, ?_⟩)
        | (refine W.drawn rfl rfl ?_; refine D.run TOK 108 hΓ 1000 ?_; (conv => whnf); refine ⟨?_, ?_⟩)
      all_goals (repeat' apply And.intro)
      all_goals try (first
        | exact trivial
        | exact rfl
        | exact fun _ _ => A.sim.refl _
        | exact A.sim.refl _
        | exact Nat.le_refl _
        | omega
        | exact fun _ _ => trivial
        | exact fun i _ => shift_sim _ _ i
        | exact fun _ h => absurd h (Nat.not_lt_zero _)
        | exact fun i _ => isInt_byteAt _ i
        | exact ⟨hil, hmem⟩
        | (simp only [allP, List.nil_append, List.append_nil, List.cons_append, List.append_eq, and_true, true_and, inr_i64, inr_u8, inr_u64, min_i64, max_i64, min_u64, max_u64, min_u8, max_u8, A.purePL, A.pureP, A.sureP, A.surePL, Int.toNat_natCast, Int.reduceToNat, addI, cHi, cLo, hiN, loN, subO, addO, hasIdx, cond_true, cond_false]; first | done | omega | ((repeat' apply And.intro) <;> first | exact trivial | rfl | omega | decide))
        )
    · skip
      repeat' first
        | assumption
        | exact Bool.noConfusion hb
        | exact absurd hb (by decide)
        | (exfalso; omega)
        | (exfalso; simp at hb; done)
        | (exfalso; have hb2 : ((l.getD i []).length : Int) ≤ 20 := hb; omega)
        | (refine W.retY TOK rfl rfl ⟨?_, ?_⟩)
        | (refine W.branch rfl (fun hb => ?_) (fun hb => ?_) <;> ((try simp only [decide_eq_true_eq, decide_eq_false_iff_not, Bool.not_eq_true', Bool.not_eq_false', Int.not_lt, Int.not_le, cond_true, cond_false, reduceCtorEq, Int.toNat_natCast, Int.reduceToNat, addI] at hb); (try replace hb := of_decide_eq_true hb); (try replace hb := of_decide_eq_false hb)))
        | (refine D.branch rfl (fun hb => ?_) (fun hb => ?_) <;> ((try simp only [decide_eq_true_eq, decide_eq_false_iff_not, Bool.not_eq_true', Bool.not_eq_false', Int.not_lt, Int.not_le, cond_true, cond_false, reduceCtorEq, Int.toNat_natCast, Int.reduceToNat, addI] at hb); (try replace hb := of_decide_eq_true hb); (try replace hb := of_decide_eq_false hb)))
        | (refine W.go TOK 108 hΓ 1000 rfl ?_; (conv => whnf); refine ⟨?_, ?_⟩)
        | (refine D.go TOK 108 hΓ 1000 rfl ?_; (conv => whnf); refine ⟨?_, ?_⟩)
        | (refine W.drawn rfl rfl ?_; refine D.run TOK 108 hΓ 1000 ?_; (conv => whnf); refine ⟨?_, ?_⟩)
      all_goals (repeat' apply And.intro)
      all_goals try (first
        | exact trivial
        | exact rfl
        | exact fun _ _ => A.sim.refl _
        | exact A.sim.refl _
        | exact Nat.le_refl _
        | omega
        | exact fun _ _ => trivial
        | exact fun i _ => shift_sim _ _ i
        | exact fun _ h => absurd h (Nat.not_lt_zero _)
        | exact fun i _ => isInt_byteAt _ i
        | (simp only [allP, List.nil_append, List.append_nil, List.cons_append, List.append_eq, and_true, true_and, inr_i64, inr_u8, inr_u64, min_i64, max_i64, min_u64, max_u64, min_u8, max_u8, A.purePL, A.pureP, A.sureP, A.surePL, Int.toNat_natCast, Int.reduceToNat, addI, cHi, cLo, hiN, loN, subO, addO, hasIdx, cond_true, cond_false]; first | done | omega | ((repeat' apply And.intro) <;> first | exact trivial | rfl | omega | decide))
        )
  · have hie : l.take i = l := List.take_of_length_le (by omega)
    rw [hie] at hp hok hfl hfm hal ⊢
    clear ih
    have hl2 : (sure ++ l.flatten).length = sure.length + l.flatten.length := List.length_append
    have hnw : IntKind.i64.wrap (n8.toNat : Int) = (n8.toNat : Int) := wrap_i64_in (by omega) (by omega)
    obtain ⟨k, hk⟩ : ∃ k : Nat, k = n8.toNat % ((sure ++ l.flatten).length + 1) := ⟨_, rfl⟩
    have hkl : k ≤ (sure ++ l.flatten).length := by have := Nat.mod_lt n8.toNat (show 0 < (sure ++ l.flatten).length + 1 by omega); omega
    have hkv : IntKind.i64.wrap (n8.toNat : Int) % (((sure ++ l.flatten).length : Int) + 1) = (k : Int) := by rw [hnw, hk]; rfl
    have hfb : ¬ DK.failB (keepD sure l) = true := fun h => Bool.noConfusion h
    have d1 := cut_does (keepD sure l) 2 (((sure ++ l.flatten).length : Int) + 1) hok
    rw [show DK.cutE (keepD sure l) 2 (((sure ++ l.flatten).length : Int) + 1) = 36 from (if_neg (by decide)).trans (if_pos (.inr (show ((sure ++ l.flatten).length : Int) < ((sure ++ l.flatten).length : Int) + 1 by omega))),
      show DK.cutD (keepD sure l) 2 (((sure ++ l.flatten).length : Int) + 1) = keepD sure l from (if_neg (by decide)).trans (if_pos (.inr (show ((sure ++ l.flatten).length : Int) < ((sure ++ l.flatten).length : Int) + 1 by omega)))] at d1
    have d2 := cut_does (keepD sure l) 2 (-1) hok
    rw [show DK.cutE (keepD sure l) 2 (-1) = 36 from (if_neg (by decide)).trans (if_pos (.inl (by decide))), show DK.cutD (keepD sure l) 2 (-1) = keepD sure l from (if_neg (by decide)).trans (if_pos (.inl (by decide)))] at d2
    have hin : ¬ ((k : Int) < 0 ∨ ((DK.get (keepD sure l) (2 : Int).toNat).b.length : Int) < (k : Int)) := by show ¬ ((k : Int) < 0 ∨ ((sure ++ l.flatten).length : Int) < (k : Int)); omega
    have d3 := cut_does (keepD sure l) 2 (k : Int) hok
    rw [show DK.cutE (keepD sure l) 2 (k : Int) = 0 from (if_neg (by decide)).trans ((if_neg hin).trans (if_neg hfb)), show DK.cutD (keepD sure l) 2 (k : Int) = keepD (sure.take k) (DK.cutP (k - sure.length) l) from (if_neg (by decide)).trans ((if_neg hin).trans (if_neg hfb))] at d3
    have hcb : (DK.F.b ⟨sure.take k, DK.cutP (k - sure.length) l⟩) = (sure ++ l.flatten).take k := DK.cutF_b ⟨sure, l⟩ k
    have hok3 : DK.Ok (keepD (sure.take k) (DK.cutP (k - sure.length) l)) := by
      have hb : (DK.F.b ⟨sure.take k, DK.cutP (k - sure.length) l⟩).length ≤ 460 := by rw [hcb, List.length_take]; omega
      have hpl : ∀ (ps : List (List UInt8)) (n : Nat), (DK.cutP n ps).length ≤ ps.length := by
        intro ps
        induction ps with
        | nil => intro n; cases n <;> simp [DK.cutP]
        | cons p ps ih =>
          intro n
          cases n with
          | zero => simp [DK.cutP]
          | succ n => rw [DK.cutP, List.length_cons, List.length_cons]; have := ih (n + 1 - p.length); omega
      exact ⟨by simp [keepD], by simp [keepD], by simp [keepD], by simp [keepD], Nat.zero_le _, Nat.zero_le _, Nat.le_trans hb (by decide), Nat.zero_le _, Nat.zero_le _, Nat.le_trans (hpl l _) (by omega)⟩
    have r3 := read_does (keepD (sure.take k) (DK.cutP (k - sure.length) l)) 2 hok3
    rw [show DK.readS (keepD (sure.take k) (DK.cutP (k - sure.length) l)) 2 = (sure ++ l.flatten).take k from hcb] at r3
    have s3 := sure_does (keepD (sure.take k) (DK.cutP (k - sure.length) l)) 2
    have hsv : DK.sureS (keepD (sure.take k) (DK.cutP (k - sure.length) l)) 2 = if (sure.length : Int) < IntKind.i64.wrap (n8.toNat : Int) % (((sure ++ l.flatten).length : Int) + 1) then (sure.length : Int) else IntKind.i64.wrap (n8.toNat : Int) % (((sure ++ l.flatten).length : Int) + 1) := by
      show (((sure.take k).length : Nat) : Int) = _
      rw [hkv, List.length_take]
      split <;> omega
    have x4 := crash_does (keepD (sure.take k) (DK.cutP (k - sure.length) l)) 0 0 (by decide) hok3
    rw [keepD_crash, keptB_zero, List.append_nil] at x4
    have hok4 : DK.Ok (keepD (sure.take k) []) := keepD_ok (by rw [List.length_take]; omega) (Nat.zero_le _) (fun _ h => by cases h)
    have r4 := read_does (keepD (sure.take k) []) 2 hok4
    rw [show DK.readS (keepD (sure.take k) []) 2 = sure.take k from List.append_nil _] at r4
    have hst3 : bytesOf ((sure ++ l.flatten).take k).length (byteAt ((sure ++ l.flatten).take k)) = bytesOf (IntKind.i64.wrap (n8.toNat : Int) % (((sure ++ l.flatten).length : Int) + 1)).toNat (byteAt (sure ++ l.flatten)) := by
      rw [hkv, Int.toNat_natCast, bytes_fun rfl, bytes_take hkl]
    have hst4 : bytesOf (sure.take k).length (byteAt (sure.take k)) = bytesOf (if (sure.length : Int) < IntKind.i64.wrap (n8.toNat : Int) % (((sure ++ l.flatten).length : Int) + 1) then (sure.length : Int) else IntKind.i64.wrap (n8.toNat : Int) % (((sure ++ l.flatten).length : Int) + 1)).toNat (byteAt (sure ++ l.flatten)) := by
      have e : (if (sure.length : Int) < IntKind.i64.wrap (n8.toNat : Int) % (((sure ++ l.flatten).length : Int) + 1) then (sure.length : Int) else IntKind.i64.wrap (n8.toNat : Int) % (((sure ++ l.flatten).length : Int) + 1)).toNat = min k sure.length := by
        rw [hkv]; split <;> omega
      rw [e, bytes_fun rfl, bytes_take (n := min k sure.length) (by rw [List.length_append]; omega), List.take_append_of_le_length (Nat.min_le_right _ _)]
      exact List.take_eq_take_iff.2 (by omega)
    have hmn : (if (sure.length : Int) < IntKind.i64.wrap (n8.toNat : Int) % (((sure ++ l.flatten).length : Int) + 1) then (sure.length : Int) else IntKind.i64.wrap (n8.toNat : Int) % (((sure ++ l.flatten).length : Int) + 1)) = ((min k sure.length : Nat) : Int) := by rw [hkv]; split <;> omega
    repeat' first
      | assumption
      | exact Bool.noConfusion hb
      | exact absurd hb (by decide)
      | (exfalso; omega)
      | exact absurd hst3 hb
      | exact absurd hsv hb
      | (exfalso; simp at hb; done)
      | exact absurd rfl hb
      | (refine W.retY TOK rfl rfl ⟨?_, ?_⟩)
      | (refine W.branch rfl (fun hb => ?_) (fun hb => ?_) <;> ((try simp only [decide_eq_true_eq, decide_eq_false_iff_not, Bool.not_eq_true', Bool.not_eq_false', Int.not_lt, Int.not_le, cond_true, cond_false, reduceCtorEq, Int.toNat_natCast, Int.reduceToNat, addI] at hb); (try replace hb := of_decide_eq_true hb); (try replace hb := of_decide_eq_false hb)))
      | (refine D.branch rfl (fun hb => ?_) (fun hb => ?_) <;> ((try simp only [decide_eq_true_eq, decide_eq_false_iff_not, Bool.not_eq_true', Bool.not_eq_false', Int.not_lt, Int.not_le, cond_true, cond_false, reduceCtorEq, Int.toNat_natCast, Int.reduceToNat, addI] at hb); (try replace hb := of_decide_eq_true hb); (try replace hb := of_decide_eq_false hb)))
      | ((first | (refine D.callA (d1) rfl rfl rfl rfl hΓ rfl ?_; (conv => whnf); refine ⟨rfl, rfl, rfl, ?_, ?_, ?_, ?_⟩) | (refine W.callA (d1) rfl rfl rfl rfl hΓ rfl ?_; (conv => whnf); refine ⟨rfl, rfl, ?_, ?_, ?_, ?_⟩)); iterate 3 (focus ((repeat' apply And.intro) <;> first | exact trivial | (intro i _; rw [Nat.zero_add]; exact A.sim.refl _) | with_reducible exact rfl | exact fun _ _ => A.sim.refl _ | exact A.sim.refl _ | exact rfl | exact Nat.le_refl _ | omega | exact fun i _ => shift_sim _ _ i | exact fun _ _ => trivial | exact fun _ h => absurd h (Nat.not_lt_zero _) | exact ⟨rfl, rfl⟩ | exact hkv | exact hkv.symm)); (conv => whnf))
      | ((first | (refine D.callA (d2) rfl rfl rfl rfl hΓ rfl ?_; (conv => whnf); refine ⟨rfl, rfl, rfl, ?_, ?_, ?_, ?_⟩) | (refine W.callA (d2) rfl rfl rfl rfl hΓ rfl ?_; (conv => whnf); refine ⟨rfl, rfl, ?_, ?_, ?_, ?_⟩)); iterate 3 (focus ((repeat' apply And.intro) <;> first | exact trivial | (intro i _; rw [Nat.zero_add]; exact A.sim.refl _) | with_reducible exact rfl | exact fun _ _ => A.sim.refl _ | exact A.sim.refl _ | exact rfl | exact Nat.le_refl _ | omega | exact fun i _ => shift_sim _ _ i | exact fun _ _ => trivial | exact fun _ h => absurd h (Nat.not_lt_zero _) | exact ⟨rfl, rfl⟩ | exact hkv | exact hkv.symm)); (conv => whnf))
      | ((first | (refine D.callA (d3) rfl rfl rfl rfl hΓ rfl ?_; (conv => whnf); refine ⟨rfl, rfl, rfl, ?_, ?_, ?_, ?_⟩) | (refine W.callA (d3) rfl rfl rfl rfl hΓ rfl ?_; (conv => whnf); refine ⟨rfl, rfl, ?_, ?_, ?_, ?_⟩)); iterate 3 (focus ((repeat' apply And.intro) <;> first | exact trivial | (intro i _; rw [Nat.zero_add]; exact A.sim.refl _) | with_reducible exact rfl | exact fun _ _ => A.sim.refl _ | exact A.sim.refl _ | exact rfl | exact Nat.le_refl _ | omega | exact fun i _ => shift_sim _ _ i | exact fun _ _ => trivial | exact fun _ h => absurd h (Nat.not_lt_zero _) | exact ⟨rfl, rfl⟩ | exact hkv | exact hkv.symm)); (conv => whnf))
      | (refine D.callAR (r3) rfl rfl rfl rfl hΓ rfl ?_; (conv => whnf); refine ⟨rfl, rfl, rfl, rfl, ?_, ?_, ?_, ?_, ?_⟩; iterate 4 (focus ((repeat' apply And.intro) <;> first | exact trivial | (intro i _; rw [Nat.zero_add]; exact A.sim.refl _) | with_reducible exact rfl | exact fun _ _ => A.sim.refl _ | exact A.sim.refl _ | exact rfl | exact Nat.le_refl _ | omega | exact fun i _ => shift_sim _ _ i | exact fun _ _ => trivial | exact fun _ h => absurd h (Nat.not_lt_zero _) | exact ⟨rfl, rfl⟩ | exact hkv | exact hkv.symm)); (conv => whnf))
      | (refine W.callA (r3) rfl rfl rfl rfl hΓ rfl ?_; (conv => whnf); refine ⟨rfl, rfl, ?_, ?_, ?_, ?_⟩; iterate 3 (focus ((repeat' apply And.intro) <;> first | exact trivial | (intro i _; rw [Nat.zero_add]; exact A.sim.refl _) | with_reducible exact rfl | exact fun _ _ => A.sim.refl _ | exact A.sim.refl _ | exact rfl | exact Nat.le_refl _ | omega | exact fun i _ => shift_sim _ _ i | exact fun _ _ => trivial | exact fun _ h => absurd h (Nat.not_lt_zero _) | exact ⟨rfl, rfl⟩ | exact hkv | exact hkv.symm)); (conv => whnf))
      | (refine D.callAR (s3) rfl rfl rfl rfl hΓ rfl ?_; (conv => whnf); refine ⟨rfl, rfl, rfl, rfl, ?_, ?_, ?_, ?_, ?_⟩; iterate 4 (focus ((repeat' apply And.intro) <;> first | exact trivial | (intro i _; rw [Nat.zero_add]; exact A.sim.refl _) | with_reducible exact rfl | exact fun _ _ => A.sim.refl _ | exact A.sim.refl _ | exact rfl | exact Nat.le_refl _ | omega | exact fun i _ => shift_sim _ _ i | exact fun _ _ => trivial | exact fun _ h => absurd h (Nat.not_lt_zero _) | exact ⟨rfl, rfl⟩ | exact hkv | exact hkv.symm)); (conv => whnf))
      | (refine W.callA (s3) rfl rfl rfl rfl hΓ rfl ?_; (conv => whnf); refine ⟨rfl, rfl, ?_, ?_, ?_, ?_⟩; iterate 3 (focus ((repeat' apply And.intro) <;> first | exact trivial | (intro i _; rw [Nat.zero_add]; exact A.sim.refl _) | with_reducible exact rfl | exact fun _ _ => A.sim.refl _ | exact A.sim.refl _ | exact rfl | exact Nat.le_refl _ | omega | exact fun i _ => shift_sim _ _ i | exact fun _ _ => trivial | exact fun _ h => absurd h (Nat.not_lt_zero _) | exact ⟨rfl, rfl⟩ | exact hkv | exact hkv.symm)); (conv => whnf))
      | ((first | (refine D.callA (x4) rfl rfl rfl rfl hΓ rfl ?_; (conv => whnf); refine ⟨rfl, rfl, rfl, ?_, ?_, ?_, ?_⟩) | (refine W.callA (x4) rfl rfl rfl rfl hΓ rfl ?_; (conv => whnf); refine ⟨rfl, rfl, ?_, ?_, ?_, ?_⟩)); iterate 3 (focus ((repeat' apply And.intro) <;> first | exact trivial | (intro i _; rw [Nat.zero_add]; exact A.sim.refl _) | with_reducible exact rfl | exact fun _ _ => A.sim.refl _ | exact A.sim.refl _ | exact rfl | exact Nat.le_refl _ | omega | exact fun i _ => shift_sim _ _ i | exact fun _ _ => trivial | exact fun _ h => absurd h (Nat.not_lt_zero _) | exact ⟨rfl, rfl⟩ | exact hkv | exact hkv.symm)); (conv => whnf))
      | (refine D.callAR (r4) rfl rfl rfl rfl hΓ rfl ?_; (conv => whnf); refine ⟨rfl, rfl, rfl, rfl, ?_, ?_, ?_, ?_, ?_⟩; iterate 4 (focus ((repeat' apply And.intro) <;> first | exact trivial | (intro i _; rw [Nat.zero_add]; exact A.sim.refl _) | with_reducible exact rfl | exact fun _ _ => A.sim.refl _ | exact A.sim.refl _ | exact rfl | exact Nat.le_refl _ | omega | exact fun i _ => shift_sim _ _ i | exact fun _ _ => trivial | exact fun _ h => absurd h (Nat.not_lt_zero _) | exact ⟨rfl, rfl⟩ | exact hkv | exact hkv.symm)); (conv => whnf))
      | (refine W.callA (r4) rfl rfl rfl rfl hΓ rfl ?_; (conv => whnf); refine ⟨rfl, rfl, ?_, ?_, ?_, ?_⟩; iterate 3 (focus ((repeat' apply And.intro) <;> first | exact trivial | (intro i _; rw [Nat.zero_add]; exact A.sim.refl _) | with_reducible exact rfl | exact fun _ _ => A.sim.refl _ | exact A.sim.refl _ | exact rfl | exact Nat.le_refl _ | omega | exact fun i _ => shift_sim _ _ i | exact fun _ _ => trivial | exact fun _ h => absurd h (Nat.not_lt_zero _) | exact ⟨rfl, rfl⟩ | exact hkv | exact hkv.symm)); (conv => whnf))
      | (refine W.go TOK 108 hΓ 1000 rfl ?_; (conv => whnf); refine ⟨?_, ?_⟩)
      | (refine D.go TOK 108 hΓ 1000 rfl ?_; (conv => whnf); refine ⟨?_, ?_⟩)
      | (refine W.drawn rfl rfl ?_; refine D.run TOK 108 hΓ 1000 ?_; (conv => whnf); refine ⟨?_, ?_⟩)
    all_goals (repeat' apply And.intro)
    all_goals try (first
      | exact trivial
      | exact rfl
      | exact fun _ _ => A.sim.refl _
      | exact A.sim.refl _
      | exact Nat.le_refl _
      | omega
      | exact fun _ _ => trivial
      | exact fun i _ => shift_sim _ _ i
      | exact fun _ h => absurd h (Nat.not_lt_zero _)
      | exact fun i _ => isInt_byteAt _ i
      | (intro i _; exact isInt_byteAt _ _)
      | exact decide_eq_true hst4
      | (simp only [allP, List.nil_append, List.append_nil, List.cons_append, List.append_eq, and_true, true_and, inr_i64, inr_u8, inr_u64, min_i64, max_i64, min_u64, max_u64, min_u8, max_u8, A.purePL, A.pureP, A.sureP, A.surePL, Int.toNat_natCast, Int.reduceToNat, addI, cHi, cLo, hiN, loN, subO, addO, hasIdx, cond_true, cond_false]; first | done | omega | ((repeat' apply And.intro) <;> first | exact trivial | rfl | omega | decide))
      | (rw [hkv]; omega)
      | (rw [hmn]; omega)
      )

theorem diskCuts_law (x0 x1 x2 : A) (s0 : Shaped (.slice (.int .u8)) x0) (s1 : Shaped (.slice (.slice (.int .u8))) x1) (s2 : Shaped (.int .u8) x2) : Does Try.prog 5 [x0, x1, x2] [] [] Yes := by
  obtain ⟨a0, e0, h0⟩ := Rep.bytes x0 s0
  obtain ⟨a1, e1, h1⟩ := (Rep.slice Rep.bytes) x1 s1
  obtain ⟨a2, e2, h2⟩ := Rep.byte x2 s2
  exact Does.args (ys := [bytesA a0, (sl (Sh.size (.slice (.int .u8))) bytesA) a1, VX.byte a2]) ⟨e0, e1, e2, trivial⟩ ⟨s0.pure, s1.pure, s2.pure, trivial⟩ (cuts_does a0 a1 a2)
end Go.Proofs.Ytiapjcncfoefeaa
