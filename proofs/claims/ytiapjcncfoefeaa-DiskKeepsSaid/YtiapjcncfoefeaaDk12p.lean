/- Walks: the statements of layer 12. -/
import Derived.Test.YtiapjcncfoefeaaDk12k
set_option linter.unusedSimpArgs false
set_option linter.unusedVariables false
namespace Go.Proofs.Ytiapjcncfoefeaa
open VX
set_option maxRecDepth 100000
set_option maxHeartbeats 4000000
abbrev keepD (s : List UInt8) (ps : List (List UInt8)) : DK.D := ⟨⟨[], []⟩, ⟨s, ps⟩, ⟨[], []⟩, 1048576, -1⟩
theorem flat_len {l : List (List UInt8)} {c : Nat} (h : ∀ p ∈ l, p.length ≤ c) : l.flatten.length ≤ l.length * c := by
  induction l with
  | nil => simp
  | cons p l ih =>
    rw [List.flatten_cons, List.length_append, List.length_cons, Nat.succ_mul]
    have h1 := h p (List.mem_cons_self ..)
    have h2 := ih fun q hq => h q (List.mem_cons_of_mem _ hq)
    omega
theorem keepD_ok {s : List UInt8} {ps : List (List UInt8)} (hs : s.length ≤ 60) (hp : ps.length ≤ 20) (h : ∀ p ∈ ps, p.length ≤ 20) : DK.Ok (keepD s ps) := by
  have := flat_len h
  have hm : ps.length * 20 ≤ 400 := by omega
  have hb : (DK.F.b ⟨s, ps⟩).length ≤ 460 := by show (s ++ ps.flatten).length ≤ 460; rw [List.length_append]; omega
  exact ⟨by simp [keepD], by simp [keepD], by simp [keepD], by simp [keepD], Nat.zero_le _, Nat.le_trans hb (by decide), Nat.zero_le _, Nat.zero_le _, Nat.le_trans hp (by decide), Nat.zero_le _⟩
theorem keepD_app {s : List UInt8} {ps : List (List UInt8)} (b : List UInt8) (hs : s.length ≤ 60) (hp : ps.length ≤ 20) (h : ∀ p ∈ ps, p.length ≤ 20) (hb : b.length ≤ 60) : DK.appE (keepD s ps) 1 b = 0 ∧ DK.appD (keepD s ps) 1 b = keepD s (ps ++ [b]) := by
  have := flat_len h
  have hm : ps.length * 20 ≤ 400 := by omega
  have hu : ¬ (keepD s ps).room - (DK.used (keepD s ps) : Int) < b.length := by
    have hb' : (s ++ ps.flatten).length ≤ 460 := by rw [List.length_append]; omega
    have : DK.used (keepD s ps) = (s ++ ps.flatten).length := by show 0 + (s ++ ps.flatten).length + 0 = _; omega
    rw [this]
    show ¬ (1048576 : Int) - _ < _
    omega
  have hf : ¬ DK.failB (keepD s ps) = true := fun h => Bool.noConfusion h
  exact ⟨(if_neg (by decide)).trans ((if_neg hf).trans (if_neg hu)), (if_neg (by decide)).trans ((if_neg hf).trans (if_neg hu))⟩
/-- What is there behind a crash: a beginning, each byte as it was or nought. -/
theorem left_get (m : Nat) (t last : Int) (i : Nat) (p : List UInt8) {j : Nat} (hj : j < (DK.left m t last i p).length) : (DK.left m t last i p).getD j 0 = p.getD j 0 ∨ (DK.left m t last i p).getD j 0 = 0 := by
  unfold DK.left at hj ⊢
  split at hj
  · rename_i h
    rw [if_pos h]
    refine .inr ?_
    rw [List.getD_eq_getElem?_getD, List.getElem?_replicate]
    split <;> rfl
  · rename_i h
    rw [if_neg h]
    split at hj
    · rename_i h2
      rw [if_pos h2]
      refine .inl ?_
      rw [List.length_take] at hj
      rw [List.getD_eq_getElem?_getD, List.getD_eq_getElem?_getD, List.getElem?_take_of_lt (by omega)]
    · rename_i h2
      rw [if_neg h2]
      exact .inl rfl
/-- Ahead of the last one that is there, all parts have their lengths. -/
theorem left_full (m : Nat) (t last : Int) (i : Nat) (p : List UInt8) (h : (i : Int) < last) : (DK.left m t last i p).length = p.length := by
  unfold DK.left
  split
  · simp
  · rw [if_neg (by omega)]
theorem lefts_full (m : Nat) (t last : Int) (ps : List (List UInt8)) : ∀ k : Nat, k ≤ ps.length → (k : Int) ≤ last → (DK.lefts m t last ps k).length = (ps.take k).flatten.length
  | 0, _, _ => by simp [DK.lefts]
  | k + 1, h, hk => by
    rw [DK.lefts_succ, DK.take_flat (by omega), List.length_append, List.length_append, lefts_full m t last ps k (by omega) (by omega), left_full _ _ _ _ _ (by omega)]
theorem lefts_get (m : Nat) (t last : Int) (ps : List (List UInt8)) : ∀ k : Nat, k ≤ ps.length → (k : Int) ≤ last + 1 → ∀ j, j < (DK.lefts m t last ps k).length → (DK.lefts m t last ps k).getD j 0 = ps.flatten.getD j 0 ∨ (DK.lefts m t last ps k).getD j 0 = 0
  | 0, _, _, j, hj => by simp [DK.lefts] at hj
  | k + 1, h, hk, j, hj => by
    have hf := lefts_full m t last ps k (by omega) (by omega)
    have hg := lefts_get m t last ps k (by omega) (by omega)
    have hps : ps.flatten = (ps.take k).flatten ++ (ps.getD k [] ++ (ps.drop (k + 1)).flatten) := by
      rw [← List.append_assoc, ← DK.take_flat (by omega), ← List.flatten_append, List.take_append_drop]
    rw [DK.lefts_succ] at hj ⊢
    by_cases h1 : j < (DK.lefts m t last ps k).length
    · have := hg j h1
      simp only [List.getD_eq_getElem?_getD] at this ⊢
      rw [List.getElem?_append_left h1]
      exact this
    · have h2 : j - (DK.lefts m t last ps k).length < (DK.left m t last k (ps.getD k [])).length := by rw [List.length_append] at hj; omega
      have := left_get m t last k (ps.getD k []) h2
      have h3 := DK.left_len m t last k (ps.getD k [])
      have e : ps.flatten.getD j 0 = (ps.getD k []).getD (j - (DK.lefts m t last ps k).length) 0 := by
        simp only [List.getD_eq_getElem?_getD]
        rw [hps, List.getElem?_append_right (by omega), hf, List.getElem?_append_left (by omega)]
        simp only [List.getD_eq_getElem?_getD]
      rw [e]
      simp only [List.getD_eq_getElem?_getD] at this ⊢
      rw [List.getElem?_append_right (by omega)]
      exact this
/-- What is there of a file behind a crash. -/
def keptB (s : List UInt8) (ps : List (List UInt8)) (m : Nat) (t : Int) : List UInt8 := DK.lefts m t (DK.lastOf m ⟨s, ps⟩) ps (DK.lastOf m ⟨s, ps⟩ + 1).toNat
theorem keepD_crash (s : List UInt8) (ps : List (List UInt8)) (m : Nat) (t : Int) : DK.crashD (keepD s ps) m t = keepD (s ++ keptB s ps m t) [] := by
  have e0 : DK.crashF m t ⟨[], []⟩ = ⟨[], []⟩ := rfl
  unfold DK.crashD
  show (⟨DK.crashF m t ⟨[], []⟩, DK.crashF m t ⟨s, ps⟩, DK.crashF m t ⟨[], []⟩, 1048576, -1⟩ : DK.D) = _
  rw [e0]
  rfl
theorem keptB_len (s : List UInt8) (ps : List (List UInt8)) (m : Nat) (t : Int) : (keptB s ps m t).length ≤ ps.flatten.length := by
  have h1 := DK.lastB_le m (min ps.length 64)
  have h2 := DK.lefts_len m t (DK.lastOf m ⟨s, ps⟩) ps (DK.lastOf m ⟨s, ps⟩ + 1).toNat (by unfold DK.lastOf; simp only; omega)
  exact Nat.le_trans h2 (DK.flat_le _)
theorem keptB_get (s : List UInt8) (ps : List (List UInt8)) (m : Nat) (t : Int) {j : Nat} (hj : j < (keptB s ps m t).length) : (keptB s ps m t).getD j 0 = ps.flatten.getD j 0 ∨ (keptB s ps m t).getD j 0 = 0 := by
  have h1 := DK.lastB_le m (min ps.length 64)
  exact lefts_get m t _ ps _ (by unfold DK.lastOf; simp only; omega) (by unfold DK.lastOf; simp only; omega) j hj
theorem keepD_again (s : List UInt8) (m : Nat) (t : Int) : DK.crashD (keepD s []) m t = keepD s [] := by
  rw [keepD_crash]
  have : keptB s [] m t = [] := rfl
  rw [this, List.append_nil]

def Ts20 : Tab := { l := tabL, stop := [20] }
theorem Ts20OK : TabOK Try.prog Ts20.l := tabOK
theorem keeps_does (sure : List UInt8) (l : List (List UInt8)) (mask t : Int) (hm : inr .u64 mask) (ht : inr .i64 t) : Does Try.prog 3 [bytesA sure, sl 1 bytesA l, .int .u64 mask, .int .i64 t] [] [] Yes := by
  rw [inr_u64] at hm
  obtain ⟨m, rfl⟩ : ∃ m : Nat, mask = m := ⟨mask.toNat, by omega⟩
  have hm : m < 18446744073709551616 := by omega
  have c0 : Does Try.prog 9 [.int .i64 1048576] [] [1, 2, 3, 4, 5, 6, 7] (Is (.ptr 1 []) (diskR 1 2 3 4 5 6 7 (keepD [] []))) := newd_does 1048576
  by_cases hs : sure.length ≤ 60
  rotate_left
  · skip
    refine Does.intro (fn := Try.f3) Try.func3 rfl rfl fun Γ hΓ => ?_
    refine W.run TOK 138 hΓ 1000 ?_
    conv => whnf
    refine ⟨?_, ?_⟩
    repeat' first
      | assumption
      | exact Bool.noConfusion hb
      | exact absurd hb (by decide)
      | (exfalso; omega)
      | (exfalso; simp at hb; done)
      | (refine W.retY TOK rfl rfl ⟨?_, ?_⟩)
      | (refine W.branch rfl (fun hb => ?_) (fun hb => ?_) <;> ((try simp only [decide_eq_true_eq, decide_eq_false_iff_not, Bool.not_eq_true', Bool.not_eq_false', Int.not_lt, Int.not_le, cond_true, cond_false, reduceCtorEq, Int.toNat_natCast, Int.reduceToNat, addI] at hb); (try replace hb := of_decide_eq_true hb); (try replace hb := of_decide_eq_false hb)))
      | (refine D.branch rfl (fun hb => ?_) (fun hb => ?_) <;> ((try simp only [decide_eq_true_eq, decide_eq_false_iff_not, Bool.not_eq_true', Bool.not_eq_false', Int.not_lt, Int.not_le, cond_true, cond_false, reduceCtorEq, Int.toNat_natCast, Int.reduceToNat, addI] at hb); (try replace hb := of_decide_eq_true hb); (try replace hb := of_decide_eq_false hb)))
      | ((first | (refine D.callA (known_does) rfl rfl rfl rfl hΓ rfl ?_; (conv => whnf); refine ⟨rfl, rfl, rfl, ?_, ?_, ?_, ?_⟩) | (refine W.callA (known_does) rfl rfl rfl rfl hΓ rfl ?_; (conv => whnf); refine ⟨rfl, rfl, ?_, ?_, ?_, ?_⟩)); iterate 3 (focus ((repeat' apply And.intro) <;> first | exact trivial | (intro i _; rw [Nat.zero_add]; exact A.sim.refl _) | with_reducible exact rfl | exact fun _ _ => A.sim.refl _ | exact A.sim.refl _ | exact rfl | exact Nat.le_refl _ | omega | exact fun i _ => shift_sim _ _ i | exact fun _ _ => trivial | exact fun _ h => absurd h (Nat.not_lt_zero _))); (conv => whnf))
      | (refine W.go TOK 138 hΓ 1000 rfl ?_; (conv => whnf); refine ⟨?_, ?_⟩)
      | (refine D.go TOK 138 hΓ 1000 rfl ?_; (conv => whnf); refine ⟨?_, ?_⟩)
      | (refine W.drawn rfl rfl ?_; refine D.run TOK 138 hΓ 1000 ?_; (conv => whnf); refine ⟨?_, ?_⟩)
    all_goals (repeat' apply And.intro)
    all_goals try (first
      | exact trivial
      | exact rfl
      | exact fun _ _ => A.sim.refl _
      | exact A.sim.refl _
      | exact Nat.le_refl _
      | omega
      | exact fun _ _ => trivial
      | exact fun i _ => shift_sim _ _ i
      | exact fun _ h => absurd h (Nat.not_lt_zero _)
      | exact fun i _ => isInt_byteAt _ i
      | (simp only [allP, List.nil_append, List.append_nil, List.cons_append, List.append_eq, and_true, true_and, inr_i64, inr_u8, inr_u64, min_i64, max_i64, min_u64, max_u64, min_u8, max_u8, A.purePL, A.pureP, A.sureP, A.surePL, Int.toNat_natCast, Int.reduceToNat, addI, cHi, cLo, hiN, loN, subO, addO, hasIdx, cond_true, cond_false]; first | done | omega | ((repeat' apply And.intro) <;> first | exact trivial | rfl | omega | decide))
      )
  by_cases hl20 : l.length ≤ 20
  rotate_left
  · skip
    refine Does.intro (fn := Try.f3) Try.func3 rfl rfl fun Γ hΓ => ?_
    refine W.run TOK 138 hΓ 1000 ?_
    conv => whnf
    refine ⟨?_, ?_⟩
    repeat' first
      | assumption
      | exact Bool.noConfusion hb
      | exact absurd hb (by decide)
      | (exfalso; omega)
      | (exfalso; simp at hb; done)
      | (refine W.retY TOK rfl rfl ⟨?_, ?_⟩)
      | (refine W.branch rfl (fun hb => ?_) (fun hb => ?_) <;> ((try simp only [decide_eq_true_eq, decide_eq_false_iff_not, Bool.not_eq_true', Bool.not_eq_false', Int.not_lt, Int.not_le, cond_true, cond_false, reduceCtorEq, Int.toNat_natCast, Int.reduceToNat, addI] at hb); (try replace hb := of_decide_eq_true hb); (try replace hb := of_decide_eq_false hb)))
      | (refine D.branch rfl (fun hb => ?_) (fun hb => ?_) <;> ((try simp only [decide_eq_true_eq, decide_eq_false_iff_not, Bool.not_eq_true', Bool.not_eq_false', Int.not_lt, Int.not_le, cond_true, cond_false, reduceCtorEq, Int.toNat_natCast, Int.reduceToNat, addI] at hb); (try replace hb := of_decide_eq_true hb); (try replace hb := of_decide_eq_false hb)))
      | ((first | (refine D.callA (known_does) rfl rfl rfl rfl hΓ rfl ?_; (conv => whnf); refine ⟨rfl, rfl, rfl, ?_, ?_, ?_, ?_⟩) | (refine W.callA (known_does) rfl rfl rfl rfl hΓ rfl ?_; (conv => whnf); refine ⟨rfl, rfl, ?_, ?_, ?_, ?_⟩)); iterate 3 (focus ((repeat' apply And.intro) <;> first | exact trivial | (intro i _; rw [Nat.zero_add]; exact A.sim.refl _) | with_reducible exact rfl | exact fun _ _ => A.sim.refl _ | exact A.sim.refl _ | exact rfl | exact Nat.le_refl _ | omega | exact fun i _ => shift_sim _ _ i | exact fun _ _ => trivial | exact fun _ h => absurd h (Nat.not_lt_zero _))); (conv => whnf))
      | (refine W.go TOK 138 hΓ 1000 rfl ?_; (conv => whnf); refine ⟨?_, ?_⟩)
      | (refine D.go TOK 138 hΓ 1000 rfl ?_; (conv => whnf); refine ⟨?_, ?_⟩)
      | (refine W.drawn rfl rfl ?_; refine D.run TOK 138 hΓ 1000 ?_; (conv => whnf); refine ⟨?_, ?_⟩)
    all_goals (repeat' apply And.intro)
    all_goals try (first
      | exact trivial
      | exact rfl
      | exact fun _ _ => A.sim.refl _
      | exact A.sim.refl _
      | exact Nat.le_refl _
      | omega
      | exact fun _ _ => trivial
      | exact fun i _ => shift_sim _ _ i
      | exact fun _ h => absurd h (Nat.not_lt_zero _)
      | exact fun i _ => isInt_byteAt _ i
      | (simp only [allP, List.nil_append, List.append_nil, List.cons_append, List.append_eq, and_true, true_and, inr_i64, inr_u8, inr_u64, min_i64, max_i64, min_u64, max_u64, min_u8, max_u8, A.purePL, A.pureP, A.sureP, A.surePL, Int.toNat_natCast, Int.reduceToNat, addI, cHi, cLo, hiN, loN, subO, addO, hasIdx, cond_true, cond_false]; first | done | omega | ((repeat' apply And.intro) <;> first | exact trivial | rfl | omega | decide))
      )
  have ok0 : DK.Ok (keepD [] []) := keepD_ok (Nat.zero_le _) (Nat.zero_le _) (fun _ h => by cases h)
  have a0 := keepD_app (s := []) (ps := []) sure (Nat.zero_le _) (Nat.zero_le _) (fun _ h => by cases h) hs
  have c1 := append_does (keepD [] []) 1 sure ok0 (by omega)
  rw [a0.1, a0.2, List.nil_append] at c1
  have ok1 : DK.Ok (keepD [] [sure]) := by
    have hb : (DK.F.b ⟨[], [sure]⟩).length ≤ 60 := by show ([] ++ (sure ++ [])).length ≤ 60; simpa using hs
    exact ⟨by simp [keepD], by simp [keepD], by simp [keepD], by simp [keepD], Nat.zero_le _, Nat.le_trans hb (by decide), Nat.zero_le _, Nat.zero_le _, by simp [keepD], Nat.zero_le _⟩
  have c2 := sync_does (keepD [] [sure]) 1 ok1
  rw [show DK.syncE (keepD [] [sure]) 1 = 0 from rfl, show DK.syncD (keepD [] [sure]) 1 = keepD sure [] by
    show keepD ([] ++ (sure ++ [])) [] = _
    rw [List.nil_append, List.append_nil]] at c2
  refine Does.intro (fn := Try.f3) Try.func3 rfl rfl fun Γ hΓ => ?_
  refine W.run TOK 138 hΓ 1000 ?_
  conv => whnf
  refine ⟨?_, ?_⟩
  repeat' first
    | assumption
    | exact Bool.noConfusion hb
    | exact absurd hb (by decide)
    | (exfalso; omega)
    | (exfalso; simp at hb; done)
    | (refine W.retY TOK rfl rfl ⟨?_, ?_⟩)
    | (refine W.branch rfl (fun hb => ?_) (fun hb => ?_) <;> ((try simp only [decide_eq_true_eq, decide_eq_false_iff_not, Bool.not_eq_true', Bool.not_eq_false', Int.not_lt, Int.not_le, cond_true, cond_false, reduceCtorEq, Int.toNat_natCast, Int.reduceToNat, addI] at hb); (try replace hb := of_decide_eq_true hb); (try replace hb := of_decide_eq_false hb)))
    | (refine D.branch rfl (fun hb => ?_) (fun hb => ?_) <;> ((try simp only [decide_eq_true_eq, decide_eq_false_iff_not, Bool.not_eq_true', Bool.not_eq_false', Int.not_lt, Int.not_le, cond_true, cond_false, reduceCtorEq, Int.toNat_natCast, Int.reduceToNat, addI] at hb); (try replace hb := of_decide_eq_true hb); (try replace hb := of_decide_eq_false hb)))
    | ((first | (refine D.callA (known_does) rfl rfl rfl rfl hΓ rfl ?_; (conv => whnf); refine ⟨rfl, rfl, rfl, ?_, ?_, ?_, ?_⟩) | (refine W.callA (known_does) rfl rfl rfl rfl hΓ rfl ?_; (conv => whnf); refine ⟨rfl, rfl, ?_, ?_, ?_, ?_⟩)); iterate 3 (focus ((repeat' apply And.intro) <;> first | exact trivial | (intro i _; rw [Nat.zero_add]; exact A.sim.refl _) | with_reducible exact rfl | exact fun _ _ => A.sim.refl _ | exact A.sim.refl _ | exact rfl | exact Nat.le_refl _ | omega | exact fun i _ => shift_sim _ _ i | exact fun _ _ => trivial | exact fun _ h => absurd h (Nat.not_lt_zero _) | exact ⟨rfl, rfl⟩)); (conv => whnf))
    | ((first | (refine D.callA (c0) rfl rfl rfl rfl hΓ rfl ?_; (conv => whnf); refine ⟨rfl, rfl, rfl, ?_, ?_, ?_, ?_⟩) | (refine W.callA (c0) rfl rfl rfl rfl hΓ rfl ?_; (conv => whnf); refine ⟨rfl, rfl, ?_, ?_, ?_, ?_⟩)); iterate 3 (focus ((repeat' apply And.intro) <;> first | exact trivial | (intro i _; rw [Nat.zero_add]; exact A.sim.refl _) | with_reducible exact rfl | exact fun _ _ => A.sim.refl _ | exact A.sim.refl _ | exact rfl | exact Nat.le_refl _ | omega | exact fun i _ => shift_sim _ _ i | exact fun _ _ => trivial | exact fun _ h => absurd h (Nat.not_lt_zero _) | exact ⟨rfl, rfl⟩)); (conv => whnf))
    | ((first | (refine D.callA (c1) rfl rfl rfl rfl hΓ rfl ?_; (conv => whnf); refine ⟨rfl, rfl, rfl, ?_, ?_, ?_, ?_⟩) | (refine W.callA (c1) rfl rfl rfl rfl hΓ rfl ?_; (conv => whnf); refine ⟨rfl, rfl, ?_, ?_, ?_, ?_⟩)); iterate 3 (focus ((repeat' apply And.intro) <;> first | exact trivial | (intro i _; rw [Nat.zero_add]; exact A.sim.refl _) | with_reducible exact rfl | exact fun _ _ => A.sim.refl _ | exact A.sim.refl _ | exact rfl | exact Nat.le_refl _ | omega | exact fun i _ => shift_sim _ _ i | exact fun _ _ => trivial | exact fun _ h => absurd h (Nat.not_lt_zero _) | exact ⟨rfl, rfl⟩)); (conv => whnf))
    | ((first | (refine D.callA (c2) rfl rfl rfl rfl hΓ rfl ?_; (conv => whnf); refine ⟨rfl, rfl, rfl, ?_, ?_, ?_, ?_⟩) | (refine W.callA (c2) rfl rfl rfl rfl hΓ rfl ?_; (conv => whnf); refine ⟨rfl, rfl, ?_, ?_, ?_, ?_⟩)); iterate 3 (focus ((repeat' apply And.intro) <;> first | exact trivial | (intro i _; rw [Nat.zero_add]; exact A.sim.refl _) | with_reducible exact rfl | exact fun _ _ => A.sim.refl _ | exact A.sim.refl _ | exact rfl | exact Nat.le_refl _ | omega | exact fun i _ => shift_sim _ _ i | exact fun _ _ => trivial | exact fun _ h => absurd h (Nat.not_lt_zero _) | exact ⟨rfl, rfl⟩)); (conv => whnf))
    | (refine W.go TOK 138 hΓ 1000 rfl ?_; (conv => whnf); refine ⟨?_, ?_⟩)
    | (refine D.go TOK 138 hΓ 1000 rfl ?_; (conv => whnf); refine ⟨?_, ?_⟩)
    | (refine W.drawn rfl rfl ?_; refine D.run TOK 138 hΓ 1000 ?_; (conv => whnf); refine ⟨?_, ?_⟩)
  all_goals (repeat' apply And.intro)
  all_goals try (first
    | exact trivial
    | exact rfl
    | exact fun _ _ => A.sim.refl _
    | exact A.sim.refl _
    | exact Nat.le_refl _
    | omega
    | exact fun _ _ => trivial
    | exact fun i _ => shift_sim _ _ i
    | exact fun _ h => absurd h (Nat.not_lt_zero _)
    | exact fun i _ => isInt_byteAt _ i
    | (simp only [allP, List.nil_append, List.append_nil, List.cons_append, List.append_eq, and_true, true_and, inr_i64, inr_u8, inr_u64, min_i64, max_i64, min_u64, max_u64, min_u8, max_u8, A.purePL, A.pureP, A.sureP, A.surePL, Int.toNat_natCast, Int.reduceToNat, addI, cHi, cLo, hiN, loN, subO, addO, hasIdx, cond_true, cond_false]; first | done | omega | ((repeat' apply And.intro) <;> first | exact trivial | rfl | omega | decide))
    )
  refine W.loopA (Nat) (fun i => i ≤ l.length ∧ ∀ p ∈ l.take i, p.length ≤ 20) (fun i => l.length - i) (fun i => [(9, .ptr 700 []), (10, .own 1 710 0 (sure ++ (l.take i).flatten).length), (11, .int .i64 i)]) (fun i => (710, some (.arr 1 (sure ++ (l.take i).flatten).length (byteAt (sure ++ (l.take i).flatten)))) :: diskR 700 701 702 703 704 705 706 (keepD sure (l.take i))) [] (0) (⟨Nat.zero_le _, fun p h => by simp at h⟩) ?_
  (conv => whnf); refine ⟨?_, ?_⟩; focus ((conv => whnf); refine ⟨rfl, rfl, rfl, rfl, rfl, rfl, ?_, ?_⟩; iterate 2 (focus ((repeat' apply And.intro) <;> first | exact trivial | (intro i _; rw [Nat.zero_add]; exact A.sim.refl _) | with_reducible exact rfl | exact fun _ _ => A.sim.refl _ | exact A.sim.refl _ | exact rfl | exact Nat.le_refl _ | omega | exact fun i _ => shift_sim _ _ i | exact fun _ _ => trivial | exact fun _ h => absurd h (Nat.not_lt_zero _) | exact ⟨rfl, rfl⟩ | exact (congrArg List.length (List.append_nil sure)).symm | exact Nat.le_of_eq (congrArg List.length (List.append_nil sure)) | exact sim_eq (List.append_nil sure).symm)))
  rintro i ⟨hi, hp⟩ ih
  have htl : (l.take i).length ≤ 20 := by rw [List.length_take]; omega
  have hok := keepD_ok hs htl hp
  have hfl := flat_len hp
  have hfm : (l.take i).length * 20 ≤ 400 := by omega
  have hal : (sure ++ (l.take i).flatten).length ≤ 460 := by rw [List.length_append]; omega
  by_cases hil : i < l.length
  · by_cases hx : (l.getD i []).length ≤ 20
    · have hmem : ∀ p ∈ l.take (i + 1), p.length ≤ 20 := by
        rw [List.take_succ_eq_append_getElem hil]
        intro p h
        rcases List.mem_append.1 h with h | h
        · exact hp p h
        · rw [List.mem_singleton] at h
          subst h
          simpa [List.getD_eq_getElem?_getD, List.getElem?_eq_getElem hil] using hx
      have e1 : l.take (i + 1) = l.take i ++ [l.getD i []] := by
        rw [List.take_succ_eq_append_getElem hil]
        simp [List.getD_eq_getElem?_getD, List.getElem?_eq_getElem hil]
      have e2 : sure ++ (l.take (i + 1)).flatten = (sure ++ (l.take i).flatten) ++ l.getD i [] := by
        rw [e1, List.flatten_append, List.append_assoc]; simp
      have ap := keepD_app (s := sure) (ps := l.take i) (l.getD i []) hs htl hp (by omega)
      have ca := append_does (keepD sure (l.take i)) 1 (l.getD i []) hok (by omega)
      rw [ap.1, ap.2, ← e1] at ca
      have hq1 : (sure ++ (l.take (i + 1)).flatten).length = (sure ++ (l.take i).flatten).length + (l.getD i []).length := by rw [e2, List.length_append]
      have hq2 : ∀ j, j < (sure ++ (l.take (i + 1)).flatten).length → (catF (sure ++ (l.take i).flatten).length (byteAt (sure ++ (l.take i).flatten)) (byteAt (l.getD i [])) j).sim (byteAt (sure ++ (l.take (i + 1)).flatten) j) := fun j _ => A.sim.of (by rw [e2, cat_fun rfl])
      repeat' first
        | assumption
        | exact Bool.noConfusion hb
        | exact absurd hb (by decide)
        | (exfalso; omega)
        | (exfalso; simp at hb; done)
        | (refine W.toA (ih (i + 1) ?_ ?_) ?_; rotate_left 2; (conv => whnf); refine ⟨rfl, rfl, rfl, rfl, rfl, rfl, ?_, ?_⟩; iterate 2 (focus ((repeat' apply And.intro) <;> first | exact trivial | (intro i _; rw [Nat.zero_add]; exact A.sim.refl _) | with_reducible exact rfl | exact fun _ _ => A.sim.refl _ | exact A.sim.refl _ | exact rfl | exact Nat.le_refl _ | omega | exact fun i _ => shift_sim _ _ i | exact fun _ _ => trivial | exact fun _ h => absurd h (Nat.not_lt_zero _) | exact hq1 | exact hq1.symm | exact Nat.le_of_eq hq1 | exact hq2 | exact ⟨rfl, rfl⟩)))
        | (refine W.retY TOK rfl rfl ⟨?_, ?_⟩)
        | (refine W.branch rfl (fun hb => ?_) (fun hb => ?_) <;> ((try simp only [decide_eq_true_eq, decide_eq_false_iff_not, Bool.not_eq_true', Bool.not_eq_false', Int.not_lt, Int.not_le, cond_true, cond_false, reduceCtorEq, Int.toNat_natCast, Int.reduceToNat, addI] at hb); (try replace hb := of_decide_eq_true hb); (try replace hb := of_decide_eq_false hb)))
        | (refine D.branch rfl (fun hb => ?_) (fun hb => ?_) <;> ((try simp only [decide_eq_true_eq, decide_eq_false_iff_not, Bool.not_eq_true', Bool.not_eq_false', Int.not_lt, Int.not_le, cond_true, cond_false, reduceCtorEq, Int.toNat_natCast, Int.reduceToNat, addI] at hb); (try replace hb := of_decide_eq_true hb); (try replace hb := of_decide_eq_false hb)))
        | ((first | (refine D.callA (ca) rfl rfl rfl rfl hΓ rfl ?_; (conv => whnf); refine ⟨rfl, rfl, rfl, ?_, ?_, ?_, ?_⟩) | (refine W.callA (ca) rfl rfl rfl rfl hΓ rfl ?_; (conv => whnf); refine ⟨rfl, rfl, ?_, ?_, ?_, ?_⟩)); iterate 3 (focus ((repeat' apply And.intro) <;> first | exact trivial | (intro i _; rw [Nat.zero_add]; exact A.sim.refl _) | with_reducible exact rfl | exact fun _ _ => A.sim.refl _ | exact A.sim.refl _ | exact rfl | exact Nat.le_refl _ | omega | exact fun i _ => shift_sim _ _ i | exact fun _ _ => trivial | exact fun _ h => absurd h (Nat.not_lt_zero _) | exact hq1 | exact hq1.symm | exact Nat.le_of_eq hq1 | exact hq2 | exact ⟨rfl, rfl⟩)); (conv => whnf))
        | (refine W.go TOK 138 hΓ 1000 rfl ?_; (conv => whnf); refine ⟨?_, ?_⟩)
        | (refine D.go TOK 138 hΓ 1000 rfl ?_; (conv => whnf); refine ⟨?_, ?_⟩)
        | (refine W.drawn rfl rfl ?_; refine D.run TOK 138 hΓ 1000 ?_; (conv => whnf); refine ⟨?_, ?_⟩)
      all_goals (repeat' apply And.intro)
      all_goals try (first
        | exact trivial
        | exact rfl
        | exact fun _ _ => A.sim.refl _
        | exact A.sim.refl _
        | exact Nat.le_refl _
        | omega
        | exact fun _ _ => trivial
        | exact fun i _ => shift_sim _ _ i
        | exact fun _ h => absurd h (Nat.not_lt_zero _)
        | exact fun i _ => isInt_byteAt _ i
        | exact ⟨hil, hmem⟩
        | (simp only [allP, List.nil_append, List.append_nil, List.cons_append, List.append_eq, and_true, true_and, inr_i64, inr_u8, inr_u64, min_i64, max_i64, min_u64, max_u64, min_u8, max_u8, A.purePL, A.pureP, A.sureP, A.surePL, Int.toNat_natCast, Int.reduceToNat, addI, cHi, cLo, hiN, loN, subO, addO, hasIdx, cond_true, cond_false]; first | done | omega | ((repeat' apply And.intro) <;> first | exact trivial | rfl | omega | decide))
        )
    · skip
      repeat' first
        | assumption
        | exact Bool.noConfusion hb
        | exact absurd hb (by decide)
        | (exfalso; omega)
        | (exfalso; simp at hb; done)
        | (exfalso; have hb2 : ((l.getD i []).length : Int) ≤ 20 := hb; omega)
        | (refine W.retY TOK rfl rfl ⟨?_, ?_⟩)
        | (refine W.branch rfl (fun hb => ?_) (fun hb => ?_) <;> ((try simp only [decide_eq_true_eq, decide_eq_false_iff_not, Bool.not_eq_true', Bool.not_eq_false', Int.not_lt, Int.not_le, cond_true, cond_false, reduceCtorEq, Int.toNat_natCast, Int.reduceToNat, addI] at hb); (try replace hb := of_decide_eq_true hb); (try replace hb := of_decide_eq_false hb)))
        | (refine D.branch rfl (fun hb => ?_) (fun hb => ?_) <;> ((try simp only [decide_eq_true_eq, decide_eq_false_iff_not, Bool.not_eq_true', Bool.not_eq_false', Int.not_lt, Int.not_le, cond_true, cond_false, reduceCtorEq, Int.toNat_natCast, Int.reduceToNat, addI] at hb); (try replace hb := of_decide_eq_true hb); (try replace hb := of_decide_eq_false hb)))
        | (refine W.go TOK 138 hΓ 1000 rfl ?_; (conv => whnf); refine ⟨?_, ?_⟩)
        | (refine D.go TOK 138 hΓ 1000 rfl ?_; (conv => whnf); refine ⟨?_, ?_⟩)
        | (refine W.drawn rfl rfl ?_; refine D.run TOK 138 hΓ 1000 ?_; (conv => whnf); refine ⟨?_, ?_⟩)
      all_goals (repeat' apply And.intro)
      all_goals try (first
        | exact trivial
        | exact rfl
        | exact fun _ _ => A.sim.refl _
        | exact A.sim.refl _
        | exact Nat.le_refl _
        | omega
        | exact fun _ _ => trivial
        | exact fun i _ => shift_sim _ _ i
        | exact fun _ h => absurd h (Nat.not_lt_zero _)
        | exact fun i _ => isInt_byteAt _ i
        | (simp only [allP, List.nil_append, List.append_nil, List.cons_append, List.append_eq, and_true, true_and, inr_i64, inr_u8, inr_u64, min_i64, max_i64, min_u64, max_u64, min_u8, max_u8, A.purePL, A.pureP, A.sureP, A.surePL, Int.toNat_natCast, Int.reduceToNat, addI, cHi, cLo, hiN, loN, subO, addO, hasIdx, cond_true, cond_false]; first | done | omega | ((repeat' apply And.intro) <;> first | exact trivial | rfl | omega | decide))
        )
  · have hie : l.take i = l := List.take_of_length_le (by omega)
    rw [hie] at hp hok hfl hfm hal ⊢
    clear ih
    have hkl := keptB_len sure l m t
    have cc := crash_does (keepD sure l) m t hm hok
    rw [keepD_crash] at cc
    have hkg := fun {j : Nat} (hj : j < (keptB sure l m t).length) => keptB_get sure l m t hj
    obtain ⟨K, hK⟩ : ∃ K, K = keptB sure l m t := ⟨_, rfl⟩
    rw [← hK] at cc hkl hkg
    have hok2 : DK.Ok (keepD (sure ++ K) []) := by
      have hb : (DK.F.b ⟨sure ++ K, []⟩).length ≤ 460 := by show ((sure ++ K) ++ []).length ≤ 460; rw [List.append_nil, List.length_append]; omega
      exact ⟨by simp [keepD], by simp [keepD], by simp [keepD], by simp [keepD], Nat.zero_le _, Nat.le_trans hb (by decide), Nat.zero_le _, Nat.zero_le _, by simp [keepD], Nat.zero_le _⟩
    have cd := crash_does (keepD (sure ++ K) []) m t hm hok2
    rw [keepD_again] at cd
    have cr := read_does (keepD sure l) 1 hok
    have cs := sure_does (keepD sure l) 1
    have cr2 := read_does (keepD (sure ++ K) []) 1 hok2
    rw [show DK.readS (keepD (sure ++ K) []) 1 = sure ++ K from List.append_nil _] at cr2
    have cs2 := sure_does (keepD (sure ++ K) []) 1
    have hl1 : (sure ++ K).length = sure.length + K.length := List.length_append
    have hl2 : (sure ++ l.flatten).length = sure.length + l.flatten.length := List.length_append
    have hpre : bytesOf sure.length (byteAt (sure ++ K)) = bytesOf sure.length (byteAt sure) := by
      rw [bytes_take (by omega), List.take_left, bytes_fun rfl]
    repeat' first
      | assumption
      | exact Bool.noConfusion hb
      | exact absurd hb (by decide)
      | (exfalso; omega)
      | exact absurd hpre hb
      | (exfalso; simp at hb; done)
      | exact absurd rfl hb
      | (refine W.retY TOK rfl rfl ⟨?_, ?_⟩)
      | (refine W.branch rfl (fun hb => ?_) (fun hb => ?_) <;> ((try simp only [decide_eq_true_eq, decide_eq_false_iff_not, Bool.not_eq_true', Bool.not_eq_false', Int.not_lt, Int.not_le, cond_true, cond_false, reduceCtorEq, Int.toNat_natCast, Int.reduceToNat, addI] at hb); (try replace hb := of_decide_eq_true hb); (try replace hb := of_decide_eq_false hb)))
      | (refine D.branch rfl (fun hb => ?_) (fun hb => ?_) <;> ((try simp only [decide_eq_true_eq, decide_eq_false_iff_not, Bool.not_eq_true', Bool.not_eq_false', Int.not_lt, Int.not_le, cond_true, cond_false, reduceCtorEq, Int.toNat_natCast, Int.reduceToNat, addI] at hb); (try replace hb := of_decide_eq_true hb); (try replace hb := of_decide_eq_false hb)))
      | (refine D.callAR (cr) rfl rfl rfl rfl hΓ rfl ?_; (conv => whnf); refine ⟨rfl, rfl, rfl, rfl, ?_, ?_, ?_, ?_, ?_⟩; iterate 4 (focus ((repeat' apply And.intro) <;> first | exact trivial | (intro i _; rw [Nat.zero_add]; exact A.sim.refl _) | with_reducible exact rfl | exact fun _ _ => A.sim.refl _ | exact A.sim.refl _ | exact rfl | exact Nat.le_refl _ | omega | exact fun i _ => shift_sim _ _ i | exact fun _ _ => trivial | exact fun _ h => absurd h (Nat.not_lt_zero _) | exact ⟨rfl, rfl⟩)); (conv => whnf))
      | (refine W.callA (cr) rfl rfl rfl rfl hΓ rfl ?_; (conv => whnf); refine ⟨rfl, rfl, ?_, ?_, ?_, ?_⟩; iterate 3 (focus ((repeat' apply And.intro) <;> first | exact trivial | (intro i _; rw [Nat.zero_add]; exact A.sim.refl _) | with_reducible exact rfl | exact fun _ _ => A.sim.refl _ | exact A.sim.refl _ | exact rfl | exact Nat.le_refl _ | omega | exact fun i _ => shift_sim _ _ i | exact fun _ _ => trivial | exact fun _ h => absurd h (Nat.not_lt_zero _) | exact ⟨rfl, rfl⟩)); (conv => whnf))
      | (refine D.callAR (cs) rfl rfl rfl rfl hΓ rfl ?_; (conv => whnf); refine ⟨rfl, rfl, rfl, rfl, ?_, ?_, ?_, ?_, ?_⟩; iterate 4 (focus ((repeat' apply And.intro) <;> first | exact trivial | (intro i _; rw [Nat.zero_add]; exact A.sim.refl _) | with_reducible exact rfl | exact fun _ _ => A.sim.refl _ | exact A.sim.refl _ | exact rfl | exact Nat.le_refl _ | omega | exact fun i _ => shift_sim _ _ i | exact fun _ _ => trivial | exact fun _ h => absurd h (Nat.not_lt_zero _) | exact ⟨rfl, rfl⟩)); (conv => whnf))
      | (refine W.callA (cs) rfl rfl rfl rfl hΓ rfl ?_; (conv => whnf); refine ⟨rfl, rfl, ?_, ?_, ?_, ?_⟩; iterate 3 (focus ((repeat' apply And.intro) <;> first | exact trivial | (intro i _; rw [Nat.zero_add]; exact A.sim.refl _) | with_reducible exact rfl | exact fun _ _ => A.sim.refl _ | exact A.sim.refl _ | exact rfl | exact Nat.le_refl _ | omega | exact fun i _ => shift_sim _ _ i | exact fun _ _ => trivial | exact fun _ h => absurd h (Nat.not_lt_zero _) | exact ⟨rfl, rfl⟩)); (conv => whnf))
      | ((first | (refine D.callA (cc) rfl rfl rfl rfl hΓ rfl ?_; (conv => whnf); refine ⟨rfl, rfl, rfl, ?_, ?_, ?_, ?_⟩) | (refine W.callA (cc) rfl rfl rfl rfl hΓ rfl ?_; (conv => whnf); refine ⟨rfl, rfl, ?_, ?_, ?_, ?_⟩)); iterate 3 (focus ((repeat' apply And.intro) <;> first | exact trivial | (intro i _; rw [Nat.zero_add]; exact A.sim.refl _) | with_reducible exact rfl | exact fun _ _ => A.sim.refl _ | exact A.sim.refl _ | exact rfl | exact Nat.le_refl _ | omega | exact fun i _ => shift_sim _ _ i | exact fun _ _ => trivial | exact fun _ h => absurd h (Nat.not_lt_zero _) | exact ⟨rfl, rfl⟩)); (conv => whnf))
      | (refine D.callAR (cr2) rfl rfl rfl rfl hΓ rfl ?_; (conv => whnf); refine ⟨rfl, rfl, rfl, rfl, ?_, ?_, ?_, ?_, ?_⟩; iterate 4 (focus ((repeat' apply And.intro) <;> first | exact trivial | (intro i _; rw [Nat.zero_add]; exact A.sim.refl _) | with_reducible exact rfl | exact fun _ _ => A.sim.refl _ | exact A.sim.refl _ | exact rfl | exact Nat.le_refl _ | omega | exact fun i _ => shift_sim _ _ i | exact fun _ _ => trivial | exact fun _ h => absurd h (Nat.not_lt_zero _) | exact ⟨rfl, rfl⟩)); (conv => whnf))
      | (refine W.callA (cr2) rfl rfl rfl rfl hΓ rfl ?_; (conv => whnf); refine ⟨rfl, rfl, ?_, ?_, ?_, ?_⟩; iterate 3 (focus ((repeat' apply And.intro) <;> first | exact trivial | (intro i _; rw [Nat.zero_add]; exact A.sim.refl _) | with_reducible exact rfl | exact fun _ _ => A.sim.refl _ | exact A.sim.refl _ | exact rfl | exact Nat.le_refl _ | omega | exact fun i _ => shift_sim _ _ i | exact fun _ _ => trivial | exact fun _ h => absurd h (Nat.not_lt_zero _) | exact ⟨rfl, rfl⟩)); (conv => whnf))
      | (refine D.callAR (cs2) rfl rfl rfl rfl hΓ rfl ?_; (conv => whnf); refine ⟨rfl, rfl, rfl, rfl, ?_, ?_, ?_, ?_, ?_⟩; iterate 4 (focus ((repeat' apply And.intro) <;> first | exact trivial | (intro i _; rw [Nat.zero_add]; exact A.sim.refl _) | with_reducible exact rfl | exact fun _ _ => A.sim.refl _ | exact A.sim.refl _ | exact rfl | exact Nat.le_refl _ | omega | exact fun i _ => shift_sim _ _ i | exact fun _ _ => trivial | exact fun _ h => absurd h (Nat.not_lt_zero _) | exact ⟨rfl, rfl⟩)); (conv => whnf))
      | (refine W.callA (cs2) rfl rfl rfl rfl hΓ rfl ?_; (conv => whnf); refine ⟨rfl, rfl, ?_, ?_, ?_, ?_⟩; iterate 3 (focus ((repeat' apply And.intro) <;> first | exact trivial | (intro i _; rw [Nat.zero_add]; exact A.sim.refl _) | with_reducible exact rfl | exact fun _ _ => A.sim.refl _ | exact A.sim.refl _ | exact rfl | exact Nat.le_refl _ | omega | exact fun i _ => shift_sim _ _ i | exact fun _ _ => trivial | exact fun _ h => absurd h (Nat.not_lt_zero _) | exact ⟨rfl, rfl⟩)); (conv => whnf))
      | (refine W.go TOK 138 hΓ 1000 rfl ?_; (conv => whnf); refine ⟨?_, ?_⟩)
      | (refine D.go TOK 138 hΓ 1000 rfl ?_; (conv => whnf); refine ⟨?_, ?_⟩)
      | (refine W.drawn rfl rfl ?_; refine D.run TOK 138 hΓ 1000 ?_; (conv => whnf); refine ⟨?_, ?_⟩)
    all_goals (repeat' apply And.intro)
    all_goals try (first
      | exact trivial
      | exact rfl
      | exact fun _ _ => A.sim.refl _
      | exact A.sim.refl _
      | exact Nat.le_refl _
      | omega
      | exact fun _ _ => trivial
      | exact fun i _ => shift_sim _ _ i
      | exact fun _ h => absurd h (Nat.not_lt_zero _)
      | exact fun i _ => isInt_byteAt _ i
      | (intro i _; exact isInt_byteAt _ _)
      | (simp only [allP, List.nil_append, List.append_nil, List.cons_append, List.append_eq, and_true, true_and, inr_i64, inr_u8, inr_u64, min_i64, max_i64, min_u64, max_u64, min_u8, max_u8, A.purePL, A.pureP, A.sureP, A.surePL, Int.toNat_natCast, Int.reduceToNat, addI, cHi, cLo, hiN, loN, subO, addO, hasIdx, cond_true, cond_false]; first | done | omega | ((repeat' apply And.intro) <;> first | exact trivial | rfl | omega | decide))
      )
    refine W.loopA (Nat) (fun j => sure.length ≤ j ∧ j ≤ (sure ++ K).length) (fun j => (sure ++ K).length - j) (fun j => [(13, .int .i64 j)]) (fun _ => []) [] (sure.length) (⟨Nat.le_refl _, by omega⟩) ?_
    (conv => whnf); refine ⟨?_, ?_⟩; focus ((conv => whnf); refine ⟨rfl, rfl, rfl, rfl, rfl, rfl, ?_, ?_⟩; iterate 2 (focus ((repeat' apply And.intro) <;> first | exact trivial | (intro i _; rw [Nat.zero_add]; exact A.sim.refl _) | with_reducible exact rfl | exact fun _ _ => A.sim.refl _ | exact A.sim.refl _ | exact rfl | exact Nat.le_refl _ | omega | exact fun i _ => shift_sim _ _ i | exact fun _ _ => trivial | exact fun _ h => absurd h (Nat.not_lt_zero _) | exact ⟨rfl, rfl⟩)))
    rintro j ⟨hj1, hj2⟩ ih
    by_cases hjl : j < (sure ++ K).length
    · have hg := hkg (j := j - sure.length) (by omega)
      have e1 : (sure ++ K).getD j 0 = K.getD (j - sure.length) 0 := by
        simp only [List.getD_eq_getElem?_getD]; rw [List.getElem?_append_right hj1]
      have e2 : (sure ++ l.flatten).getD j 0 = l.flatten.getD (j - sure.length) 0 := by
        simp only [List.getD_eq_getElem?_getD]; rw [List.getElem?_append_right hj1]
      rw [← e1, ← e2] at hg
      have hg2 : (((sure ++ K).getD j 0).toNat : Int) = (((sure ++ l.flatten).getD j 0).toNat : Int) ∨ (((sure ++ K).getD j 0).toNat : Int) = 0 := by
        rcases hg with h | h
        · exact .inl (by rw [h])
        · exact .inr (by rw [h]; rfl)
      rcases hg2 with hg2 | hg2
      · skip
        repeat' first
          | assumption
          | exact Bool.noConfusion hb
          | exact absurd hb (by decide)
          | (exfalso; omega)
          | exact absurd hg2 hb
          | (exfalso; simp at hb; done)
          | (refine W.toA (ih (j + 1) ?_ ?_) ?_; rotate_left 2; (conv => whnf); refine ⟨rfl, rfl, rfl, rfl, rfl, rfl, ?_, ?_⟩; iterate 2 (focus ((repeat' apply And.intro) <;> first | exact trivial | (intro i _; rw [Nat.zero_add]; exact A.sim.refl _) | with_reducible exact rfl | exact fun _ _ => A.sim.refl _ | exact A.sim.refl _ | exact rfl | exact Nat.le_refl _ | omega | exact fun i _ => shift_sim _ _ i | exact fun _ _ => trivial | exact fun _ h => absurd h (Nat.not_lt_zero _))))
          | (refine W.retY TOK rfl rfl ⟨?_, ?_⟩)
          | (refine W.branch rfl (fun hb => ?_) (fun hb => ?_) <;> ((try simp only [decide_eq_true_eq, decide_eq_false_iff_not, Bool.not_eq_true', Bool.not_eq_false', Int.not_lt, Int.not_le, cond_true, cond_false, reduceCtorEq, Int.toNat_natCast, Int.reduceToNat, addI] at hb); (try replace hb := of_decide_eq_true hb); (try replace hb := of_decide_eq_false hb)))
          | (refine D.branch rfl (fun hb => ?_) (fun hb => ?_) <;> ((try simp only [decide_eq_true_eq, decide_eq_false_iff_not, Bool.not_eq_true', Bool.not_eq_false', Int.not_lt, Int.not_le, cond_true, cond_false, reduceCtorEq, Int.toNat_natCast, Int.reduceToNat, addI] at hb); (try replace hb := of_decide_eq_true hb); (try replace hb := of_decide_eq_false hb)))
          | (refine W.go TOK 138 hΓ 1000 rfl ?_; (conv => whnf); refine ⟨?_, ?_⟩)
          | (refine D.go TOK 138 hΓ 1000 rfl ?_; (conv => whnf); refine ⟨?_, ?_⟩)
          | (refine W.drawn rfl rfl ?_; refine D.run TOK 138 hΓ 1000 ?_; (conv => whnf); refine ⟨?_, ?_⟩)
        all_goals (repeat' apply And.intro)
        all_goals try (first
          | exact trivial
          | exact rfl
          | exact fun _ _ => A.sim.refl _
          | exact A.sim.refl _
          | exact Nat.le_refl _
          | omega
          | exact fun _ _ => trivial
          | exact fun i _ => shift_sim _ _ i
          | exact fun _ h => absurd h (Nat.not_lt_zero _)
          | exact fun i _ => isInt_byteAt _ i
          | (simp only [allP, List.nil_append, List.append_nil, List.cons_append, List.append_eq, and_true, true_and, inr_i64, inr_u8, inr_u64, min_i64, max_i64, min_u64, max_u64, min_u8, max_u8, A.purePL, A.pureP, A.sureP, A.surePL, Int.toNat_natCast, Int.reduceToNat, addI, cHi, cLo, hiN, loN, subO, addO, hasIdx, cond_true, cond_false]; first | done | omega | ((repeat' apply And.intro) <;> first | exact trivial | rfl | omega | decide))
          )
      · skip
        repeat' first
          | assumption
          | exact Bool.noConfusion hb
          | exact absurd hb (by decide)
          | (exfalso; omega)
          | exact absurd hg2 hb
          | (exfalso; simp at hb; done)
          | (refine W.toA (ih (j + 1) ?_ ?_) ?_; rotate_left 2; (conv => whnf); refine ⟨rfl, rfl, rfl, rfl, rfl, rfl, ?_, ?_⟩; iterate 2 (focus ((repeat' apply And.intro) <;> first | exact trivial | (intro i _; rw [Nat.zero_add]; exact A.sim.refl _) | with_reducible exact rfl | exact fun _ _ => A.sim.refl _ | exact A.sim.refl _ | exact rfl | exact Nat.le_refl _ | omega | exact fun i _ => shift_sim _ _ i | exact fun _ _ => trivial | exact fun _ h => absurd h (Nat.not_lt_zero _))))
          | (refine W.retY TOK rfl rfl ⟨?_, ?_⟩)
          | (refine W.branch rfl (fun hb => ?_) (fun hb => ?_) <;> ((try simp only [decide_eq_true_eq, decide_eq_false_iff_not, Bool.not_eq_true', Bool.not_eq_false', Int.not_lt, Int.not_le, cond_true, cond_false, reduceCtorEq, Int.toNat_natCast, Int.reduceToNat, addI] at hb); (try replace hb := of_decide_eq_true hb); (try replace hb := of_decide_eq_false hb)))
          | (refine D.branch rfl (fun hb => ?_) (fun hb => ?_) <;> ((try simp only [decide_eq_true_eq, decide_eq_false_iff_not, Bool.not_eq_true', Bool.not_eq_false', Int.not_lt, Int.not_le, cond_true, cond_false, reduceCtorEq, Int.toNat_natCast, Int.reduceToNat, addI] at hb); (try replace hb := of_decide_eq_true hb); (try replace hb := of_decide_eq_false hb)))
          | (refine W.go TOK 138 hΓ 1000 rfl ?_; (conv => whnf); refine ⟨?_, ?_⟩)
          | (refine D.go TOK 138 hΓ 1000 rfl ?_; (conv => whnf); refine ⟨?_, ?_⟩)
          | (refine W.drawn rfl rfl ?_; refine D.run TOK 138 hΓ 1000 ?_; (conv => whnf); refine ⟨?_, ?_⟩)
        all_goals (repeat' apply And.intro)
        all_goals try (first
          | exact trivial
          | exact rfl
          | exact fun _ _ => A.sim.refl _
          | exact A.sim.refl _
          | exact Nat.le_refl _
          | omega
          | exact fun _ _ => trivial
          | exact fun i _ => shift_sim _ _ i
          | exact fun _ h => absurd h (Nat.not_lt_zero _)
          | exact fun i _ => isInt_byteAt _ i
          | (simp only [allP, List.nil_append, List.append_nil, List.cons_append, List.append_eq, and_true, true_and, inr_i64, inr_u8, inr_u64, min_i64, max_i64, min_u64, max_u64, min_u8, max_u8, A.purePL, A.pureP, A.sureP, A.surePL, Int.toNat_natCast, Int.reduceToNat, addI, cHi, cLo, hiN, loN, subO, addO, hasIdx, cond_true, cond_false]; first | done | omega | ((repeat' apply And.intro) <;> first | exact trivial | rfl | omega | decide))
          )
    · skip
      repeat' first
        | assumption
        | exact Bool.noConfusion hb
        | exact absurd hb (by decide)
        | (exfalso; omega)
        | (exfalso; simp at hb; done)
        | (refine W.retY TOK rfl rfl ⟨?_, ?_⟩)
        | (refine W.branch rfl (fun hb => ?_) (fun hb => ?_) <;> ((try simp only [decide_eq_true_eq, decide_eq_false_iff_not, Bool.not_eq_true', Bool.not_eq_false', Int.not_lt, Int.not_le, cond_true, cond_false, reduceCtorEq, Int.toNat_natCast, Int.reduceToNat, addI] at hb); (try replace hb := of_decide_eq_true hb); (try replace hb := of_decide_eq_false hb)))
        | (refine D.branch rfl (fun hb => ?_) (fun hb => ?_) <;> ((try simp only [decide_eq_true_eq, decide_eq_false_iff_not, Bool.not_eq_true', Bool.not_eq_false', Int.not_lt, Int.not_le, cond_true, cond_false, reduceCtorEq, Int.toNat_natCast, Int.reduceToNat, addI] at hb); (try replace hb := of_decide_eq_true hb); (try replace hb := of_decide_eq_false hb)))
        | ((first | (refine D.callA (cd) rfl rfl rfl rfl hΓ rfl ?_; (conv => whnf); refine ⟨rfl, rfl, rfl, ?_, ?_, ?_, ?_⟩) | (refine W.callA (cd) rfl rfl rfl rfl hΓ rfl ?_; (conv => whnf); refine ⟨rfl, rfl, ?_, ?_, ?_, ?_⟩)); iterate 3 (focus ((repeat' apply And.intro) <;> first | exact trivial | (intro i _; rw [Nat.zero_add]; exact A.sim.refl _) | with_reducible exact rfl | exact fun _ _ => A.sim.refl _ | exact A.sim.refl _ | exact rfl | exact Nat.le_refl _ | omega | exact fun i _ => shift_sim _ _ i | exact fun _ _ => trivial | exact fun _ h => absurd h (Nat.not_lt_zero _) | exact ⟨rfl, rfl⟩)); (conv => whnf))
        | (refine D.callAR (cr2) rfl rfl rfl rfl hΓ rfl ?_; (conv => whnf); refine ⟨rfl, rfl, rfl, rfl, ?_, ?_, ?_, ?_, ?_⟩; iterate 4 (focus ((repeat' apply And.intro) <;> first | exact trivial | (intro i _; rw [Nat.zero_add]; exact A.sim.refl _) | with_reducible exact rfl | exact fun _ _ => A.sim.refl _ | exact A.sim.refl _ | exact rfl | exact Nat.le_refl _ | omega | exact fun i _ => shift_sim _ _ i | exact fun _ _ => trivial | exact fun _ h => absurd h (Nat.not_lt_zero _) | exact ⟨rfl, rfl⟩)); (conv => whnf))
        | (refine W.callA (cr2) rfl rfl rfl rfl hΓ rfl ?_; (conv => whnf); refine ⟨rfl, rfl, ?_, ?_, ?_, ?_⟩; iterate 3 (focus ((repeat' apply And.intro) <;> first | exact trivial | (intro i _; rw [Nat.zero_add]; exact A.sim.refl _) | with_reducible exact rfl | exact fun _ _ => A.sim.refl _ | exact A.sim.refl _ | exact rfl | exact Nat.le_refl _ | omega | exact fun i _ => shift_sim _ _ i | exact fun _ _ => trivial | exact fun _ h => absurd h (Nat.not_lt_zero _) | exact ⟨rfl, rfl⟩)); (conv => whnf))
        | (refine W.go TOK 138 hΓ 1000 rfl ?_; (conv => whnf); refine ⟨?_, ?_⟩)
        | (refine D.go TOK 138 hΓ 1000 rfl ?_; (conv => whnf); refine ⟨?_, ?_⟩)
        | (refine W.drawn rfl rfl ?_; refine D.run TOK 138 hΓ 1000 ?_; (conv => whnf); refine ⟨?_, ?_⟩)
      all_goals (repeat' apply And.intro)
      all_goals try (first
        | exact trivial
        | exact rfl
        | exact fun _ _ => A.sim.refl _
        | exact A.sim.refl _
        | exact Nat.le_refl _
        | omega
        | exact fun _ _ => trivial
        | exact fun i _ => shift_sim _ _ i
        | exact fun _ h => absurd h (Nat.not_lt_zero _)
        | exact fun i _ => isInt_byteAt _ i
        | (intro i _; exact isInt_byteAt _ _)
        | exact decide_eq_true rfl
        | (simp only [allP, List.nil_append, List.append_nil, List.cons_append, List.append_eq, and_true, true_and, inr_i64, inr_u8, inr_u64, min_i64, max_i64, min_u64, max_u64, min_u8, max_u8, A.purePL, A.pureP, A.sureP, A.surePL, Int.toNat_natCast, Int.reduceToNat, addI, cHi, cLo, hiN, loN, subO, addO, hasIdx, cond_true, cond_false]; first | done | omega | ((repeat' apply And.intro) <;> first | exact trivial | rfl | omega | decide))
        )

theorem diskKeeps_law (x0 x1 x2 x3 : A) (s0 : Shaped (.slice (.int .u8)) x0) (s1 : Shaped (.slice (.slice (.int .u8))) x1) (s2 : Shaped (.int .u64) x2) (s3 : Shaped (.int .i64) x3) : Does Try.prog 3 [x0, x1, x2, x3] [] [] Yes := by
  obtain ⟨a0, e0, h0⟩ := Rep.bytes x0 s0
  obtain ⟨a1, e1, h1⟩ := (Rep.slice Rep.bytes) x1 s1
  obtain ⟨a2, e2, h2⟩ := (Rep.int .u64) x2 s2
  obtain ⟨a3, e3, h3⟩ := (Rep.int .i64) x3 s3
  exact Does.args (ys := [bytesA a0, (sl (Sh.size (.slice (.int .u8))) bytesA) a1, (A.int .u64) a2, (A.int .i64) a3]) ⟨e0, e1, e2, e3, trivial⟩ ⟨s0.pure, s1.pure, s2.pure, s3.pure, trivial⟩ (keeps_does a0 a1 a2 a3 h2 h3)
end Go.Proofs.Ytiapjcncfoefeaa
