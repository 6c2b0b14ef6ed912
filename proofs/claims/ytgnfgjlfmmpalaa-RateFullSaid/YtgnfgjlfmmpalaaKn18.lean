/- Walks: the statements of layer 18. -/
import Derived.Test.YtgnfgjlfmmpalaaNa18
set_option linter.unusedSimpArgs false
set_option linter.unusedVariables false
namespace Go.Proofs.Ytgnfgjlfmmpalaa
open VX
set_option maxRecDepth 100000
set_option maxHeartbeats 4000000
theorem known_does : Does Try.prog 5 [] [] [] (Is (.bool true) []) := by
  have c0 := take_n0 [97] 7 (by decide)
  rw [show tkS (atS bk0 7) = (true, ⟨3, 7, 7⟩) by decide] at c0
  have c1 := take_o1 [97] 7 ⟨3, 7, 7⟩ ⟨by decide, by decide, by decide⟩ (by decide)
  rw [show tkS (atS ⟨3, 7, 7⟩ 7) = (true, ⟨2, 7, 7⟩) by decide] at c1
  have c2 := take_o1 [97] 7 ⟨2, 7, 7⟩ ⟨by decide, by decide, by decide⟩ (by decide)
  rw [show tkS (atS ⟨2, 7, 7⟩ 7) = (true, ⟨1, 7, 7⟩) by decide] at c2
  have c3 := take_o1 [97] 7 ⟨1, 7, 7⟩ ⟨by decide, by decide, by decide⟩ (by decide)
  rw [show tkS (atS ⟨1, 7, 7⟩ 7) = (true, ⟨0, 7, 7⟩) by decide] at c3
  have c4 := take_o1 [97] 7 ⟨0, 7, 7⟩ ⟨by decide, by decide, by decide⟩ (by decide)
  rw [show tkS (atS ⟨0, 7, 7⟩ 7) = (false, ⟨0, 7, 7⟩) by decide] at c4
  have c5 := left_o1 [97] 9 ⟨0, 7, 7⟩ ⟨by decide, by decide, by decide⟩ (by decide)
  rw [show atS ⟨0, 7, 7⟩ 9 = ⟨0, 7, 9⟩ by decide] at c5
  have c6 := left_o1 [97] 10 ⟨0, 7, 9⟩ ⟨by decide, by decide, by decide⟩ (by decide)
  rw [show atS ⟨0, 7, 9⟩ 10 = ⟨1, 10, 10⟩ by decide] at c6
  have c7 := left_n1 [98] 0 [97] ⟨1, 10, 10⟩ (by decide) (by decide)
  rw [show atS bk0 0 = ⟨4, 0, 0⟩ by decide] at c7
  have c8 := take_o2 [97] 10 [98] ⟨1, 10, 10⟩ ⟨4, 0, 0⟩ ⟨by decide, by decide, by decide⟩ (by decide)
  rw [show tkS (atS ⟨1, 10, 10⟩ 10) = (true, ⟨0, 10, 10⟩) by decide] at c8
  have c9 := take_o2 [97] 10 [98] ⟨0, 10, 10⟩ ⟨4, 0, 0⟩ ⟨by decide, by decide, by decide⟩ (by decide)
  rw [show tkS (atS ⟨0, 10, 10⟩ 10) = (false, ⟨0, 10, 10⟩) by decide] at c9
  refine Does.intro (fn := Try.f5) Try.func5 rfl rfl fun Γ hΓ => ?_
  refine W.run TOK 41 hΓ 1000 ?_
  conv => whnf
  refine ⟨?_, ?_⟩
  repeat' first
    | assumption
    | exact Bool.noConfusion hb
    | exact absurd hb (by decide)
    | (exfalso; omega)
    | (exfalso; simp at hb; done)
    | exact absurd hb (by decide)
    | (refine W.enter ?_; refine W.run TOK 41 hΓ 1000 ?_; (conv => whnf); refine ⟨?_, ?_⟩)
    | (refine W.again ?_; refine W.run TOK 41 hΓ 1000 ?_; (conv => whnf); refine ⟨?_, ?_⟩)
    | (refine W.retA TOK rfl ?_; (conv => whnf); refine ⟨rfl, rfl, rfl, rfl, rfl, rfl, ?_, ?_, ?_⟩)
    | (refine W.branch rfl (fun hb => ?_) (fun hb => ?_) <;> ((try simp only [decide_eq_true_eq, decide_eq_false_iff_not, Bool.not_eq_true', Bool.not_eq_false', Int.not_lt, Int.not_le, cond_true, cond_false, reduceCtorEq, Int.toNat_natCast, Int.reduceToNat, addI] at hb); (try replace hb := of_decide_eq_true hb); (try replace hb := of_decide_eq_false hb)))
    | (refine W.callA (new_does) rfl rfl rfl rfl hΓ rfl ?_; (conv => whnf); refine ⟨rfl, rfl, ?_, ?_, ?_, ?_⟩; iterate 3 (focus ((repeat' apply And.intro) <;> first | exact trivial | (intro i _; rw [Nat.zero_add]; exact A.sim.refl _) | with_reducible exact rfl | exact fun _ _ => A.sim.refl _ | exact A.sim.refl _ | exact rfl | exact Nat.le_refl _ | omega | exact fun i _ => shift_sim _ _ i | exact fun _ _ => trivial | exact fun _ h => absurd h (Nat.not_lt_zero _) | ((repeat' apply And.intro) <;> first | exact trivial | rfl | decide))); (conv => whnf))
    | (refine W.callA (c0) rfl rfl rfl rfl hΓ rfl ?_; (conv => whnf); refine ⟨rfl, rfl, ?_, ?_, ?_, ?_⟩; iterate 3 (focus ((repeat' apply And.intro) <;> first | exact trivial | (intro i _; rw [Nat.zero_add]; exact A.sim.refl _) | with_reducible exact rfl | exact fun _ _ => A.sim.refl _ | exact A.sim.refl _ | exact rfl | exact Nat.le_refl _ | omega | exact fun i _ => shift_sim _ _ i | exact fun _ _ => trivial | exact fun _ h => absurd h (Nat.not_lt_zero _) | ((repeat' apply And.intro) <;> first | exact trivial | rfl | decide))); (conv => whnf))
    | (refine W.callA (c1) rfl rfl rfl rfl hΓ rfl ?_; (conv => whnf); refine ⟨rfl, rfl, ?_, ?_, ?_, ?_⟩; iterate 3 (focus ((repeat' apply And.intro) <;> first | exact trivial | (intro i _; rw [Nat.zero_add]; exact A.sim.refl _) | with_reducible exact rfl | exact fun _ _ => A.sim.refl _ | exact A.sim.refl _ | exact rfl | exact Nat.le_refl _ | omega | exact fun i _ => shift_sim _ _ i | exact fun _ _ => trivial | exact fun _ h => absurd h (Nat.not_lt_zero _) | ((repeat' apply And.intro) <;> first | exact trivial | rfl | decide))); (conv => whnf))
    | (refine W.callA (c2) rfl rfl rfl rfl hΓ rfl ?_; (conv => whnf); refine ⟨rfl, rfl, ?_, ?_, ?_, ?_⟩; iterate 3 (focus ((repeat' apply And.intro) <;> first | exact trivial | (intro i _; rw [Nat.zero_add]; exact A.sim.refl _) | with_reducible exact rfl | exact fun _ _ => A.sim.refl _ | exact A.sim.refl _ | exact rfl | exact Nat.le_refl _ | omega | exact fun i _ => shift_sim _ _ i | exact fun _ _ => trivial | exact fun _ h => absurd h (Nat.not_lt_zero _) | ((repeat' apply And.intro) <;> first | exact trivial | rfl | decide))); (conv => whnf))
    | (refine W.callA (c3) rfl rfl rfl rfl hΓ rfl ?_; (conv => whnf); refine ⟨rfl, rfl, ?_, ?_, ?_, ?_⟩; iterate 3 (focus ((repeat' apply And.intro) <;> first | exact trivial | (intro i _; rw [Nat.zero_add]; exact A.sim.refl _) | with_reducible exact rfl | exact fun _ _ => A.sim.refl _ | exact A.sim.refl _ | exact rfl | exact Nat.le_refl _ | omega | exact fun i _ => shift_sim _ _ i | exact fun _ _ => trivial | exact fun _ h => absurd h (Nat.not_lt_zero _) | ((repeat' apply And.intro) <;> first | exact trivial | rfl | decide))); (conv => whnf))
    | (refine W.callA (c4) rfl rfl rfl rfl hΓ rfl ?_; (conv => whnf); refine ⟨rfl, rfl, ?_, ?_, ?_, ?_⟩; iterate 3 (focus ((repeat' apply And.intro) <;> first | exact trivial | (intro i _; rw [Nat.zero_add]; exact A.sim.refl _) | with_reducible exact rfl | exact fun _ _ => A.sim.refl _ | exact A.sim.refl _ | exact rfl | exact Nat.le_refl _ | omega | exact fun i _ => shift_sim _ _ i | exact fun _ _ => trivial | exact fun _ h => absurd h (Nat.not_lt_zero _) | ((repeat' apply And.intro) <;> first | exact trivial | rfl | decide))); (conv => whnf))
    | (refine W.callA (c5) rfl rfl rfl rfl hΓ rfl ?_; (conv => whnf); refine ⟨rfl, rfl, ?_, ?_, ?_, ?_⟩; iterate 3 (focus ((repeat' apply And.intro) <;> first | exact trivial | (intro i _; rw [Nat.zero_add]; exact A.sim.refl _) | with_reducible exact rfl | exact fun _ _ => A.sim.refl _ | exact A.sim.refl _ | exact rfl | exact Nat.le_refl _ | omega | exact fun i _ => shift_sim _ _ i | exact fun _ _ => trivial | exact fun _ h => absurd h (Nat.not_lt_zero _) | ((repeat' apply And.intro) <;> first | exact trivial | rfl | decide))); (conv => whnf))
    | (refine W.callA (c6) rfl rfl rfl rfl hΓ rfl ?_; (conv => whnf); refine ⟨rfl, rfl, ?_, ?_, ?_, ?_⟩; iterate 3 (focus ((repeat' apply And.intro) <;> first | exact trivial | (intro i _; rw [Nat.zero_add]; exact A.sim.refl _) | with_reducible exact rfl | exact fun _ _ => A.sim.refl _ | exact A.sim.refl _ | exact rfl | exact Nat.le_refl _ | omega | exact fun i _ => shift_sim _ _ i | exact fun _ _ => trivial | exact fun _ h => absurd h (Nat.not_lt_zero _) | ((repeat' apply And.intro) <;> first | exact trivial | rfl | decide))); (conv => whnf))
    | (refine W.callA (c7) rfl rfl rfl rfl hΓ rfl ?_; (conv => whnf); refine ⟨rfl, rfl, ?_, ?_, ?_, ?_⟩; iterate 3 (focus ((repeat' apply And.intro) <;> first | exact trivial | (intro i _; rw [Nat.zero_add]; exact A.sim.refl _) | with_reducible exact rfl | exact fun _ _ => A.sim.refl _ | exact A.sim.refl _ | exact rfl | exact Nat.le_refl _ | omega | exact fun i _ => shift_sim _ _ i | exact fun _ _ => trivial | exact fun _ h => absurd h (Nat.not_lt_zero _) | ((repeat' apply And.intro) <;> first | exact trivial | rfl | decide))); (conv => whnf))
    | (refine W.callA (c8) rfl rfl rfl rfl hΓ rfl ?_; (conv => whnf); refine ⟨rfl, rfl, ?_, ?_, ?_, ?_⟩; iterate 3 (focus ((repeat' apply And.intro) <;> first | exact trivial | (intro i _; rw [Nat.zero_add]; exact A.sim.refl _) | with_reducible exact rfl | exact fun _ _ => A.sim.refl _ | exact A.sim.refl _ | exact rfl | exact Nat.le_refl _ | omega | exact fun i _ => shift_sim _ _ i | exact fun _ _ => trivial | exact fun _ h => absurd h (Nat.not_lt_zero _) | ((repeat' apply And.intro) <;> first | exact trivial | rfl | decide))); (conv => whnf))
    | (refine W.callA (c9) rfl rfl rfl rfl hΓ rfl ?_; (conv => whnf); refine ⟨rfl, rfl, ?_, ?_, ?_, ?_⟩; iterate 3 (focus ((repeat' apply And.intro) <;> first | exact trivial | (intro i _; rw [Nat.zero_add]; exact A.sim.refl _) | with_reducible exact rfl | exact fun _ _ => A.sim.refl _ | exact A.sim.refl _ | exact rfl | exact Nat.le_refl _ | omega | exact fun i _ => shift_sim _ _ i | exact fun _ _ => trivial | exact fun _ h => absurd h (Nat.not_lt_zero _) | ((repeat' apply And.intro) <;> first | exact trivial | rfl | decide))); (conv => whnf))
    | (refine W.go TOK 41 hΓ 1000 rfl ?_; (conv => whnf); refine ⟨?_, ?_⟩)
  all_goals (repeat' apply And.intro)
  all_goals try (first
    | exact trivial
    | exact rfl
    | exact fun _ _ => A.sim.refl _
    | exact A.sim.refl _
    | exact Nat.le_refl _
    | omega
    | exact fun _ _ => trivial
    | exact fun i _ => shift_sim _ _ i
    | exact fun _ h => absurd h (Nat.not_lt_zero _)
    | exact fun i _ => isInt_byteAt _ i
    | decide
    | exact ⟨rfl, rfl⟩
    | (simp only [allP, List.nil_append, List.append_nil, List.cons_append, List.append_eq, and_true, true_and, inr_i64, inr_u8, inr_u64, min_i64, max_i64, min_u64, max_u64, min_u8, max_u8, A.purePL, A.pureP, A.sureP, A.surePL, Int.toNat_natCast, Int.reduceToNat, addI, cHi, cLo, hiN, loN, subO, addO, hasIdx, cond_true, cond_false]; first | done | omega | ((repeat' apply And.intro) <;> first | exact trivial | rfl | omega | decide))
    )

end Go.Proofs.Ytgnfgjlfmmpalaa
