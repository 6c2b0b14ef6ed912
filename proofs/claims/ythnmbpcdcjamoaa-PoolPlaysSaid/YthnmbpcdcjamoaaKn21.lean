/- Walks: the statements of layer 21. -/
import Derived.Test.YthnmbpcdcjamoaaPi21
import Derived.Test.YthnmbpcdcjamoaaPoLaw4
set_option linter.unusedSimpArgs false
set_option linter.unusedVariables false
namespace Go.Proofs.Ythnmbpcdcjamoaa
open VX
set_option maxRecDepth 100000
set_option maxHeartbeats 4000000
theorem known_does : Does Try.prog 9 [] [] [] (Is (.bool true) []) := by
  have c1 := add_does [] false (⟨[97], 1, 1, 0, 0, 0⟩ : Upd) 5 1 (by decide)
  rw [show mayS [] false (⟨[97], 1, 1, 0, 0, 0⟩ : Upd) = 0 by decide, show addL [] false (⟨[97], 1, 1, 0, 0, 0⟩ : Upd) 5 1 = [(⟨⟨[97], 1, 1, 0, 0, 0⟩, 5, 1, false⟩ : Pen)] by decide, show addB [] false (⟨[97], 1, 1, 0, 0, 0⟩ : Upd) = false by decide] at c1
  have c2 := pick_does [(⟨⟨[97], 1, 1, 0, 0, 0⟩, 5, 1, false⟩ : Pen)] false [] (fun _ => 0) 4 (by decide) (by decide)
  rw [show pickS (fun _ => 0) [(⟨⟨[97], 1, 1, 0, 0, 0⟩, 5, 1, false⟩ : Pen)] 4 = [] by decide] at c2
  have c3 := psync_does [(⟨⟨[97], 1, 1, 0, 0, 0⟩, 5, 1, false⟩ : Pen)] false (by decide)
  rw [show syncO [(⟨⟨[97], 1, 1, 0, 0, 0⟩, 5, 1, false⟩ : Pen)] = [(⟨⟨[97], 1, 1, 0, 0, 0⟩, 5, 1, true⟩ : Pen)] by decide, show syncL [(⟨⟨[97], 1, 1, 0, 0, 0⟩, 5, 1, false⟩ : Pen)] = [(⟨⟨[97], 1, 1, 0, 0, 0⟩, 5, 1, true⟩ : Pen)] by decide] at c3
  have c4 := nearest_does [(⟨⟨[97], 1, 1, 0, 0, 0⟩, 5, 1, true⟩ : Pen)] false (by decide) (by decide)
  rw [show nearS [(⟨⟨[97], 1, 1, 0, 0, 0⟩, 5, 1, true⟩ : Pen)] = (45, true) by decide] at c4
  have c5 := nready_does [(⟨⟨[97], 1, 1, 0, 0, 0⟩, 5, 1, true⟩ : Pen)] false (by decide)
  rw [show (List.filter synP [(⟨⟨[97], 1, 1, 0, 0, 0⟩, 5, 1, true⟩ : Pen)]) = [(⟨⟨[97], 1, 1, 0, 0, 0⟩, 5, 1, true⟩ : Pen)] by decide] at c5
  have c6 := picknil_does [(⟨⟨[97], 1, 1, 0, 0, 0⟩, 5, 1, true⟩ : Pen)] false 4 (by decide) (by decide)
  rw [show pickS (fun _ => 0) [(⟨⟨[97], 1, 1, 0, 0, 0⟩, 5, 1, true⟩ : Pen)] 4 = [(⟨⟨[97], 1, 1, 0, 0, 0⟩, 5, 1, true⟩ : Pen)] by decide] at c6
  have c7 := remove_does [(⟨⟨[97], 1, 1, 0, 0, 0⟩, 5, 1, true⟩ : Pen)] false [97] 1 (by decide)
  rw [show idxP [(⟨⟨[97], 1, 1, 0, 0, 0⟩, 5, 1, true⟩ : Pen)] [97] 1 = 0 by decide, show remL [(⟨⟨[97], 1, 1, 0, 0, 0⟩, 5, 1, true⟩ : Pen)] [97] 1 = [] by decide, show remB [(⟨⟨[97], 1, 1, 0, 0, 0⟩, 5, 1, true⟩ : Pen)] false [97] 1 = false by decide] at c7
  have c8 := remove_does [] false [97] 1 (by decide)
  rw [show idxP [] [97] 1 = -1 by decide, show remL [] [97] 1 = [] by decide, show remB [] false [97] 1 = false by decide] at c8
  have c9 := all_does [] false (by decide)
  refine Does.intro (fn := Try.f9) Try.func9 rfl rfl fun Γ hΓ => ?_
  refine W.run TOK 76 hΓ 1000 ?_
  conv => whnf
  refine ⟨?_, ?_⟩
  repeat' first
    | assumption
    | exact Bool.noConfusion hb
    | exact absurd hb (by decide)
    | (exfalso; omega)
    | (exfalso; simp at hb; done)
    | exact absurd hb (by decide)
    | (refine W.retA TOK rfl ?_; (conv => whnf); refine ⟨rfl, rfl, rfl, rfl, rfl, rfl, ?_, ?_, ?_⟩)
    | (refine W.branch rfl (fun hb => ?_) (fun hb => ?_) <;> ((try simp only [decide_eq_true_eq, decide_eq_false_iff_not, Bool.not_eq_true', Bool.not_eq_false', Int.not_lt, Int.not_le, cond_true, cond_false, reduceCtorEq, Int.toNat_natCast, Int.reduceToNat, addI] at hb); (try replace hb := of_decide_eq_true hb); (try replace hb := of_decide_eq_false hb)))
    | (refine W.callA (pnew_does) rfl rfl rfl rfl hΓ rfl ?_; (conv => whnf); refine ⟨rfl, rfl, ?_, ?_, ?_, ?_⟩; iterate 3 (focus ((repeat' apply And.intro) <;> first | exact trivial | (intro i _; rw [Nat.zero_add]; exact A.sim.refl _) | with_reducible exact rfl | exact fun _ _ => A.sim.refl _ | exact A.sim.refl _ | exact rfl | exact Nat.le_refl _ | omega | exact fun i _ => shift_sim _ _ i | exact fun _ _ => trivial | exact fun _ h => absurd h (Nat.not_lt_zero _) | exact pen_flat _ _ | exact ⟨rfl, rfl, rfl, rfl, ⟨rfl, rfl⟩⟩)); (conv => whnf))
    | (refine W.callA (new_does) rfl rfl rfl rfl hΓ rfl ?_; (conv => whnf); refine ⟨rfl, rfl, ?_, ?_, ?_, ?_⟩; iterate 3 (focus ((repeat' apply And.intro) <;> first | exact trivial | (intro i _; rw [Nat.zero_add]; exact A.sim.refl _) | with_reducible exact rfl | exact fun _ _ => A.sim.refl _ | exact A.sim.refl _ | exact rfl | exact Nat.le_refl _ | omega | exact fun i _ => shift_sim _ _ i | exact fun _ _ => trivial | exact fun _ h => absurd h (Nat.not_lt_zero _) | exact pen_flat _ _ | exact ⟨rfl, rfl, rfl, rfl, ⟨rfl, rfl⟩⟩)); (conv => whnf))
    | (refine W.callA (c1) rfl rfl rfl rfl hΓ rfl ?_; (conv => whnf); refine ⟨rfl, rfl, ?_, ?_, ?_, ?_⟩; iterate 3 (focus ((repeat' apply And.intro) <;> first | exact trivial | (intro i _; rw [Nat.zero_add]; exact A.sim.refl _) | with_reducible exact rfl | exact fun _ _ => A.sim.refl _ | exact A.sim.refl _ | exact rfl | exact Nat.le_refl _ | omega | exact fun i _ => shift_sim _ _ i | exact fun _ _ => trivial | exact fun _ h => absurd h (Nat.not_lt_zero _) | exact pen_flat _ _ | exact ⟨rfl, rfl, rfl, rfl, ⟨rfl, rfl⟩⟩)); (conv => whnf))
    | (refine W.callA (c2) rfl rfl rfl rfl hΓ rfl ?_; (conv => whnf); refine ⟨rfl, rfl, ?_, ?_, ?_, ?_⟩; iterate 3 (focus ((repeat' apply And.intro) <;> first | exact trivial | (intro i _; rw [Nat.zero_add]; exact A.sim.refl _) | with_reducible exact rfl | exact fun _ _ => A.sim.refl _ | exact A.sim.refl _ | exact rfl | exact Nat.le_refl _ | omega | exact fun i _ => shift_sim _ _ i | exact fun _ _ => trivial | exact fun _ h => absurd h (Nat.not_lt_zero _) | exact pen_flat _ _ | exact ⟨rfl, rfl, rfl, rfl, ⟨rfl, rfl⟩⟩)); (conv => whnf))
    | (refine W.callA (c3) rfl rfl rfl rfl hΓ rfl ?_; (conv => whnf); refine ⟨rfl, rfl, ?_, ?_, ?_, ?_⟩; iterate 3 (focus ((repeat' apply And.intro) <;> first | exact trivial | (intro i _; rw [Nat.zero_add]; exact A.sim.refl _) | with_reducible exact rfl | exact fun _ _ => A.sim.refl _ | exact A.sim.refl _ | exact rfl | exact Nat.le_refl _ | omega | exact fun i _ => shift_sim _ _ i | exact fun _ _ => trivial | exact fun _ h => absurd h (Nat.not_lt_zero _) | exact pen_flat _ _ | exact ⟨rfl, rfl, rfl, rfl, ⟨rfl, rfl⟩⟩)); (conv => whnf))
    | (refine W.callA (c4) rfl rfl rfl rfl hΓ rfl ?_; (conv => whnf); refine ⟨rfl, rfl, ?_, ?_, ?_, ?_⟩; iterate 3 (focus ((repeat' apply And.intro) <;> first | exact trivial | (intro i _; rw [Nat.zero_add]; exact A.sim.refl _) | with_reducible exact rfl | exact fun _ _ => A.sim.refl _ | exact A.sim.refl _ | exact rfl | exact Nat.le_refl _ | omega | exact fun i _ => shift_sim _ _ i | exact fun _ _ => trivial | exact fun _ h => absurd h (Nat.not_lt_zero _) | exact pen_flat _ _ | exact ⟨rfl, rfl, rfl, rfl, ⟨rfl, rfl⟩⟩)); (conv => whnf))
    | (refine W.callA (c5) rfl rfl rfl rfl hΓ rfl ?_; (conv => whnf); refine ⟨rfl, rfl, ?_, ?_, ?_, ?_⟩; iterate 3 (focus ((repeat' apply And.intro) <;> first | exact trivial | (intro i _; rw [Nat.zero_add]; exact A.sim.refl _) | with_reducible exact rfl | exact fun _ _ => A.sim.refl _ | exact A.sim.refl _ | exact rfl | exact Nat.le_refl _ | omega | exact fun i _ => shift_sim _ _ i | exact fun _ _ => trivial | exact fun _ h => absurd h (Nat.not_lt_zero _) | exact pen_flat _ _ | exact ⟨rfl, rfl, rfl, rfl, ⟨rfl, rfl⟩⟩)); (conv => whnf))
    | (refine W.callA (c6) rfl rfl rfl rfl hΓ rfl ?_; (conv => whnf); refine ⟨rfl, rfl, ?_, ?_, ?_, ?_⟩; iterate 3 (focus ((repeat' apply And.intro) <;> first | exact trivial | (intro i _; rw [Nat.zero_add]; exact A.sim.refl _) | with_reducible exact rfl | exact fun _ _ => A.sim.refl _ | exact A.sim.refl _ | exact rfl | exact Nat.le_refl _ | omega | exact fun i _ => shift_sim _ _ i | exact fun _ _ => trivial | exact fun _ h => absurd h (Nat.not_lt_zero _) | exact pen_flat _ _ | exact ⟨rfl, rfl, rfl, rfl, ⟨rfl, rfl⟩⟩)); (conv => whnf))
    | (refine W.callA (c7) rfl rfl rfl rfl hΓ rfl ?_; (conv => whnf); refine ⟨rfl, rfl, ?_, ?_, ?_, ?_⟩; iterate 3 (focus ((repeat' apply And.intro) <;> first | exact trivial | (intro i _; rw [Nat.zero_add]; exact A.sim.refl _) | with_reducible exact rfl | exact fun _ _ => A.sim.refl _ | exact A.sim.refl _ | exact rfl | exact Nat.le_refl _ | omega | exact fun i _ => shift_sim _ _ i | exact fun _ _ => trivial | exact fun _ h => absurd h (Nat.not_lt_zero _) | exact pen_flat _ _ | exact ⟨rfl, rfl, rfl, rfl, ⟨rfl, rfl⟩⟩)); (conv => whnf))
    | (refine W.callA (c8) rfl rfl rfl rfl hΓ rfl ?_; (conv => whnf); refine ⟨rfl, rfl, ?_, ?_, ?_, ?_⟩; iterate 3 (focus ((repeat' apply And.intro) <;> first | exact trivial | (intro i _; rw [Nat.zero_add]; exact A.sim.refl _) | with_reducible exact rfl | exact fun _ _ => A.sim.refl _ | exact A.sim.refl _ | exact rfl | exact Nat.le_refl _ | omega | exact fun i _ => shift_sim _ _ i | exact fun _ _ => trivial | exact fun _ h => absurd h (Nat.not_lt_zero _) | exact pen_flat _ _ | exact ⟨rfl, rfl, rfl, rfl, ⟨rfl, rfl⟩⟩)); (conv => whnf))
    | (refine W.callA (c9) rfl rfl rfl rfl hΓ rfl ?_; (conv => whnf); refine ⟨rfl, rfl, ?_, ?_, ?_, ?_⟩; iterate 3 (focus ((repeat' apply And.intro) <;> first | exact trivial | (intro i _; rw [Nat.zero_add]; exact A.sim.refl _) | with_reducible exact rfl | exact fun _ _ => A.sim.refl _ | exact A.sim.refl _ | exact rfl | exact Nat.le_refl _ | omega | exact fun i _ => shift_sim _ _ i | exact fun _ _ => trivial | exact fun _ h => absurd h (Nat.not_lt_zero _) | exact pen_flat _ _ | exact ⟨rfl, rfl, rfl, rfl, ⟨rfl, rfl⟩⟩)); (conv => whnf))
    | (refine W.go TOK 76 hΓ 1000 rfl ?_; (conv => whnf); refine ⟨?_, ?_⟩)
  all_goals (repeat' apply And.intro)
  all_goals try (first
    | exact trivial
    | exact rfl
    | exact fun _ _ => A.sim.refl _
    | exact A.sim.refl _
    | exact Nat.le_refl _
    | omega
    | exact fun _ _ => trivial
    | exact fun i _ => shift_sim _ _ i
    | exact fun _ h => absurd h (Nat.not_lt_zero _)
    | exact fun i _ => isInt_byteAt _ i
    | decide
    | exact ⟨rfl, rfl⟩
    | (simp only [allP, List.nil_append, List.append_nil, List.cons_append, List.append_eq, and_true, true_and, inr_i64, inr_u8, inr_u64, min_i64, max_i64, min_u64, max_u64, min_u8, max_u8, A.purePL, A.pureP, A.sureP, A.surePL, Int.toNat_natCast, Int.reduceToNat, addI, cHi, cLo, hiN, loN, subO, addO, hasIdx, cond_true, cond_false]; first | done | omega | ((repeat' apply And.intro) <;> first | exact trivial | rfl | omega | decide))
    )

end Go.Proofs.Ythnmbpcdcjamoaa
