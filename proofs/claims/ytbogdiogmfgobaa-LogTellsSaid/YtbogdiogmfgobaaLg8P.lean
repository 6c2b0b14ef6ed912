/- Walks: logs as trees: paths, what they lead to. -/
import Derived.Test.YtbogdiogmfgobaaLg8R
import Derived.Test.YtbogdiogmfgobaaLgSpec2
set_option linter.unusedSimpArgs false
set_option linter.unusedVariables false
namespace Go.Proofs.Ytbogdiogmfgobaa
open VX
set_option maxRecDepth 100000
set_option maxHeartbeats 4000000

theorem path_does : ∀ (m : Nat) (l : List Hs) (i : Nat), l.length = m → m ≤ 1000000000 → (∀ x ∈ l, x.length = 32) → i < m → Does Try.prog 25 [sl 32 hashA l, .int .i64 i] [] [1] (Is (.own 32 1 0 (pathS l i).length) [(1, some (slO (pathS l i)))]) := by
  intro m
  induction m using Nat.strongRecOn with
  | _ m IH =>
  intro l i hm hm9 h32 him
  by_cases h2 : 2 ≤ l.length
  rotate_left
  · have hs0 := splitS_small (n := l.length) (by omega)
    rw [pathS_small (by omega)]
    refine Does.intro (fn := Try.f25) Try.func25 rfl rfl fun Γ hΓ => ?_
    refine W.run TOK 40 hΓ 1000 ?_
    conv => whnf
    refine ⟨?_, ?_⟩
    repeat' first
      | assumption
      | exact Bool.noConfusion hb
      | exact absurd hb (by decide)
      | exact absurd hs0 hb
      | (exfalso; omega)
      | (refine W.retA TOK rfl ?_; (conv => whnf); refine ⟨rfl, rfl, rfl, rfl, rfl, rfl, ?_, ?_, ?_⟩)
      | (refine W.branch rfl (fun hb => ?_) (fun hb => ?_) <;> ((try simp only [decide_eq_true_eq, decide_eq_false_iff_not, Bool.not_eq_true', Bool.not_eq_false', Int.not_lt, Int.not_le, cond_true, cond_false, reduceCtorEq, Int.toNat_natCast, addI] at hb); (try replace hb := of_decide_eq_true hb); (try replace hb := of_decide_eq_false hb)))
      | (refine D.branch rfl (fun hb => ?_) (fun hb => ?_) <;> ((try simp only [decide_eq_true_eq, decide_eq_false_iff_not, Bool.not_eq_true', Bool.not_eq_false', Int.not_lt, Int.not_le, cond_true, cond_false, reduceCtorEq, Int.toNat_natCast, addI] at hb); (try replace hb := of_decide_eq_true hb); (try replace hb := of_decide_eq_false hb)))
      | (refine D.callA (split_does l.length (inr_i64.2 (by omega))) rfl rfl rfl rfl hΓ rfl ?_; (conv => whnf); refine ⟨rfl, rfl, rfl, ?_, ?_, ?_, ?_⟩; (focus ((repeat' apply And.intro) <;> first | exact trivial | with_reducible exact rfl | exact fun _ _ => A.sim.refl _ | exact A.sim.refl _ | exact rfl | exact Nat.le_refl _ | omega | exact fun i _ => shift_sim _ _ i | exact fun _ _ => trivial | exact fun _ h => absurd h (Nat.not_lt_zero _))); (focus ((repeat' apply And.intro) <;> first | exact trivial | with_reducible exact rfl | exact fun _ _ => A.sim.refl _ | exact A.sim.refl _ | exact rfl | exact Nat.le_refl _ | omega | exact fun i _ => shift_sim _ _ i | exact fun _ _ => trivial | exact fun _ h => absurd h (Nat.not_lt_zero _))); (focus ((repeat' apply And.intro) <;> first | exact trivial | with_reducible exact rfl | exact fun _ _ => A.sim.refl _ | exact A.sim.refl _ | exact rfl | exact Nat.le_refl _ | omega | exact fun i _ => shift_sim _ _ i | exact fun _ _ => trivial | exact fun _ h => absurd h (Nat.not_lt_zero _))); (conv => whnf))
      | (refine W.callA (split_does l.length (inr_i64.2 (by omega))) rfl rfl rfl rfl hΓ rfl ?_; (conv => whnf); refine ⟨rfl, rfl, ?_, ?_, ?_, ?_⟩; (focus ((repeat' apply And.intro) <;> first | exact trivial | with_reducible exact rfl | exact fun _ _ => A.sim.refl _ | exact A.sim.refl _ | exact rfl | exact Nat.le_refl _ | omega | exact fun i _ => shift_sim _ _ i | exact fun _ _ => trivial | exact fun _ h => absurd h (Nat.not_lt_zero _))); (focus ((repeat' apply And.intro) <;> first | exact trivial | with_reducible exact rfl | exact fun _ _ => A.sim.refl _ | exact A.sim.refl _ | exact rfl | exact Nat.le_refl _ | omega | exact fun i _ => shift_sim _ _ i | exact fun _ _ => trivial | exact fun _ h => absurd h (Nat.not_lt_zero _))); (focus ((repeat' apply And.intro) <;> first | exact trivial | with_reducible exact rfl | exact fun _ _ => A.sim.refl _ | exact A.sim.refl _ | exact rfl | exact Nat.le_refl _ | omega | exact fun i _ => shift_sim _ _ i | exact fun _ _ => trivial | exact fun _ h => absurd h (Nat.not_lt_zero _))); (conv => whnf))
      | (refine W.go TOK 40 hΓ 1000 rfl ?_; (conv => whnf); refine ⟨?_, ?_⟩)
      | (refine D.go TOK 40 hΓ 1000 rfl ?_; (conv => whnf); refine ⟨?_, ?_⟩)
      | (refine W.drawn rfl rfl ?_; refine D.run TOK 40 hΓ 1000 ?_; (conv => whnf); refine ⟨?_, ?_⟩)
    all_goals (repeat' apply And.intro)
    all_goals try (first
      | exact trivial
      | exact rfl
      | exact fun _ _ => A.sim.refl _
      | exact A.sim.refl _
      | exact Nat.le_refl _
      | omega
      | exact fun _ _ => trivial
      | exact fun i _ => shift_sim _ _ i
      | exact fun _ h => absurd h (Nat.not_lt_zero _)
      | exact fun i _ => isInt_byteAt _ i
      | (simp only [allP, List.nil_append, List.append_nil, List.cons_append, List.append_eq, and_true, true_and, inr_i64, inr_u8, inr_u64, min_i64, max_i64, min_u64, max_u64, min_u8, max_u8, A.purePL, A.pureP, A.sureP, A.surePL, Int.toNat_natCast, addI, cHi, cLo, hiN, loN, subO, addO, hasIdx, cond_true, cond_false]; done)
      | (simp only [allP, List.nil_append, List.append_nil, List.cons_append, List.append_eq, and_true, true_and, inr_i64, inr_u8, inr_u64, min_i64, max_i64, min_u64, max_u64, min_u8, max_u8, A.purePL, A.pureP, A.sureP, A.surePL, Int.toNat_natCast, addI, cHi, cLo, hiN, loN, subO, addO, hasIdx, cond_true, cond_false]; omega)
      | (simp only [allP, List.nil_append, List.append_nil, List.cons_append, List.append_eq, and_true, true_and, inr_i64, inr_u8, inr_u64, min_i64, max_i64, min_u64, max_u64, min_u8, max_u8, A.purePL, A.pureP, A.sureP, A.surePL, Int.toNat_natCast, addI, cHi, cLo, hiN, loN, subO, addO, hasIdx, cond_true, cond_false]; (repeat' apply And.intro) <;> first | exact trivial | rfl | omega | decide)
      )
  have hk := splitS_facts h2
  have ht := take_lt h2
  have c1 := IH _ (by rw [← hm]; exact hk.2.1) (l.take (splitS l.length)) i ht.1 (by omega) (all_take h32 _)
  have c2 := IH (l.length - splitS l.length) (by omega) (l.drop (splitS l.length)) (i - splitS l.length) ht.2 (by omega) (all_drop h32 _)
  have p1 := pathS_len _ (l.take (splitS l.length)) i ht.1
  have p2 := pathS_len _ (l.drop (splitS l.length)) (i - splitS l.length) ht.2
  by_cases hik : i < splitS l.length
  · rw [pathS_two h2, if_pos hik]
    have c1 := c1 hik
    have hi0 : (i : Int) < (splitS l.length : Nat) := by omega
    refine Does.intro (fn := Try.f25) Try.func25 rfl rfl fun Γ hΓ => ?_
    refine W.run TOK 40 hΓ 1000 ?_
    conv => whnf
    refine ⟨?_, ?_⟩
    repeat' first
      | assumption
      | exact Bool.noConfusion hb
      | exact absurd hb (by decide)
      | (exfalso; omega)
      | (refine W.retA TOK rfl ?_; (conv => whnf); refine ⟨rfl, rfl, rfl, rfl, rfl, rfl, ?_, ?_, ?_⟩)
      | (refine W.branch rfl (fun hb => ?_) (fun hb => ?_) <;> ((try simp only [decide_eq_true_eq, decide_eq_false_iff_not, Bool.not_eq_true', Bool.not_eq_false', Int.not_lt, Int.not_le, cond_true, cond_false, reduceCtorEq, Int.toNat_natCast, addI] at hb); (try replace hb := of_decide_eq_true hb); (try replace hb := of_decide_eq_false hb)))
      | (refine D.branch rfl (fun hb => ?_) (fun hb => ?_) <;> ((try simp only [decide_eq_true_eq, decide_eq_false_iff_not, Bool.not_eq_true', Bool.not_eq_false', Int.not_lt, Int.not_le, cond_true, cond_false, reduceCtorEq, Int.toNat_natCast, addI] at hb); (try replace hb := of_decide_eq_true hb); (try replace hb := of_decide_eq_false hb)))
      | (refine D.callA (split_does l.length (inr_i64.2 (by omega))) rfl rfl rfl rfl hΓ rfl ?_; (conv => whnf); refine ⟨rfl, rfl, rfl, ?_, ?_, ?_, ?_⟩; (focus ((repeat' apply And.intro) <;> first | exact trivial | with_reducible exact rfl | exact fun _ _ => A.sim.refl _ | exact A.sim.refl _ | exact rfl | exact Nat.le_refl _ | omega | exact fun i _ => shift_sim _ _ i | exact fun _ _ => trivial | exact fun _ h => absurd h (Nat.not_lt_zero _) | exact ht.1.symm | exact ht.2.symm | exact sl_take (f := hashA) l _ | exact sl_drop (f := hashA) l _ _ | exact len_snoc _ _ | exact Nat.le_of_eq (len_snoc _ _).symm | exact sl_snoc (f := hashA) _ _ (A.sim.refl _))); (focus ((repeat' apply And.intro) <;> first | exact trivial | with_reducible exact rfl | exact fun _ _ => A.sim.refl _ | exact A.sim.refl _ | exact rfl | exact Nat.le_refl _ | omega | exact fun i _ => shift_sim _ _ i | exact fun _ _ => trivial | exact fun _ h => absurd h (Nat.not_lt_zero _) | exact ht.1.symm | exact ht.2.symm | exact sl_take (f := hashA) l _ | exact sl_drop (f := hashA) l _ _ | exact len_snoc _ _ | exact Nat.le_of_eq (len_snoc _ _).symm | exact sl_snoc (f := hashA) _ _ (A.sim.refl _))); (focus ((repeat' apply And.intro) <;> first | exact trivial | with_reducible exact rfl | exact fun _ _ => A.sim.refl _ | exact A.sim.refl _ | exact rfl | exact Nat.le_refl _ | omega | exact fun i _ => shift_sim _ _ i | exact fun _ _ => trivial | exact fun _ h => absurd h (Nat.not_lt_zero _) | exact ht.1.symm | exact ht.2.symm | exact sl_take (f := hashA) l _ | exact sl_drop (f := hashA) l _ _ | exact len_snoc _ _ | exact Nat.le_of_eq (len_snoc _ _).symm | exact sl_snoc (f := hashA) _ _ (A.sim.refl _))); (conv => whnf))
      | (refine W.callA (split_does l.length (inr_i64.2 (by omega))) rfl rfl rfl rfl hΓ rfl ?_; (conv => whnf); refine ⟨rfl, rfl, ?_, ?_, ?_, ?_⟩; (focus ((repeat' apply And.intro) <;> first | exact trivial | with_reducible exact rfl | exact fun _ _ => A.sim.refl _ | exact A.sim.refl _ | exact rfl | exact Nat.le_refl _ | omega | exact fun i _ => shift_sim _ _ i | exact fun _ _ => trivial | exact fun _ h => absurd h (Nat.not_lt_zero _) | exact ht.1.symm | exact ht.2.symm | exact sl_take (f := hashA) l _ | exact sl_drop (f := hashA) l _ _ | exact len_snoc _ _ | exact Nat.le_of_eq (len_snoc _ _).symm | exact sl_snoc (f := hashA) _ _ (A.sim.refl _))); (focus ((repeat' apply And.intro) <;> first | exact trivial | with_reducible exact rfl | exact fun _ _ => A.sim.refl _ | exact A.sim.refl _ | exact rfl | exact Nat.le_refl _ | omega | exact fun i _ => shift_sim _ _ i | exact fun _ _ => trivial | exact fun _ h => absurd h (Nat.not_lt_zero _) | exact ht.1.symm | exact ht.2.symm | exact sl_take (f := hashA) l _ | exact sl_drop (f := hashA) l _ _ | exact len_snoc _ _ | exact Nat.le_of_eq (len_snoc _ _).symm | exact sl_snoc (f := hashA) _ _ (A.sim.refl _))); (focus ((repeat' apply And.intro) <;> first | exact trivial | with_reducible exact rfl | exact fun _ _ => A.sim.refl _ | exact A.sim.refl _ | exact rfl | exact Nat.le_refl _ | omega | exact fun i _ => shift_sim _ _ i | exact fun _ _ => trivial | exact fun _ h => absurd h (Nat.not_lt_zero _) | exact ht.1.symm | exact ht.2.symm | exact sl_take (f := hashA) l _ | exact sl_drop (f := hashA) l _ _ | exact len_snoc _ _ | exact Nat.le_of_eq (len_snoc _ _).symm | exact sl_snoc (f := hashA) _ _ (A.sim.refl _))); (conv => whnf))
      | (refine D.callA (c1) rfl rfl rfl rfl hΓ rfl ?_; (conv => whnf); refine ⟨rfl, rfl, rfl, ?_, ?_, ?_, ?_⟩; (focus ((repeat' apply And.intro) <;> first | exact trivial | with_reducible exact rfl | exact fun _ _ => A.sim.refl _ | exact A.sim.refl _ | exact rfl | exact Nat.le_refl _ | omega | exact fun i _ => shift_sim _ _ i | exact fun _ _ => trivial | exact fun _ h => absurd h (Nat.not_lt_zero _) | exact ht.1.symm | exact ht.2.symm | exact sl_take (f := hashA) l _ | exact sl_drop (f := hashA) l _ _ | exact len_snoc _ _ | exact Nat.le_of_eq (len_snoc _ _).symm | exact sl_snoc (f := hashA) _ _ (A.sim.refl _))); (focus ((repeat' apply And.intro) <;> first | exact trivial | with_reducible exact rfl | exact fun _ _ => A.sim.refl _ | exact A.sim.refl _ | exact rfl | exact Nat.le_refl _ | omega | exact fun i _ => shift_sim _ _ i | exact fun _ _ => trivial | exact fun _ h => absurd h (Nat.not_lt_zero _) | exact ht.1.symm | exact ht.2.symm | exact sl_take (f := hashA) l _ | exact sl_drop (f := hashA) l _ _ | exact len_snoc _ _ | exact Nat.le_of_eq (len_snoc _ _).symm | exact sl_snoc (f := hashA) _ _ (A.sim.refl _))); (focus ((repeat' apply And.intro) <;> first | exact trivial | with_reducible exact rfl | exact fun _ _ => A.sim.refl _ | exact A.sim.refl _ | exact rfl | exact Nat.le_refl _ | omega | exact fun i _ => shift_sim _ _ i | exact fun _ _ => trivial | exact fun _ h => absurd h (Nat.not_lt_zero _) | exact ht.1.symm | exact ht.2.symm | exact sl_take (f := hashA) l _ | exact sl_drop (f := hashA) l _ _ | exact len_snoc _ _ | exact Nat.le_of_eq (len_snoc _ _).symm | exact sl_snoc (f := hashA) _ _ (A.sim.refl _))); (conv => whnf))
      | (refine W.callA (c1) rfl rfl rfl rfl hΓ rfl ?_; (conv => whnf); refine ⟨rfl, rfl, ?_, ?_, ?_, ?_⟩; (focus ((repeat' apply And.intro) <;> first | exact trivial | with_reducible exact rfl | exact fun _ _ => A.sim.refl _ | exact A.sim.refl _ | exact rfl | exact Nat.le_refl _ | omega | exact fun i _ => shift_sim _ _ i | exact fun _ _ => trivial | exact fun _ h => absurd h (Nat.not_lt_zero _) | exact ht.1.symm | exact ht.2.symm | exact sl_take (f := hashA) l _ | exact sl_drop (f := hashA) l _ _ | exact len_snoc _ _ | exact Nat.le_of_eq (len_snoc _ _).symm | exact sl_snoc (f := hashA) _ _ (A.sim.refl _))); (focus ((repeat' apply And.intro) <;> first | exact trivial | with_reducible exact rfl | exact fun _ _ => A.sim.refl _ | exact A.sim.refl _ | exact rfl | exact Nat.le_refl _ | omega | exact fun i _ => shift_sim _ _ i | exact fun _ _ => trivial | exact fun _ h => absurd h (Nat.not_lt_zero _) | exact ht.1.symm | exact ht.2.symm | exact sl_take (f := hashA) l _ | exact sl_drop (f := hashA) l _ _ | exact len_snoc _ _ | exact Nat.le_of_eq (len_snoc _ _).symm | exact sl_snoc (f := hashA) _ _ (A.sim.refl _))); (focus ((repeat' apply And.intro) <;> first | exact trivial | with_reducible exact rfl | exact fun _ _ => A.sim.refl _ | exact A.sim.refl _ | exact rfl | exact Nat.le_refl _ | omega | exact fun i _ => shift_sim _ _ i | exact fun _ _ => trivial | exact fun _ h => absurd h (Nat.not_lt_zero _) | exact ht.1.symm | exact ht.2.symm | exact sl_take (f := hashA) l _ | exact sl_drop (f := hashA) l _ _ | exact len_snoc _ _ | exact Nat.le_of_eq (len_snoc _ _).symm | exact sl_snoc (f := hashA) _ _ (A.sim.refl _))); (conv => whnf))
      | (refine D.callA (root_does _ (l.drop (splitS l.length)) rfl (by omega) (all_drop h32 _)) rfl rfl rfl rfl hΓ rfl ?_; (conv => whnf); refine ⟨rfl, rfl, rfl, ?_, ?_, ?_, ?_⟩; (focus ((repeat' apply And.intro) <;> first | exact trivial | with_reducible exact rfl | exact fun _ _ => A.sim.refl _ | exact A.sim.refl _ | exact rfl | exact Nat.le_refl _ | omega | exact fun i _ => shift_sim _ _ i | exact fun _ _ => trivial | exact fun _ h => absurd h (Nat.not_lt_zero _) | exact ht.1.symm | exact ht.2.symm | exact sl_take (f := hashA) l _ | exact sl_drop (f := hashA) l _ _ | exact len_snoc _ _ | exact Nat.le_of_eq (len_snoc _ _).symm | exact sl_snoc (f := hashA) _ _ (A.sim.refl _))); (focus ((repeat' apply And.intro) <;> first | exact trivial | with_reducible exact rfl | exact fun _ _ => A.sim.refl _ | exact A.sim.refl _ | exact rfl | exact Nat.le_refl _ | omega | exact fun i _ => shift_sim _ _ i | exact fun _ _ => trivial | exact fun _ h => absurd h (Nat.not_lt_zero _) | exact ht.1.symm | exact ht.2.symm | exact sl_take (f := hashA) l _ | exact sl_drop (f := hashA) l _ _ | exact len_snoc _ _ | exact Nat.le_of_eq (len_snoc _ _).symm | exact sl_snoc (f := hashA) _ _ (A.sim.refl _))); (focus ((repeat' apply And.intro) <;> first | exact trivial | with_reducible exact rfl | exact fun _ _ => A.sim.refl _ | exact A.sim.refl _ | exact rfl | exact Nat.le_refl _ | omega | exact fun i _ => shift_sim _ _ i | exact fun _ _ => trivial | exact fun _ h => absurd h (Nat.not_lt_zero _) | exact ht.1.symm | exact ht.2.symm | exact sl_take (f := hashA) l _ | exact sl_drop (f := hashA) l _ _ | exact len_snoc _ _ | exact Nat.le_of_eq (len_snoc _ _).symm | exact sl_snoc (f := hashA) _ _ (A.sim.refl _))); (conv => whnf))
      | (refine W.callA (root_does _ (l.drop (splitS l.length)) rfl (by omega) (all_drop h32 _)) rfl rfl rfl rfl hΓ rfl ?_; (conv => whnf); refine ⟨rfl, rfl, ?_, ?_, ?_, ?_⟩; (focus ((repeat' apply And.intro) <;> first | exact trivial | with_reducible exact rfl | exact fun _ _ => A.sim.refl _ | exact A.sim.refl _ | exact rfl | exact Nat.le_refl _ | omega | exact fun i _ => shift_sim _ _ i | exact fun _ _ => trivial | exact fun _ h => absurd h (Nat.not_lt_zero _) | exact ht.1.symm | exact ht.2.symm | exact sl_take (f := hashA) l _ | exact sl_drop (f := hashA) l _ _ | exact len_snoc _ _ | exact Nat.le_of_eq (len_snoc _ _).symm | exact sl_snoc (f := hashA) _ _ (A.sim.refl _))); (focus ((repeat' apply And.intro) <;> first | exact trivial | with_reducible exact rfl | exact fun _ _ => A.sim.refl _ | exact A.sim.refl _ | exact rfl | exact Nat.le_refl _ | omega | exact fun i _ => shift_sim _ _ i | exact fun _ _ => trivial | exact fun _ h => absurd h (Nat.not_lt_zero _) | exact ht.1.symm | exact ht.2.symm | exact sl_take (f := hashA) l _ | exact sl_drop (f := hashA) l _ _ | exact len_snoc _ _ | exact Nat.le_of_eq (len_snoc _ _).symm | exact sl_snoc (f := hashA) _ _ (A.sim.refl _))); (focus ((repeat' apply And.intro) <;> first | exact trivial | with_reducible exact rfl | exact fun _ _ => A.sim.refl _ | exact A.sim.refl _ | exact rfl | exact Nat.le_refl _ | omega | exact fun i _ => shift_sim _ _ i | exact fun _ _ => trivial | exact fun _ h => absurd h (Nat.not_lt_zero _) | exact ht.1.symm | exact ht.2.symm | exact sl_take (f := hashA) l _ | exact sl_drop (f := hashA) l _ _ | exact len_snoc _ _ | exact Nat.le_of_eq (len_snoc _ _).symm | exact sl_snoc (f := hashA) _ _ (A.sim.refl _))); (conv => whnf))
      | (refine W.go TOK 40 hΓ 1000 rfl ?_; (conv => whnf); refine ⟨?_, ?_⟩)
      | (refine D.go TOK 40 hΓ 1000 rfl ?_; (conv => whnf); refine ⟨?_, ?_⟩)
      | (refine W.drawn rfl rfl ?_; refine D.run TOK 40 hΓ 1000 ?_; (conv => whnf); refine ⟨?_, ?_⟩)
    all_goals (repeat' apply And.intro)
    all_goals try (first
      | exact trivial
      | exact rfl
      | exact fun _ _ => A.sim.refl _
      | exact A.sim.refl _
      | exact Nat.le_refl _
      | omega
      | exact fun _ _ => trivial
      | exact fun i _ => shift_sim _ _ i
      | exact fun _ h => absurd h (Nat.not_lt_zero _)
      | exact fun i _ => isInt_byteAt _ i
      | exact ht.1.symm
      | exact ht.2.symm
      | exact sl_take (f := hashA) l _
      | exact sl_drop (f := hashA) l _ _
      | exact len_snoc _ _
      | exact Nat.le_of_eq (len_snoc _ _).symm
      | exact sl_snoc (f := hashA) _ _ (A.sim.refl _)
      | (simp only [allP, List.nil_append, List.append_nil, List.cons_append, List.append_eq, and_true, true_and, inr_i64, inr_u8, inr_u64, min_i64, max_i64, min_u64, max_u64, min_u8, max_u8, A.purePL, A.pureP, A.sureP, A.surePL, Int.toNat_natCast, addI, cHi, cLo, hiN, loN, subO, addO, hasIdx, cond_true, cond_false]; done)
      | (simp only [allP, List.nil_append, List.append_nil, List.cons_append, List.append_eq, and_true, true_and, inr_i64, inr_u8, inr_u64, min_i64, max_i64, min_u64, max_u64, min_u8, max_u8, A.purePL, A.pureP, A.sureP, A.surePL, Int.toNat_natCast, addI, cHi, cLo, hiN, loN, subO, addO, hasIdx, cond_true, cond_false]; omega)
      | (simp only [allP, List.nil_append, List.append_nil, List.cons_append, List.append_eq, and_true, true_and, inr_i64, inr_u8, inr_u64, min_i64, max_i64, min_u64, max_u64, min_u8, max_u8, A.purePL, A.pureP, A.sureP, A.surePL, Int.toNat_natCast, addI, cHi, cLo, hiN, loN, subO, addO, hasIdx, cond_true, cond_false]; (repeat' apply And.intro) <;> first | exact trivial | rfl | omega | decide)
      )
  · rw [pathS_two h2, if_neg hik]
    have c2 := c2 (by omega)
    have hi1 : (i : Int) - (splitS l.length : Nat) = ((i - splitS l.length : Nat) : Int) := by omega
    refine Does.intro (fn := Try.f25) Try.func25 rfl rfl fun Γ hΓ => ?_
    refine W.run TOK 40 hΓ 1000 ?_
    conv => whnf
    refine ⟨?_, ?_⟩
    repeat' first
      | assumption
      | exact Bool.noConfusion hb
      | exact absurd hb (by decide)
      | (exfalso; omega)
      | (refine W.retA TOK rfl ?_; (conv => whnf); refine ⟨rfl, rfl, rfl, rfl, rfl, rfl, ?_, ?_, ?_⟩)
      | (refine W.branch rfl (fun hb => ?_) (fun hb => ?_) <;> ((try simp only [decide_eq_true_eq, decide_eq_false_iff_not, Bool.not_eq_true', Bool.not_eq_false', Int.not_lt, Int.not_le, cond_true, cond_false, reduceCtorEq, Int.toNat_natCast, addI] at hb); (try replace hb := of_decide_eq_true hb); (try replace hb := of_decide_eq_false hb)))
      | (refine D.branch rfl (fun hb => ?_) (fun hb => ?_) <;> ((try simp only [decide_eq_true_eq, decide_eq_false_iff_not, Bool.not_eq_true', Bool.not_eq_false', Int.not_lt, Int.not_le, cond_true, cond_false, reduceCtorEq, Int.toNat_natCast, addI] at hb); (try replace hb := of_decide_eq_true hb); (try replace hb := of_decide_eq_false hb)))
      | (refine D.callA (split_does l.length (inr_i64.2 (by omega))) rfl rfl rfl rfl hΓ rfl ?_; (conv => whnf); refine ⟨rfl, rfl, rfl, ?_, ?_, ?_, ?_⟩; (focus ((repeat' apply And.intro) <;> first | exact trivial | with_reducible exact rfl | exact fun _ _ => A.sim.refl _ | exact A.sim.refl _ | exact rfl | exact Nat.le_refl _ | omega | exact fun i _ => shift_sim _ _ i | exact fun _ _ => trivial | exact fun _ h => absurd h (Nat.not_lt_zero _) | exact ht.1.symm | exact ht.2.symm | exact sl_take (f := hashA) l _ | exact sl_drop (f := hashA) l _ _ | exact len_snoc _ _ | exact Nat.le_of_eq (len_snoc _ _).symm | exact sl_snoc (f := hashA) _ _ (A.sim.refl _) | exact hi1)); (focus ((repeat' apply And.intro) <;> first | exact trivial | with_reducible exact rfl | exact fun _ _ => A.sim.refl _ | exact A.sim.refl _ | exact rfl | exact Nat.le_refl _ | omega | exact fun i _ => shift_sim _ _ i | exact fun _ _ => trivial | exact fun _ h => absurd h (Nat.not_lt_zero _) | exact ht.1.symm | exact ht.2.symm | exact sl_take (f := hashA) l _ | exact sl_drop (f := hashA) l _ _ | exact len_snoc _ _ | exact Nat.le_of_eq (len_snoc _ _).symm | exact sl_snoc (f := hashA) _ _ (A.sim.refl _) | exact hi1)); (focus ((repeat' apply And.intro) <;> first | exact trivial | with_reducible exact rfl | exact fun _ _ => A.sim.refl _ | exact A.sim.refl _ | exact rfl | exact Nat.le_refl _ | omega | exact fun i _ => shift_sim _ _ i | exact fun _ _ => trivial | exact fun _ h => absurd h (Nat.not_lt_zero _) | exact ht.1.symm | exact ht.2.symm | exact sl_take (f := hashA) l _ | exact sl_drop (f := hashA) l _ _ | exact len_snoc _ _ | exact Nat.le_of_eq (len_snoc _ _).symm | exact sl_snoc (f := hashA) _ _ (A.sim.refl _) | exact hi1)); (conv => whnf))
      | (refine W.callA (split_does l.length (inr_i64.2 (by omega))) rfl rfl rfl rfl hΓ rfl ?_; (conv => whnf); refine ⟨rfl, rfl, ?_, ?_, ?_, ?_⟩; (focus ((repeat' apply And.intro) <;> first | exact trivial | with_reducible exact rfl | exact fun _ _ => A.sim.refl _ | exact A.sim.refl _ | exact rfl | exact Nat.le_refl _ | omega | exact fun i _ => shift_sim _ _ i | exact fun _ _ => trivial | exact fun _ h => absurd h (Nat.not_lt_zero _) | exact ht.1.symm | exact ht.2.symm | exact sl_take (f := hashA) l _ | exact sl_drop (f := hashA) l _ _ | exact len_snoc _ _ | exact Nat.le_of_eq (len_snoc _ _).symm | exact sl_snoc (f := hashA) _ _ (A.sim.refl _) | exact hi1)); (focus ((repeat' apply And.intro) <;> first | exact trivial | with_reducible exact rfl | exact fun _ _ => A.sim.refl _ | exact A.sim.refl _ | exact rfl | exact Nat.le_refl _ | omega | exact fun i _ => shift_sim _ _ i | exact fun _ _ => trivial | exact fun _ h => absurd h (Nat.not_lt_zero _) | exact ht.1.symm | exact ht.2.symm | exact sl_take (f := hashA) l _ | exact sl_drop (f := hashA) l _ _ | exact len_snoc _ _ | exact Nat.le_of_eq (len_snoc _ _).symm | exact sl_snoc (f := hashA) _ _ (A.sim.refl _) | exact hi1)); (focus ((repeat' apply And.intro) <;> first | exact trivial | with_reducible exact rfl | exact fun _ _ => A.sim.refl _ | exact A.sim.refl _ | exact rfl | exact Nat.le_refl _ | omega | exact fun i _ => shift_sim _ _ i | exact fun _ _ => trivial | exact fun _ h => absurd h (Nat.not_lt_zero _) | exact ht.1.symm | exact ht.2.symm | exact sl_take (f := hashA) l _ | exact sl_drop (f := hashA) l _ _ | exact len_snoc _ _ | exact Nat.le_of_eq (len_snoc _ _).symm | exact sl_snoc (f := hashA) _ _ (A.sim.refl _) | exact hi1)); (conv => whnf))
      | (refine D.callA (c2) rfl rfl rfl rfl hΓ rfl ?_; (conv => whnf); refine ⟨rfl, rfl, rfl, ?_, ?_, ?_, ?_⟩; (focus ((repeat' apply And.intro) <;> first | exact trivial | with_reducible exact rfl | exact fun _ _ => A.sim.refl _ | exact A.sim.refl _ | exact rfl | exact Nat.le_refl _ | omega | exact fun i _ => shift_sim _ _ i | exact fun _ _ => trivial | exact fun _ h => absurd h (Nat.not_lt_zero _) | exact ht.1.symm | exact ht.2.symm | exact sl_take (f := hashA) l _ | exact sl_drop (f := hashA) l _ _ | exact len_snoc _ _ | exact Nat.le_of_eq (len_snoc _ _).symm | exact sl_snoc (f := hashA) _ _ (A.sim.refl _) | exact hi1)); (focus ((repeat' apply And.intro) <;> first | exact trivial | with_reducible exact rfl | exact fun _ _ => A.sim.refl _ | exact A.sim.refl _ | exact rfl | exact Nat.le_refl _ | omega | exact fun i _ => shift_sim _ _ i | exact fun _ _ => trivial | exact fun _ h => absurd h (Nat.not_lt_zero _) | exact ht.1.symm | exact ht.2.symm | exact sl_take (f := hashA) l _ | exact sl_drop (f := hashA) l _ _ | exact len_snoc _ _ | exact Nat.le_of_eq (len_snoc _ _).symm | exact sl_snoc (f := hashA) _ _ (A.sim.refl _) | exact hi1)); (focus ((repeat' apply And.intro) <;> first | exact trivial | with_reducible exact rfl | exact fun _ _ => A.sim.refl _ | exact A.sim.refl _ | exact rfl | exact Nat.le_refl _ | omega | exact fun i _ => shift_sim _ _ i | exact fun _ _ => trivial | exact fun _ h => absurd h (Nat.not_lt_zero _) | exact ht.1.symm | exact ht.2.symm | exact sl_take (f := hashA) l _ | exact sl_drop (f := hashA) l _ _ | exact len_snoc _ _ | exact Nat.le_of_eq (len_snoc _ _).symm | exact sl_snoc (f := hashA) _ _ (A.sim.refl _) | exact hi1)); (conv => whnf))
      | (refine W.callA (c2) rfl rfl rfl rfl hΓ rfl ?_; (conv => whnf); refine ⟨rfl, rfl, ?_, ?_, ?_, ?_⟩; (focus ((repeat' apply And.intro) <;> first | exact trivial | with_reducible exact rfl | exact fun _ _ => A.sim.refl _ | exact A.sim.refl _ | exact rfl | exact Nat.le_refl _ | omega | exact fun i _ => shift_sim _ _ i | exact fun _ _ => trivial | exact fun _ h => absurd h (Nat.not_lt_zero _) | exact ht.1.symm | exact ht.2.symm | exact sl_take (f := hashA) l _ | exact sl_drop (f := hashA) l _ _ | exact len_snoc _ _ | exact Nat.le_of_eq (len_snoc _ _).symm | exact sl_snoc (f := hashA) _ _ (A.sim.refl _) | exact hi1)); (focus ((repeat' apply And.intro) <;> first | exact trivial | with_reducible exact rfl | exact fun _ _ => A.sim.refl _ | exact A.sim.refl _ | exact rfl | exact Nat.le_refl _ | omega | exact fun i _ => shift_sim _ _ i | exact fun _ _ => trivial | exact fun _ h => absurd h (Nat.not_lt_zero _) | exact ht.1.symm | exact ht.2.symm | exact sl_take (f := hashA) l _ | exact sl_drop (f := hashA) l _ _ | exact len_snoc _ _ | exact Nat.le_of_eq (len_snoc _ _).symm | exact sl_snoc (f := hashA) _ _ (A.sim.refl _) | exact hi1)); (focus ((repeat' apply And.intro) <;> first | exact trivial | with_reducible exact rfl | exact fun _ _ => A.sim.refl _ | exact A.sim.refl _ | exact rfl | exact Nat.le_refl _ | omega | exact fun i _ => shift_sim _ _ i | exact fun _ _ => trivial | exact fun _ h => absurd h (Nat.not_lt_zero _) | exact ht.1.symm | exact ht.2.symm | exact sl_take (f := hashA) l _ | exact sl_drop (f := hashA) l _ _ | exact len_snoc _ _ | exact Nat.le_of_eq (len_snoc _ _).symm | exact sl_snoc (f := hashA) _ _ (A.sim.refl _) | exact hi1)); (conv => whnf))
      | (refine D.callA (root_does _ (l.take (splitS l.length)) rfl (by omega) (all_take h32 _)) rfl rfl rfl rfl hΓ rfl ?_; (conv => whnf); refine ⟨rfl, rfl, rfl, ?_, ?_, ?_, ?_⟩; (focus ((repeat' apply And.intro) <;> first | exact trivial | with_reducible exact rfl | exact fun _ _ => A.sim.refl _ | exact A.sim.refl _ | exact rfl | exact Nat.le_refl _ | omega | exact fun i _ => shift_sim _ _ i | exact fun _ _ => trivial | exact fun _ h => absurd h (Nat.not_lt_zero _) | exact ht.1.symm | exact ht.2.symm | exact sl_take (f := hashA) l _ | exact sl_drop (f := hashA) l _ _ | exact len_snoc _ _ | exact Nat.le_of_eq (len_snoc _ _).symm | exact sl_snoc (f := hashA) _ _ (A.sim.refl _) | exact hi1)); (focus ((repeat' apply And.intro) <;> first | exact trivial | with_reducible exact rfl | exact fun _ _ => A.sim.refl _ | exact A.sim.refl _ | exact rfl | exact Nat.le_refl _ | omega | exact fun i _ => shift_sim _ _ i | exact fun _ _ => trivial | exact fun _ h => absurd h (Nat.not_lt_zero _) | exact ht.1.symm | exact ht.2.symm | exact sl_take (f := hashA) l _ | exact sl_drop (f := hashA) l _ _ | exact len_snoc _ _ | exact Nat.le_of_eq (len_snoc _ _).symm | exact sl_snoc (f := hashA) _ _ (A.sim.refl _) | exact hi1)); (focus ((repeat' apply And.intro) <;> first | exact trivial | with_reducible exact rfl | exact fun _ _ => A.sim.refl _ | exact A.sim.refl _ | exact rfl | exact Nat.le_refl _ | omega | exact fun i _ => shift_sim _ _ i | exact fun _ _ => trivial | exact fun _ h => absurd h (Nat.not_lt_zero _) | exact ht.1.symm | exact ht.2.symm | exact sl_take (f := hashA) l _ | exact sl_drop (f := hashA) l _ _ | exact len_snoc _ _ | exact Nat.le_of_eq (len_snoc _ _).symm | exact sl_snoc (f := hashA) _ _ (A.sim.refl _) | exact hi1)); (conv => whnf))
      | (refine W.callA (root_does _ (l.take (splitS l.length)) rfl (by omega) (all_take h32 _)) rfl rfl rfl rfl hΓ rfl ?_; (conv => whnf); refine ⟨rfl, rfl, ?_, ?_, ?_, ?_⟩; (focus ((repeat' apply And.intro) <;> first | exact trivial | with_reducible exact rfl | exact fun _ _ => A.sim.refl _ | exact A.sim.refl _ | exact rfl | exact Nat.le_refl _ | omega | exact fun i _ => shift_sim _ _ i | exact fun _ _ => trivial | exact fun _ h => absurd h (Nat.not_lt_zero _) | exact ht.1.symm | exact ht.2.symm | exact sl_take (f := hashA) l _ | exact sl_drop (f := hashA) l _ _ | exact len_snoc _ _ | exact Nat.le_of_eq (len_snoc _ _).symm | exact sl_snoc (f := hashA) _ _ (A.sim.refl _) | exact hi1)); (focus ((repeat' apply And.intro) <;> first | exact trivial | with_reducible exact rfl | exact fun _ _ => A.sim.refl _ | exact A.sim.refl _ | exact rfl | exact Nat.le_refl _ | omega | exact fun i _ => shift_sim _ _ i | exact fun _ _ => trivial | exact fun _ h => absurd h (Nat.not_lt_zero _) | exact ht.1.symm | exact ht.2.symm | exact sl_take (f := hashA) l _ | exact sl_drop (f := hashA) l _ _ | exact len_snoc _ _ | exact Nat.le_of_eq (len_snoc _ _).symm | exact sl_snoc (f := hashA) _ _ (A.sim.refl _) | exact hi1)); (focus ((repeat' apply And.intro) <;> first | exact trivial | with_reducible exact rfl | exact fun _ _ => A.sim.refl _ | exact A.sim.refl _ | exact rfl | exact Nat.le_refl _ | omega | exact fun i _ => shift_sim _ _ i | exact fun _ _ => trivial | exact fun _ h => absurd h (Nat.not_lt_zero _) | exact ht.1.symm | exact ht.2.symm | exact sl_take (f := hashA) l _ | exact sl_drop (f := hashA) l _ _ | exact len_snoc _ _ | exact Nat.le_of_eq (len_snoc _ _).symm | exact sl_snoc (f := hashA) _ _ (A.sim.refl _) | exact hi1)); (conv => whnf))
      | (refine W.go TOK 40 hΓ 1000 rfl ?_; (conv => whnf); refine ⟨?_, ?_⟩)
      | (refine D.go TOK 40 hΓ 1000 rfl ?_; (conv => whnf); refine ⟨?_, ?_⟩)
      | (refine W.drawn rfl rfl ?_; refine D.run TOK 40 hΓ 1000 ?_; (conv => whnf); refine ⟨?_, ?_⟩)
    all_goals (repeat' apply And.intro)
    all_goals try (first
      | exact trivial
      | exact rfl
      | exact fun _ _ => A.sim.refl _
      | exact A.sim.refl _
      | exact Nat.le_refl _
      | omega
      | exact fun _ _ => trivial
      | exact fun i _ => shift_sim _ _ i
      | exact fun _ h => absurd h (Nat.not_lt_zero _)
      | exact fun i _ => isInt_byteAt _ i
      | exact ht.1.symm
      | exact ht.2.symm
      | exact sl_take (f := hashA) l _
      | exact sl_drop (f := hashA) l _ _
      | exact len_snoc _ _
      | exact Nat.le_of_eq (len_snoc _ _).symm
      | exact sl_snoc (f := hashA) _ _ (A.sim.refl _)
      | (simp only [allP, List.nil_append, List.append_nil, List.cons_append, List.append_eq, and_true, true_and, inr_i64, inr_u8, inr_u64, min_i64, max_i64, min_u64, max_u64, min_u8, max_u8, A.purePL, A.pureP, A.sureP, A.surePL, Int.toNat_natCast, addI, cHi, cLo, hiN, loN, subO, addO, hasIdx, cond_true, cond_false]; done)
      | (simp only [allP, List.nil_append, List.append_nil, List.cons_append, List.append_eq, and_true, true_and, inr_i64, inr_u8, inr_u64, min_i64, max_i64, min_u64, max_u64, min_u8, max_u8, A.purePL, A.pureP, A.sureP, A.surePL, Int.toNat_natCast, addI, cHi, cLo, hiN, loN, subO, addO, hasIdx, cond_true, cond_false]; omega)
      | (simp only [allP, List.nil_append, List.append_nil, List.cons_append, List.append_eq, and_true, true_and, inr_i64, inr_u8, inr_u64, min_i64, max_i64, min_u64, max_u64, min_u8, max_u8, A.purePL, A.pureP, A.sureP, A.surePL, Int.toNat_natCast, addI, cHi, cLo, hiN, loN, subO, addO, hasIdx, cond_true, cond_false]; (repeat' apply And.intro) <;> first | exact trivial | rfl | omega | decide)
      )

theorem rpath_does : ∀ (m : Nat) (l : List Hs) (i : Nat), l.length = m → m ≤ 1000000000 → (∀ x ∈ l, x.length = 32) → i < m → Does Try.prog 18 [sl 32 hashA l, .int .i64 i] [] [1] (Is (.tup [.own 32 1 0 (pathS l i).length, .bool true]) [(1, some (slO (pathS l i)))]) := by
  intro m
  induction m using Nat.strongRecOn with
  | _ m IH =>
  intro l i hm hm9 h32 him
  by_cases h2 : 2 ≤ l.length
  rotate_left
  · have hs0 := splitS_small (n := l.length) (by omega)
    rw [pathS_small (by omega)]
    refine Does.intro (fn := Try.f18) Try.func18 rfl rfl fun Γ hΓ => ?_
    refine W.run TOK 60 hΓ 1000 ?_
    conv => whnf
    refine ⟨?_, ?_⟩
    repeat' first
      | assumption
      | exact Bool.noConfusion hb
      | exact absurd hb (by decide)
      | exact absurd hs0 hb
      | (exfalso; omega)
      | (refine W.retA TOK rfl ?_; (conv => whnf); refine ⟨rfl, rfl, rfl, rfl, rfl, rfl, ?_, ?_, ?_⟩)
      | (refine W.branch rfl (fun hb => ?_) (fun hb => ?_) <;> ((try simp only [decide_eq_true_eq, decide_eq_false_iff_not, Bool.not_eq_true', Bool.not_eq_false', Int.not_lt, Int.not_le, cond_true, cond_false, reduceCtorEq, Int.toNat_natCast, addI] at hb); (try replace hb := of_decide_eq_true hb); (try replace hb := of_decide_eq_false hb)))
      | (refine D.branch rfl (fun hb => ?_) (fun hb => ?_) <;> ((try simp only [decide_eq_true_eq, decide_eq_false_iff_not, Bool.not_eq_true', Bool.not_eq_false', Int.not_lt, Int.not_le, cond_true, cond_false, reduceCtorEq, Int.toNat_natCast, addI] at hb); (try replace hb := of_decide_eq_true hb); (try replace hb := of_decide_eq_false hb)))
      | (refine D.callA (rsplit_does l.length (inr_i64.2 (by omega))) rfl rfl rfl rfl hΓ rfl ?_; (conv => whnf); refine ⟨rfl, rfl, rfl, ?_, ?_, ?_, ?_⟩; (focus ((repeat' apply And.intro) <;> first | exact trivial | with_reducible exact rfl | exact fun _ _ => A.sim.refl _ | exact A.sim.refl _ | exact rfl | exact Nat.le_refl _ | omega | exact fun i _ => shift_sim _ _ i | exact fun _ _ => trivial | exact fun _ h => absurd h (Nat.not_lt_zero _))); (focus ((repeat' apply And.intro) <;> first | exact trivial | with_reducible exact rfl | exact fun _ _ => A.sim.refl _ | exact A.sim.refl _ | exact rfl | exact Nat.le_refl _ | omega | exact fun i _ => shift_sim _ _ i | exact fun _ _ => trivial | exact fun _ h => absurd h (Nat.not_lt_zero _))); (focus ((repeat' apply And.intro) <;> first | exact trivial | with_reducible exact rfl | exact fun _ _ => A.sim.refl _ | exact A.sim.refl _ | exact rfl | exact Nat.le_refl _ | omega | exact fun i _ => shift_sim _ _ i | exact fun _ _ => trivial | exact fun _ h => absurd h (Nat.not_lt_zero _))); (conv => whnf))
      | (refine W.callA (rsplit_does l.length (inr_i64.2 (by omega))) rfl rfl rfl rfl hΓ rfl ?_; (conv => whnf); refine ⟨rfl, rfl, ?_, ?_, ?_, ?_⟩; (focus ((repeat' apply And.intro) <;> first | exact trivial | with_reducible exact rfl | exact fun _ _ => A.sim.refl _ | exact A.sim.refl _ | exact rfl | exact Nat.le_refl _ | omega | exact fun i _ => shift_sim _ _ i | exact fun _ _ => trivial | exact fun _ h => absurd h (Nat.not_lt_zero _))); (focus ((repeat' apply And.intro) <;> first | exact trivial | with_reducible exact rfl | exact fun _ _ => A.sim.refl _ | exact A.sim.refl _ | exact rfl | exact Nat.le_refl _ | omega | exact fun i _ => shift_sim _ _ i | exact fun _ _ => trivial | exact fun _ h => absurd h (Nat.not_lt_zero _))); (focus ((repeat' apply And.intro) <;> first | exact trivial | with_reducible exact rfl | exact fun _ _ => A.sim.refl _ | exact A.sim.refl _ | exact rfl | exact Nat.le_refl _ | omega | exact fun i _ => shift_sim _ _ i | exact fun _ _ => trivial | exact fun _ h => absurd h (Nat.not_lt_zero _))); (conv => whnf))
      | (refine W.go TOK 60 hΓ 1000 rfl ?_; (conv => whnf); refine ⟨?_, ?_⟩)
      | (refine D.go TOK 60 hΓ 1000 rfl ?_; (conv => whnf); refine ⟨?_, ?_⟩)
      | (refine W.drawn rfl rfl ?_; refine D.run TOK 60 hΓ 1000 ?_; (conv => whnf); refine ⟨?_, ?_⟩)
    all_goals (repeat' apply And.intro)
    all_goals try (first
      | exact trivial
      | exact rfl
      | exact fun _ _ => A.sim.refl _
      | exact A.sim.refl _
      | exact Nat.le_refl _
      | omega
      | exact fun _ _ => trivial
      | exact fun i _ => shift_sim _ _ i
      | exact fun _ h => absurd h (Nat.not_lt_zero _)
      | exact fun i _ => isInt_byteAt _ i
      | (simp only [allP, List.nil_append, List.append_nil, List.cons_append, List.append_eq, and_true, true_and, inr_i64, inr_u8, inr_u64, min_i64, max_i64, min_u64, max_u64, min_u8, max_u8, A.purePL, A.pureP, A.sureP, A.surePL, Int.toNat_natCast, addI, cHi, cLo, hiN, loN, subO, addO, hasIdx, cond_true, cond_false]; done)
      | (simp only [allP, List.nil_append, List.append_nil, List.cons_append, List.append_eq, and_true, true_and, inr_i64, inr_u8, inr_u64, min_i64, max_i64, min_u64, max_u64, min_u8, max_u8, A.purePL, A.pureP, A.sureP, A.surePL, Int.toNat_natCast, addI, cHi, cLo, hiN, loN, subO, addO, hasIdx, cond_true, cond_false]; omega)
      | (simp only [allP, List.nil_append, List.append_nil, List.cons_append, List.append_eq, and_true, true_and, inr_i64, inr_u8, inr_u64, min_i64, max_i64, min_u64, max_u64, min_u8, max_u8, A.purePL, A.pureP, A.sureP, A.surePL, Int.toNat_natCast, addI, cHi, cLo, hiN, loN, subO, addO, hasIdx, cond_true, cond_false]; (repeat' apply And.intro) <;> first | exact trivial | rfl | omega | decide)
      )
  have hk := splitS_facts h2
  have ht := take_lt h2
  have c1 := IH _ (by rw [← hm]; exact hk.2.1) (l.take (splitS l.length)) i ht.1 (by omega) (all_take h32 _)
  have c2 := IH (l.length - splitS l.length) (by omega) (l.drop (splitS l.length)) (i - splitS l.length) ht.2 (by omega) (all_drop h32 _)
  have p1 := pathS_len _ (l.take (splitS l.length)) i ht.1
  have p2 := pathS_len _ (l.drop (splitS l.length)) (i - splitS l.length) ht.2
  by_cases hik : i < splitS l.length
  · rw [pathS_two h2, if_pos hik]
    have c1 := c1 hik
    have hi0 : (i : Int) < (splitS l.length : Nat) := by omega
    refine Does.intro (fn := Try.f18) Try.func18 rfl rfl fun Γ hΓ => ?_
    refine W.run TOK 60 hΓ 1000 ?_
    conv => whnf
    refine ⟨?_, ?_⟩
    repeat' first
      | assumption
      | exact Bool.noConfusion hb
      | exact absurd hb (by decide)
      | (exfalso; omega)
      | (refine W.retA TOK rfl ?_; (conv => whnf); refine ⟨rfl, rfl, rfl, rfl, rfl, rfl, ?_, ?_, ?_⟩)
      | (refine W.branch rfl (fun hb => ?_) (fun hb => ?_) <;> ((try simp only [decide_eq_true_eq, decide_eq_false_iff_not, Bool.not_eq_true', Bool.not_eq_false', Int.not_lt, Int.not_le, cond_true, cond_false, reduceCtorEq, Int.toNat_natCast, addI] at hb); (try replace hb := of_decide_eq_true hb); (try replace hb := of_decide_eq_false hb)))
      | (refine D.branch rfl (fun hb => ?_) (fun hb => ?_) <;> ((try simp only [decide_eq_true_eq, decide_eq_false_iff_not, Bool.not_eq_true', Bool.not_eq_false', Int.not_lt, Int.not_le, cond_true, cond_false, reduceCtorEq, Int.toNat_natCast, addI] at hb); (try replace hb := of_decide_eq_true hb); (try replace hb := of_decide_eq_false hb)))
      | (refine D.callA (rsplit_does l.length (inr_i64.2 (by omega))) rfl rfl rfl rfl hΓ rfl ?_; (conv => whnf); refine ⟨rfl, rfl, rfl, ?_, ?_, ?_, ?_⟩; (focus ((repeat' apply And.intro) <;> first | exact trivial | with_reducible exact rfl | exact fun _ _ => A.sim.refl _ | exact A.sim.refl _ | exact rfl | exact Nat.le_refl _ | omega | exact fun i _ => shift_sim _ _ i | exact fun _ _ => trivial | exact fun _ h => absurd h (Nat.not_lt_zero _) | exact ht.1.symm | exact ht.2.symm | exact sl_take (f := hashA) l _ | exact sl_drop (f := hashA) l _ _ | exact len_snoc _ _ | exact Nat.le_of_eq (len_snoc _ _).symm | exact sl_snoc (f := hashA) _ _ (A.sim.refl _))); (focus ((repeat' apply And.intro) <;> first | exact trivial | with_reducible exact rfl | exact fun _ _ => A.sim.refl _ | exact A.sim.refl _ | exact rfl | exact Nat.le_refl _ | omega | exact fun i _ => shift_sim _ _ i | exact fun _ _ => trivial | exact fun _ h => absurd h (Nat.not_lt_zero _) | exact ht.1.symm | exact ht.2.symm | exact sl_take (f := hashA) l _ | exact sl_drop (f := hashA) l _ _ | exact len_snoc _ _ | exact Nat.le_of_eq (len_snoc _ _).symm | exact sl_snoc (f := hashA) _ _ (A.sim.refl _))); (focus ((repeat' apply And.intro) <;> first | exact trivial | with_reducible exact rfl | exact fun _ _ => A.sim.refl _ | exact A.sim.refl _ | exact rfl | exact Nat.le_refl _ | omega | exact fun i _ => shift_sim _ _ i | exact fun _ _ => trivial | exact fun _ h => absurd h (Nat.not_lt_zero _) | exact ht.1.symm | exact ht.2.symm | exact sl_take (f := hashA) l _ | exact sl_drop (f := hashA) l _ _ | exact len_snoc _ _ | exact Nat.le_of_eq (len_snoc _ _).symm | exact sl_snoc (f := hashA) _ _ (A.sim.refl _))); (conv => whnf))
      | (refine W.callA (rsplit_does l.length (inr_i64.2 (by omega))) rfl rfl rfl rfl hΓ rfl ?_; (conv => whnf); refine ⟨rfl, rfl, ?_, ?_, ?_, ?_⟩; (focus ((repeat' apply And.intro) <;> first | exact trivial | with_reducible exact rfl | exact fun _ _ => A.sim.refl _ | exact A.sim.refl _ | exact rfl | exact Nat.le_refl _ | omega | exact fun i _ => shift_sim _ _ i | exact fun _ _ => trivial | exact fun _ h => absurd h (Nat.not_lt_zero _) | exact ht.1.symm | exact ht.2.symm | exact sl_take (f := hashA) l _ | exact sl_drop (f := hashA) l _ _ | exact len_snoc _ _ | exact Nat.le_of_eq (len_snoc _ _).symm | exact sl_snoc (f := hashA) _ _ (A.sim.refl _))); (focus ((repeat' apply And.intro) <;> first | exact trivial | with_reducible exact rfl | exact fun _ _ => A.sim.refl _ | exact A.sim.refl _ | exact rfl | exact Nat.le_refl _ | omega | exact fun i _ => shift_sim _ _ i | exact fun _ _ => trivial | exact fun _ h => absurd h (Nat.not_lt_zero _) | exact ht.1.symm | exact ht.2.symm | exact sl_take (f := hashA) l _ | exact sl_drop (f := hashA) l _ _ | exact len_snoc _ _ | exact Nat.le_of_eq (len_snoc _ _).symm | exact sl_snoc (f := hashA) _ _ (A.sim.refl _))); (focus ((repeat' apply And.intro) <;> first | exact trivial | with_reducible exact rfl | exact fun _ _ => A.sim.refl _ | exact A.sim.refl _ | exact rfl | exact Nat.le_refl _ | omega | exact fun i _ => shift_sim _ _ i | exact fun _ _ => trivial | exact fun _ h => absurd h (Nat.not_lt_zero _) | exact ht.1.symm | exact ht.2.symm | exact sl_take (f := hashA) l _ | exact sl_drop (f := hashA) l _ _ | exact len_snoc _ _ | exact Nat.le_of_eq (len_snoc _ _).symm | exact sl_snoc (f := hashA) _ _ (A.sim.refl _))); (conv => whnf))
      | (refine D.callA (c1) rfl rfl rfl rfl hΓ rfl ?_; (conv => whnf); refine ⟨rfl, rfl, rfl, ?_, ?_, ?_, ?_⟩; (focus ((repeat' apply And.intro) <;> first | exact trivial | with_reducible exact rfl | exact fun _ _ => A.sim.refl _ | exact A.sim.refl _ | exact rfl | exact Nat.le_refl _ | omega | exact fun i _ => shift_sim _ _ i | exact fun _ _ => trivial | exact fun _ h => absurd h (Nat.not_lt_zero _) | exact ht.1.symm | exact ht.2.symm | exact sl_take (f := hashA) l _ | exact sl_drop (f := hashA) l _ _ | exact len_snoc _ _ | exact Nat.le_of_eq (len_snoc _ _).symm | exact sl_snoc (f := hashA) _ _ (A.sim.refl _))); (focus ((repeat' apply And.intro) <;> first | exact trivial | with_reducible exact rfl | exact fun _ _ => A.sim.refl _ | exact A.sim.refl _ | exact rfl | exact Nat.le_refl _ | omega | exact fun i _ => shift_sim _ _ i | exact fun _ _ => trivial | exact fun _ h => absurd h (Nat.not_lt_zero _) | exact ht.1.symm | exact ht.2.symm | exact sl_take (f := hashA) l _ | exact sl_drop (f := hashA) l _ _ | exact len_snoc _ _ | exact Nat.le_of_eq (len_snoc _ _).symm | exact sl_snoc (f := hashA) _ _ (A.sim.refl _))); (focus ((repeat' apply And.intro) <;> first | exact trivial | with_reducible exact rfl | exact fun _ _ => A.sim.refl _ | exact A.sim.refl _ | exact rfl | exact Nat.le_refl _ | omega | exact fun i _ => shift_sim _ _ i | exact fun _ _ => trivial | exact fun _ h => absurd h (Nat.not_lt_zero _) | exact ht.1.symm | exact ht.2.symm | exact sl_take (f := hashA) l _ | exact sl_drop (f := hashA) l _ _ | exact len_snoc _ _ | exact Nat.le_of_eq (len_snoc _ _).symm | exact sl_snoc (f := hashA) _ _ (A.sim.refl _))); (conv => whnf))
      | (refine W.callA (c1) rfl rfl rfl rfl hΓ rfl ?_; (conv => whnf); refine ⟨rfl, rfl, ?_, ?_, ?_, ?_⟩; (focus ((repeat' apply And.intro) <;> first | exact trivial | with_reducible exact rfl | exact fun _ _ => A.sim.refl _ | exact A.sim.refl _ | exact rfl | exact Nat.le_refl _ | omega | exact fun i _ => shift_sim _ _ i | exact fun _ _ => trivial | exact fun _ h => absurd h (Nat.not_lt_zero _) | exact ht.1.symm | exact ht.2.symm | exact sl_take (f := hashA) l _ | exact sl_drop (f := hashA) l _ _ | exact len_snoc _ _ | exact Nat.le_of_eq (len_snoc _ _).symm | exact sl_snoc (f := hashA) _ _ (A.sim.refl _))); (focus ((repeat' apply And.intro) <;> first | exact trivial | with_reducible exact rfl | exact fun _ _ => A.sim.refl _ | exact A.sim.refl _ | exact rfl | exact Nat.le_refl _ | omega | exact fun i _ => shift_sim _ _ i | exact fun _ _ => trivial | exact fun _ h => absurd h (Nat.not_lt_zero _) | exact ht.1.symm | exact ht.2.symm | exact sl_take (f := hashA) l _ | exact sl_drop (f := hashA) l _ _ | exact len_snoc _ _ | exact Nat.le_of_eq (len_snoc _ _).symm | exact sl_snoc (f := hashA) _ _ (A.sim.refl _))); (focus ((repeat' apply And.intro) <;> first | exact trivial | with_reducible exact rfl | exact fun _ _ => A.sim.refl _ | exact A.sim.refl _ | exact rfl | exact Nat.le_refl _ | omega | exact fun i _ => shift_sim _ _ i | exact fun _ _ => trivial | exact fun _ h => absurd h (Nat.not_lt_zero _) | exact ht.1.symm | exact ht.2.symm | exact sl_take (f := hashA) l _ | exact sl_drop (f := hashA) l _ _ | exact len_snoc _ _ | exact Nat.le_of_eq (len_snoc _ _).symm | exact sl_snoc (f := hashA) _ _ (A.sim.refl _))); (conv => whnf))
      | (refine D.callA (rroot_does _ (l.drop (splitS l.length)) rfl (by omega) (all_drop h32 _)) rfl rfl rfl rfl hΓ rfl ?_; (conv => whnf); refine ⟨rfl, rfl, rfl, ?_, ?_, ?_, ?_⟩; (focus ((repeat' apply And.intro) <;> first | exact trivial | with_reducible exact rfl | exact fun _ _ => A.sim.refl _ | exact A.sim.refl _ | exact rfl | exact Nat.le_refl _ | omega | exact fun i _ => shift_sim _ _ i | exact fun _ _ => trivial | exact fun _ h => absurd h (Nat.not_lt_zero _) | exact ht.1.symm | exact ht.2.symm | exact sl_take (f := hashA) l _ | exact sl_drop (f := hashA) l _ _ | exact len_snoc _ _ | exact Nat.le_of_eq (len_snoc _ _).symm | exact sl_snoc (f := hashA) _ _ (A.sim.refl _))); (focus ((repeat' apply And.intro) <;> first | exact trivial | with_reducible exact rfl | exact fun _ _ => A.sim.refl _ | exact A.sim.refl _ | exact rfl | exact Nat.le_refl _ | omega | exact fun i _ => shift_sim _ _ i | exact fun _ _ => trivial | exact fun _ h => absurd h (Nat.not_lt_zero _) | exact ht.1.symm | exact ht.2.symm | exact sl_take (f := hashA) l _ | exact sl_drop (f := hashA) l _ _ | exact len_snoc _ _ | exact Nat.le_of_eq (len_snoc _ _).symm | exact sl_snoc (f := hashA) _ _ (A.sim.refl _))); (focus ((repeat' apply And.intro) <;> first | exact trivial | with_reducible exact rfl | exact fun _ _ => A.sim.refl _ | exact A.sim.refl _ | exact rfl | exact Nat.le_refl _ | omega | exact fun i _ => shift_sim _ _ i | exact fun _ _ => trivial | exact fun _ h => absurd h (Nat.not_lt_zero _) | exact ht.1.symm | exact ht.2.symm | exact sl_take (f := hashA) l _ | exact sl_drop (f := hashA) l _ _ | exact len_snoc _ _ | exact Nat.le_of_eq (len_snoc _ _).symm | exact sl_snoc (f := hashA) _ _ (A.sim.refl _))); (conv => whnf))
      | (refine W.callA (rroot_does _ (l.drop (splitS l.length)) rfl (by omega) (all_drop h32 _)) rfl rfl rfl rfl hΓ rfl ?_; (conv => whnf); refine ⟨rfl, rfl, ?_, ?_, ?_, ?_⟩; (focus ((repeat' apply And.intro) <;> first | exact trivial | with_reducible exact rfl | exact fun _ _ => A.sim.refl _ | exact A.sim.refl _ | exact rfl | exact Nat.le_refl _ | omega | exact fun i _ => shift_sim _ _ i | exact fun _ _ => trivial | exact fun _ h => absurd h (Nat.not_lt_zero _) | exact ht.1.symm | exact ht.2.symm | exact sl_take (f := hashA) l _ | exact sl_drop (f := hashA) l _ _ | exact len_snoc _ _ | exact Nat.le_of_eq (len_snoc _ _).symm | exact sl_snoc (f := hashA) _ _ (A.sim.refl _))); (focus ((repeat' apply And.intro) <;> first | exact trivial | with_reducible exact rfl | exact fun _ _ => A.sim.refl _ | exact A.sim.refl _ | exact rfl | exact Nat.le_refl _ | omega | exact fun i _ => shift_sim _ _ i | exact fun _ _ => trivial | exact fun _ h => absurd h (Nat.not_lt_zero _) | exact ht.1.symm | exact ht.2.symm | exact sl_take (f := hashA) l _ | exact sl_drop (f := hashA) l _ _ | exact len_snoc _ _ | exact Nat.le_of_eq (len_snoc _ _).symm | exact sl_snoc (f := hashA) _ _ (A.sim.refl _))); (focus ((repeat' apply And.intro) <;> first | exact trivial | with_reducible exact rfl | exact fun _ _ => A.sim.refl _ | exact A.sim.refl _ | exact rfl | exact Nat.le_refl _ | omega | exact fun i _ => shift_sim _ _ i | exact fun _ _ => trivial | exact fun _ h => absurd h (Nat.not_lt_zero _) | exact ht.1.symm | exact ht.2.symm | exact sl_take (f := hashA) l _ | exact sl_drop (f := hashA) l _ _ | exact len_snoc _ _ | exact Nat.le_of_eq (len_snoc _ _).symm | exact sl_snoc (f := hashA) _ _ (A.sim.refl _))); (conv => whnf))
      | (refine W.go TOK 60 hΓ 1000 rfl ?_; (conv => whnf); refine ⟨?_, ?_⟩)
      | (refine D.go TOK 60 hΓ 1000 rfl ?_; (conv => whnf); refine ⟨?_, ?_⟩)
      | (refine W.drawn rfl rfl ?_; refine D.run TOK 60 hΓ 1000 ?_; (conv => whnf); refine ⟨?_, ?_⟩)
    all_goals (repeat' apply And.intro)
    all_goals try (first
      | exact trivial
      | exact rfl
      | exact fun _ _ => A.sim.refl _
      | exact A.sim.refl _
      | exact Nat.le_refl _
      | omega
      | exact fun _ _ => trivial
      | exact fun i _ => shift_sim _ _ i
      | exact fun _ h => absurd h (Nat.not_lt_zero _)
      | exact fun i _ => isInt_byteAt _ i
      | exact ht.1.symm
      | exact ht.2.symm
      | exact sl_take (f := hashA) l _
      | exact sl_drop (f := hashA) l _ _
      | exact len_snoc _ _
      | exact Nat.le_of_eq (len_snoc _ _).symm
      | exact sl_snoc (f := hashA) _ _ (A.sim.refl _)
      | (simp only [allP, List.nil_append, List.append_nil, List.cons_append, List.append_eq, and_true, true_and, inr_i64, inr_u8, inr_u64, min_i64, max_i64, min_u64, max_u64, min_u8, max_u8, A.purePL, A.pureP, A.sureP, A.surePL, Int.toNat_natCast, addI, cHi, cLo, hiN, loN, subO, addO, hasIdx, cond_true, cond_false]; done)
      | (simp only [allP, List.nil_append, List.append_nil, List.cons_append, List.append_eq, and_true, true_and, inr_i64, inr_u8, inr_u64, min_i64, max_i64, min_u64, max_u64, min_u8, max_u8, A.purePL, A.pureP, A.sureP, A.surePL, Int.toNat_natCast, addI, cHi, cLo, hiN, loN, subO, addO, hasIdx, cond_true, cond_false]; omega)
      | (simp only [allP, List.nil_append, List.append_nil, List.cons_append, List.append_eq, and_true, true_and, inr_i64, inr_u8, inr_u64, min_i64, max_i64, min_u64, max_u64, min_u8, max_u8, A.purePL, A.pureP, A.sureP, A.surePL, Int.toNat_natCast, addI, cHi, cLo, hiN, loN, subO, addO, hasIdx, cond_true, cond_false]; (repeat' apply And.intro) <;> first | exact trivial | rfl | omega | decide)
      )
  · rw [pathS_two h2, if_neg hik]
    have c2 := c2 (by omega)
    have hi1 : (i : Int) - (splitS l.length : Nat) = ((i - splitS l.length : Nat) : Int) := by omega
    refine Does.intro (fn := Try.f18) Try.func18 rfl rfl fun Γ hΓ => ?_
    refine W.run TOK 60 hΓ 1000 ?_
    conv => whnf
    refine ⟨?_, ?_⟩
    repeat' first
      | assumption
      | exact Bool.noConfusion hb
      | exact absurd hb (by decide)
      | (exfalso; omega)
      | (refine W.retA TOK rfl ?_; (conv => whnf); refine ⟨rfl, rfl, rfl, rfl, rfl, rfl, ?_, ?_, ?_⟩)
      | (refine W.branch rfl (fun hb => ?_) (fun hb => ?_) <;> ((try simp only [decide_eq_true_eq, decide_eq_false_iff_not, Bool.not_eq_true', Bool.not_eq_false', Int.not_lt, Int.not_le, cond_true, cond_false, reduceCtorEq, Int.toNat_natCast, addI] at hb); (try replace hb := of_decide_eq_true hb); (try replace hb := of_decide_eq_false hb)))
      | (refine D.branch rfl (fun hb => ?_) (fun hb => ?_) <;> ((try simp only [decide_eq_true_eq, decide_eq_false_iff_not, Bool.not_eq_true', Bool.not_eq_false', Int.not_lt, Int.not_le, cond_true, cond_false, reduceCtorEq, Int.toNat_natCast, addI] at hb); (try replace hb := of_decide_eq_true hb); (try replace hb := of_decide_eq_false hb)))
      | (refine D.callA (rsplit_does l.length (inr_i64.2 (by omega))) rfl rfl rfl rfl hΓ rfl ?_; (conv => whnf); refine ⟨rfl, rfl, rfl, ?_, ?_, ?_, ?_⟩; (focus ((repeat' apply And.intro) <;> first | exact trivial | with_reducible exact rfl | exact fun _ _ => A.sim.refl _ | exact A.sim.refl _ | exact rfl | exact Nat.le_refl _ | omega | exact fun i _ => shift_sim _ _ i | exact fun _ _ => trivial | exact fun _ h => absurd h (Nat.not_lt_zero _) | exact ht.1.symm | exact ht.2.symm | exact sl_take (f := hashA) l _ | exact sl_drop (f := hashA) l _ _ | exact len_snoc _ _ | exact Nat.le_of_eq (len_snoc _ _).symm | exact sl_snoc (f := hashA) _ _ (A.sim.refl _) | exact hi1)); (focus ((repeat' apply And.intro) <;> first | exact trivial | with_reducible exact rfl | exact fun _ _ => A.sim.refl _ | exact A.sim.refl _ | exact rfl | exact Nat.le_refl _ | omega | exact fun i _ => shift_sim _ _ i | exact fun _ _ => trivial | exact fun _ h => absurd h (Nat.not_lt_zero _) | exact ht.1.symm | exact ht.2.symm | exact sl_take (f := hashA) l _ | exact sl_drop (f := hashA) l _ _ | exact len_snoc _ _ | exact Nat.le_of_eq (len_snoc _ _).symm | exact sl_snoc (f := hashA) _ _ (A.sim.refl _) | exact hi1)); (focus ((repeat' apply And.intro) <;> first | exact trivial | with_reducible exact rfl | exact fun _ _ => A.sim.refl _ | exact A.sim.refl _ | exact rfl | exact Nat.le_refl _ | omega | exact fun i _ => shift_sim _ _ i | exact fun _ _ => trivial | exact fun _ h => absurd h (Nat.not_lt_zero _) | exact ht.1.symm | exact ht.2.symm | exact sl_take (f := hashA) l _ | exact sl_drop (f := hashA) l _ _ | exact len_snoc _ _ | exact Nat.le_of_eq (len_snoc _ _).symm | exact sl_snoc (f := hashA) _ _ (A.sim.refl _) | exact hi1)); (conv => whnf))
      | (refine W.callA (rsplit_does l.length (inr_i64.2 (by omega))) rfl rfl rfl rfl hΓ rfl ?_; (conv => whnf); refine ⟨rfl, rfl, ?_, ?_, ?_, ?_⟩; (focus ((repeat' apply And.intro) <;> first | exact trivial | with_reducible exact rfl | exact fun _ _ => A.sim.refl _ | exact A.sim.refl _ | exact rfl | exact Nat.le_refl _ | omega | exact fun i _ => shift_sim _ _ i | exact fun _ _ => trivial | exact fun _ h => absurd h (Nat.not_lt_zero _) | exact ht.1.symm | exact ht.2.symm | exact sl_take (f := hashA) l _ | exact sl_drop (f := hashA) l _ _ | exact len_snoc _ _ | exact Nat.le_of_eq (len_snoc _ _).symm | exact sl_snoc (f := hashA) _ _ (A.sim.refl _) | exact hi1)); (focus ((repeat' apply And.intro) <;> first | exact trivial | with_reducible exact rfl | exact fun _ _ => A.sim.refl _ | exact A.sim.refl _ | exact rfl | exact Nat.le_refl _ | omega | exact fun i _ => shift_sim _ _ i | exact fun _ _ => trivial | exact fun _ h => absurd h (Nat.not_lt_zero _) | exact ht.1.symm | exact ht.2.symm | exact sl_take (f := hashA) l _ | exact sl_drop (f := hashA) l _ _ | exact len_snoc _ _ | exact Nat.le_of_eq (len_snoc _ _).symm | exact sl_snoc (f := hashA) _ _ (A.sim.refl _) | exact hi1)); (focus ((repeat' apply And.intro) <;> first | exact trivial | with_reducible exact rfl | exact fun _ _ => A.sim.refl _ | exact A.sim.refl _ | exact rfl | exact Nat.le_refl _ | omega | exact fun i _ => shift_sim _ _ i | exact fun _ _ => trivial | exact fun _ h => absurd h (Nat.not_lt_zero _) | exact ht.1.symm | exact ht.2.symm | exact sl_take (f := hashA) l _ | exact sl_drop (f := hashA) l _ _ | exact len_snoc _ _ | exact Nat.le_of_eq (len_snoc _ _).symm | exact sl_snoc (f := hashA) _ _ (A.sim.refl _) | exact hi1)); (conv => whnf))
      | (refine D.callA (c2) rfl rfl rfl rfl hΓ rfl ?_; (conv => whnf); refine ⟨rfl, rfl, rfl, ?_, ?_, ?_, ?_⟩; (focus ((repeat' apply And.intro) <;> first | exact trivial | with_reducible exact rfl | exact fun _ _ => A.sim.refl _ | exact A.sim.refl _ | exact rfl | exact Nat.le_refl _ | omega | exact fun i _ => shift_sim _ _ i | exact fun _ _ => trivial | exact fun _ h => absurd h (Nat.not_lt_zero _) | exact ht.1.symm | exact ht.2.symm | exact sl_take (f := hashA) l _ | exact sl_drop (f := hashA) l _ _ | exact len_snoc _ _ | exact Nat.le_of_eq (len_snoc _ _).symm | exact sl_snoc (f := hashA) _ _ (A.sim.refl _) | exact hi1)); (focus ((repeat' apply And.intro) <;> first | exact trivial | with_reducible exact rfl | exact fun _ _ => A.sim.refl _ | exact A.sim.refl _ | exact rfl | exact Nat.le_refl _ | omega | exact fun i _ => shift_sim _ _ i | exact fun _ _ => trivial | exact fun _ h => absurd h (Nat.not_lt_zero _) | exact ht.1.symm | exact ht.2.symm | exact sl_take (f := hashA) l _ | exact sl_drop (f := hashA) l _ _ | exact len_snoc _ _ | exact Nat.le_of_eq (len_snoc _ _).symm | exact sl_snoc (f := hashA) _ _ (A.sim.refl _) | exact hi1)); (focus ((repeat' apply And.intro) <;> first | exact trivial | with_reducible exact rfl | exact fun _ _ => A.sim.refl _ | exact A.sim.refl _ | exact rfl | exact Nat.le_refl _ | omega | exact fun i _ => shift_sim _ _ i | exact fun _ _ => trivial | exact fun _ h => absurd h (Nat.not_lt_zero _) | exact ht.1.symm | exact ht.2.symm | exact sl_take (f := hashA) l _ | exact sl_drop (f := hashA) l _ _ | exact len_snoc _ _ | exact Nat.le_of_eq (len_snoc _ _).symm | exact sl_snoc (f := hashA) _ _ (A.sim.refl _) | exact hi1)); (conv => whnf))
      | (refine W.callA (c2) rfl rfl rfl rfl hΓ rfl ?_; (conv => whnf); refine ⟨rfl, rfl, ?_, ?_, ?_, ?_⟩; (focus ((repeat' apply And.intro) <;> first | exact trivial | with_reducible exact rfl | exact fun _ _ => A.sim.refl _ | exact A.sim.refl _ | exact rfl | exact Nat.le_refl _ | omega | exact fun i _ => shift_sim _ _ i | exact fun _ _ => trivial | exact fun _ h => absurd h (Nat.not_lt_zero _) | exact ht.1.symm | exact ht.2.symm | exact sl_take (f := hashA) l _ | exact sl_drop (f := hashA) l _ _ | exact len_snoc _ _ | exact Nat.le_of_eq (len_snoc _ _).symm | exact sl_snoc (f := hashA) _ _ (A.sim.refl _) | exact hi1)); (focus ((repeat' apply And.intro) <;> first | exact trivial | with_reducible exact rfl | exact fun _ _ => A.sim.refl _ | exact A.sim.refl _ | exact rfl | exact Nat.le_refl _ | omega | exact fun i _ => shift_sim _ _ i | exact fun _ _ => trivial | exact fun _ h => absurd h (Nat.not_lt_zero _) | exact ht.1.symm | exact ht.2.symm | exact sl_take (f := hashA) l _ | exact sl_drop (f := hashA) l _ _ | exact len_snoc _ _ | exact Nat.le_of_eq (len_snoc _ _).symm | exact sl_snoc (f := hashA) _ _ (A.sim.refl _) | exact hi1)); (focus ((repeat' apply And.intro) <;> first | exact trivial | with_reducible exact rfl | exact fun _ _ => A.sim.refl _ | exact A.sim.refl _ | exact rfl | exact Nat.le_refl _ | omega | exact fun i _ => shift_sim _ _ i | exact fun _ _ => trivial | exact fun _ h => absurd h (Nat.not_lt_zero _) | exact ht.1.symm | exact ht.2.symm | exact sl_take (f := hashA) l _ | exact sl_drop (f := hashA) l _ _ | exact len_snoc _ _ | exact Nat.le_of_eq (len_snoc _ _).symm | exact sl_snoc (f := hashA) _ _ (A.sim.refl _) | exact hi1)); (conv => whnf))
      | (refine D.callA (rroot_does _ (l.take (splitS l.length)) rfl (by omega) (all_take h32 _)) rfl rfl rfl rfl hΓ rfl ?_; (conv => whnf); refine ⟨rfl, rfl, rfl, ?_, ?_, ?_, ?_⟩; (focus ((repeat' apply And.intro) <;> first | exact trivial | with_reducible exact rfl | exact fun _ _ => A.sim.refl _ | exact A.sim.refl _ | exact rfl | exact Nat.le_refl _ | omega | exact fun i _ => shift_sim _ _ i | exact fun _ _ => trivial | exact fun _ h => absurd h (Nat.not_lt_zero _) | exact ht.1.symm | exact ht.2.symm | exact sl_take (f := hashA) l _ | exact sl_drop (f := hashA) l _ _ | exact len_snoc _ _ | exact Nat.le_of_eq (len_snoc _ _).symm | exact sl_snoc (f := hashA) _ _ (A.sim.refl _) | exact hi1)); (focus ((repeat' apply And.intro) <;> first | exact trivial | with_reducible exact rfl | exact fun _ _ => A.sim.refl _ | exact A.sim.refl _ | exact rfl | exact Nat.le_refl _ | omega | exact fun i _ => shift_sim _ _ i | exact fun _ _ => trivial | exact fun _ h => absurd h (Nat.not_lt_zero _) | exact ht.1.symm | exact ht.2.symm | exact sl_take (f := hashA) l _ | exact sl_drop (f := hashA) l _ _ | exact len_snoc _ _ | exact Nat.le_of_eq (len_snoc _ _).symm | exact sl_snoc (f := hashA) _ _ (A.sim.refl _) | exact hi1)); (focus ((repeat' apply And.intro) <;> first | exact trivial | with_reducible exact rfl | exact fun _ _ => A.sim.refl _ | exact A.sim.refl _ | exact rfl | exact Nat.le_refl _ | omega | exact fun i _ => shift_sim _ _ i | exact fun _ _ => trivial | exact fun _ h => absurd h (Nat.not_lt_zero _) | exact ht.1.symm | exact ht.2.symm | exact sl_take (f := hashA) l _ | exact sl_drop (f := hashA) l _ _ | exact len_snoc _ _ | exact Nat.le_of_eq (len_snoc _ _).symm | exact sl_snoc (f := hashA) _ _ (A.sim.refl _) | exact hi1)); (conv => whnf))
      | (refine W.callA (rroot_does _ (l.take (splitS l.length)) rfl (by omega) (all_take h32 _)) rfl rfl rfl rfl hΓ rfl ?_; (conv => whnf); refine ⟨rfl, rfl, ?_, ?_, ?_, ?_⟩; (focus ((repeat' apply And.intro) <;> first | exact trivial | with_reducible exact rfl | exact fun _ _ => A.sim.refl _ | exact A.sim.refl _ | exact rfl | exact Nat.le_refl _ | omega | exact fun i _ => shift_sim _ _ i | exact fun _ _ => trivial | exact fun _ h => absurd h (Nat.not_lt_zero _) | exact ht.1.symm | exact ht.2.symm | exact sl_take (f := hashA) l _ | exact sl_drop (f := hashA) l _ _ | exact len_snoc _ _ | exact Nat.le_of_eq (len_snoc _ _).symm | exact sl_snoc (f := hashA) _ _ (A.sim.refl _) | exact hi1)); (focus ((repeat' apply And.intro) <;> first | exact trivial | with_reducible exact rfl | exact fun _ _ => A.sim.refl _ | exact A.sim.refl _ | exact rfl | exact Nat.le_refl _ | omega | exact fun i _ => shift_sim _ _ i | exact fun _ _ => trivial | exact fun _ h => absurd h (Nat.not_lt_zero _) | exact ht.1.symm | exact ht.2.symm | exact sl_take (f := hashA) l _ | exact sl_drop (f := hashA) l _ _ | exact len_snoc _ _ | exact Nat.le_of_eq (len_snoc _ _).symm | exact sl_snoc (f := hashA) _ _ (A.sim.refl _) | exact hi1)); (focus ((repeat' apply And.intro) <;> first | exact trivial | with_reducible exact rfl | exact fun _ _ => A.sim.refl _ | exact A.sim.refl _ | exact rfl | exact Nat.le_refl _ | omega | exact fun i _ => shift_sim _ _ i | exact fun _ _ => trivial | exact fun _ h => absurd h (Nat.not_lt_zero _) | exact ht.1.symm | exact ht.2.symm | exact sl_take (f := hashA) l _ | exact sl_drop (f := hashA) l _ _ | exact len_snoc _ _ | exact Nat.le_of_eq (len_snoc _ _).symm | exact sl_snoc (f := hashA) _ _ (A.sim.refl _) | exact hi1)); (conv => whnf))
      | (refine W.go TOK 60 hΓ 1000 rfl ?_; (conv => whnf); refine ⟨?_, ?_⟩)
      | (refine D.go TOK 60 hΓ 1000 rfl ?_; (conv => whnf); refine ⟨?_, ?_⟩)
      | (refine W.drawn rfl rfl ?_; refine D.run TOK 60 hΓ 1000 ?_; (conv => whnf); refine ⟨?_, ?_⟩)
    all_goals (repeat' apply And.intro)
    all_goals try (first
      | exact trivial
      | exact rfl
      | exact fun _ _ => A.sim.refl _
      | exact A.sim.refl _
      | exact Nat.le_refl _
      | omega
      | exact fun _ _ => trivial
      | exact fun i _ => shift_sim _ _ i
      | exact fun _ h => absurd h (Nat.not_lt_zero _)
      | exact fun i _ => isInt_byteAt _ i
      | exact ht.1.symm
      | exact ht.2.symm
      | exact sl_take (f := hashA) l _
      | exact sl_drop (f := hashA) l _ _
      | exact len_snoc _ _
      | exact Nat.le_of_eq (len_snoc _ _).symm
      | exact sl_snoc (f := hashA) _ _ (A.sim.refl _)
      | (simp only [allP, List.nil_append, List.append_nil, List.cons_append, List.append_eq, and_true, true_and, inr_i64, inr_u8, inr_u64, min_i64, max_i64, min_u64, max_u64, min_u8, max_u8, A.purePL, A.pureP, A.sureP, A.surePL, Int.toNat_natCast, addI, cHi, cLo, hiN, loN, subO, addO, hasIdx, cond_true, cond_false]; done)
      | (simp only [allP, List.nil_append, List.append_nil, List.cons_append, List.append_eq, and_true, true_and, inr_i64, inr_u8, inr_u64, min_i64, max_i64, min_u64, max_u64, min_u8, max_u8, A.purePL, A.pureP, A.sureP, A.surePL, Int.toNat_natCast, addI, cHi, cLo, hiN, loN, subO, addO, hasIdx, cond_true, cond_false]; omega)
      | (simp only [allP, List.nil_append, List.append_nil, List.cons_append, List.append_eq, and_true, true_and, inr_i64, inr_u8, inr_u64, min_i64, max_i64, min_u64, max_u64, min_u8, max_u8, A.purePL, A.pureP, A.sureP, A.surePL, Int.toNat_natCast, addI, cHi, cLo, hiN, loN, subO, addO, hasIdx, cond_true, cond_false]; (repeat' apply And.intro) <;> first | exact trivial | rfl | omega | decide)
      )

theorem climb_does : ∀ (n i : Nat) (leaf : Hs) (p : List Hs), n ≤ 9223372036854775807 → p.length ≤ 1000000000 → leaf.length = 32 → (∀ x ∈ p, x.length = 32) → i < n → Does Try.prog 26 [.int .i64 n, .int .i64 i, hashA leaf, sl 32 hashA p] [] [] (Is (climbA (climbS n i leaf p)) []) := by
  intro n
  induction n using Nat.strongRecOn with
  | _ n IH =>
  intro i leaf p hn9 hp9 hl hp him
  by_cases h2 : 2 ≤ n
  rotate_left
  · have hs0 := splitS_small (n := n) (by omega)
    rw [climbS_small (by omega)]
    refine Does.intro (fn := Try.f26) Try.func26 rfl rfl fun Γ hΓ => ?_
    refine W.run TOK 74 hΓ 1000 ?_
    conv => whnf
    refine ⟨?_, ?_⟩
    repeat' first
      | assumption
      | exact Bool.noConfusion hb
      | exact absurd hb (by decide)
      | exact absurd hs0 hb
      | (exfalso; omega)
      | (refine W.retA TOK rfl ?_; (conv => whnf); refine ⟨rfl, rfl, rfl, rfl, rfl, rfl, ?_, ?_, ?_⟩)
      | (refine W.branch rfl (fun hb => ?_) (fun hb => ?_) <;> ((try simp only [decide_eq_true_eq, decide_eq_false_iff_not, Bool.not_eq_true', Bool.not_eq_false', Int.not_lt, Int.not_le, cond_true, cond_false, reduceCtorEq, Int.toNat_natCast, addI] at hb); (try replace hb := of_decide_eq_true hb); (try replace hb := of_decide_eq_false hb)))
      | (refine D.branch rfl (fun hb => ?_) (fun hb => ?_) <;> ((try simp only [decide_eq_true_eq, decide_eq_false_iff_not, Bool.not_eq_true', Bool.not_eq_false', Int.not_lt, Int.not_le, cond_true, cond_false, reduceCtorEq, Int.toNat_natCast, addI] at hb); (try replace hb := of_decide_eq_true hb); (try replace hb := of_decide_eq_false hb)))
      | (refine D.callA (split_does n (inr_i64.2 (by omega))) rfl rfl rfl rfl hΓ rfl ?_; (conv => whnf); refine ⟨rfl, rfl, rfl, ?_, ?_, ?_, ?_⟩; (focus ((repeat' apply And.intro) <;> first | exact trivial | with_reducible exact rfl | exact fun _ _ => A.sim.refl _ | exact A.sim.refl _ | exact rfl | exact Nat.le_refl _ | omega | exact fun i _ => shift_sim _ _ i | exact fun _ _ => trivial | exact fun _ h => absurd h (Nat.not_lt_zero _))); (focus ((repeat' apply And.intro) <;> first | exact trivial | with_reducible exact rfl | exact fun _ _ => A.sim.refl _ | exact A.sim.refl _ | exact rfl | exact Nat.le_refl _ | omega | exact fun i _ => shift_sim _ _ i | exact fun _ _ => trivial | exact fun _ h => absurd h (Nat.not_lt_zero _))); (focus ((repeat' apply And.intro) <;> first | exact trivial | with_reducible exact rfl | exact fun _ _ => A.sim.refl _ | exact A.sim.refl _ | exact rfl | exact Nat.le_refl _ | omega | exact fun i _ => shift_sim _ _ i | exact fun _ _ => trivial | exact fun _ h => absurd h (Nat.not_lt_zero _))); (conv => whnf))
      | (refine W.callA (split_does n (inr_i64.2 (by omega))) rfl rfl rfl rfl hΓ rfl ?_; (conv => whnf); refine ⟨rfl, rfl, ?_, ?_, ?_, ?_⟩; (focus ((repeat' apply And.intro) <;> first | exact trivial | with_reducible exact rfl | exact fun _ _ => A.sim.refl _ | exact A.sim.refl _ | exact rfl | exact Nat.le_refl _ | omega | exact fun i _ => shift_sim _ _ i | exact fun _ _ => trivial | exact fun _ h => absurd h (Nat.not_lt_zero _))); (focus ((repeat' apply And.intro) <;> first | exact trivial | with_reducible exact rfl | exact fun _ _ => A.sim.refl _ | exact A.sim.refl _ | exact rfl | exact Nat.le_refl _ | omega | exact fun i _ => shift_sim _ _ i | exact fun _ _ => trivial | exact fun _ h => absurd h (Nat.not_lt_zero _))); (focus ((repeat' apply And.intro) <;> first | exact trivial | with_reducible exact rfl | exact fun _ _ => A.sim.refl _ | exact A.sim.refl _ | exact rfl | exact Nat.le_refl _ | omega | exact fun i _ => shift_sim _ _ i | exact fun _ _ => trivial | exact fun _ h => absurd h (Nat.not_lt_zero _))); (conv => whnf))
      | (refine W.go TOK 74 hΓ 1000 rfl ?_; (conv => whnf); refine ⟨?_, ?_⟩)
      | (refine D.go TOK 74 hΓ 1000 rfl ?_; (conv => whnf); refine ⟨?_, ?_⟩)
      | (refine W.drawn rfl rfl ?_; refine D.run TOK 74 hΓ 1000 ?_; (conv => whnf); refine ⟨?_, ?_⟩)
    all_goals (repeat' apply And.intro)
    all_goals try (first
      | exact trivial
      | exact rfl
      | exact fun _ _ => A.sim.refl _
      | exact A.sim.refl _
      | exact Nat.le_refl _
      | omega
      | exact fun _ _ => trivial
      | exact fun i _ => shift_sim _ _ i
      | exact fun _ h => absurd h (Nat.not_lt_zero _)
      | exact fun i _ => isInt_byteAt _ i
      | (simp only [allP, List.nil_append, List.append_nil, List.cons_append, List.append_eq, and_true, true_and, inr_i64, inr_u8, inr_u64, min_i64, max_i64, min_u64, max_u64, min_u8, max_u8, A.purePL, A.pureP, A.sureP, A.surePL, Int.toNat_natCast, addI, cHi, cLo, hiN, loN, subO, addO, hasIdx, cond_true, cond_false]; done)
      | (simp only [allP, List.nil_append, List.append_nil, List.cons_append, List.append_eq, and_true, true_and, inr_i64, inr_u8, inr_u64, min_i64, max_i64, min_u64, max_u64, min_u8, max_u8, A.purePL, A.pureP, A.sureP, A.surePL, Int.toNat_natCast, addI, cHi, cLo, hiN, loN, subO, addO, hasIdx, cond_true, cond_false]; omega)
      | (simp only [allP, List.nil_append, List.append_nil, List.cons_append, List.append_eq, and_true, true_and, inr_i64, inr_u8, inr_u64, min_i64, max_i64, min_u64, max_u64, min_u8, max_u8, A.purePL, A.pureP, A.sureP, A.surePL, Int.toNat_natCast, addI, cHi, cLo, hiN, loN, subO, addO, hasIdx, cond_true, cond_false]; (repeat' apply And.intro) <;> first | exact trivial | rfl | omega | decide)
      )
  have hk := splitS_facts h2
  by_cases hik : i < splitS n
  · have hi1 : (i : Int) < (splitS n : Nat) := by omega
    have hd1 : (n : Int) - (splitS n : Nat) = ((n - splitS n : Nat) : Int) := by omega
    have hc := climbS_two h2 i leaf p
    rw [if_pos hik] at hc
    have c1 := IH (splitS n) hk.2.1 i leaf p (by omega) hp9 hl hp (by omega)
    have h32 := climbS_32 (splitS n) i leaf p hl hp
    cases e : climbS (splitS n) i leaf p with
    | none =>
      rw [e] at c1 hc
      have hc : climbS n i leaf p = none := hc
      rw [hc]
      refine Does.intro (fn := Try.f26) Try.func26 rfl rfl fun Γ hΓ => ?_
      refine W.run TOK 74 hΓ 1000 ?_
      conv => whnf
      refine ⟨?_, ?_⟩
      repeat' first
        | assumption
        | exact Bool.noConfusion hb
        | exact absurd hb (by decide)
        | (exfalso; omega)
        | (refine W.retA TOK rfl ?_; (conv => whnf); refine ⟨rfl, rfl, rfl, rfl, rfl, rfl, ?_, ?_, ?_⟩)
        | (refine W.branch rfl (fun hb => ?_) (fun hb => ?_) <;> ((try simp only [decide_eq_true_eq, decide_eq_false_iff_not, Bool.not_eq_true', Bool.not_eq_false', Int.not_lt, Int.not_le, cond_true, cond_false, reduceCtorEq, Int.toNat_natCast, addI] at hb); (try replace hb := of_decide_eq_true hb); (try replace hb := of_decide_eq_false hb)))
        | (refine D.branch rfl (fun hb => ?_) (fun hb => ?_) <;> ((try simp only [decide_eq_true_eq, decide_eq_false_iff_not, Bool.not_eq_true', Bool.not_eq_false', Int.not_lt, Int.not_le, cond_true, cond_false, reduceCtorEq, Int.toNat_natCast, addI] at hb); (try replace hb := of_decide_eq_true hb); (try replace hb := of_decide_eq_false hb)))
        | (refine D.callA (split_does n (inr_i64.2 (by omega))) rfl rfl rfl rfl hΓ rfl ?_; (conv => whnf); refine ⟨rfl, rfl, rfl, ?_, ?_, ?_, ?_⟩; (focus ((repeat' apply And.intro) <;> first | exact trivial | with_reducible exact rfl | exact fun _ _ => A.sim.refl _ | exact A.sim.refl _ | exact rfl | exact Nat.le_refl _ | omega | exact fun i _ => shift_sim _ _ i | exact fun _ _ => trivial | exact fun _ h => absurd h (Nat.not_lt_zero _) | exact hi1 | exact hd1)); (focus ((repeat' apply And.intro) <;> first | exact trivial | with_reducible exact rfl | exact fun _ _ => A.sim.refl _ | exact A.sim.refl _ | exact rfl | exact Nat.le_refl _ | omega | exact fun i _ => shift_sim _ _ i | exact fun _ _ => trivial | exact fun _ h => absurd h (Nat.not_lt_zero _) | exact hi1 | exact hd1)); (focus ((repeat' apply And.intro) <;> first | exact trivial | with_reducible exact rfl | exact fun _ _ => A.sim.refl _ | exact A.sim.refl _ | exact rfl | exact Nat.le_refl _ | omega | exact fun i _ => shift_sim _ _ i | exact fun _ _ => trivial | exact fun _ h => absurd h (Nat.not_lt_zero _) | exact hi1 | exact hd1)); (conv => whnf))
        | (refine W.callA (split_does n (inr_i64.2 (by omega))) rfl rfl rfl rfl hΓ rfl ?_; (conv => whnf); refine ⟨rfl, rfl, ?_, ?_, ?_, ?_⟩; (focus ((repeat' apply And.intro) <;> first | exact trivial | with_reducible exact rfl | exact fun _ _ => A.sim.refl _ | exact A.sim.refl _ | exact rfl | exact Nat.le_refl _ | omega | exact fun i _ => shift_sim _ _ i | exact fun _ _ => trivial | exact fun _ h => absurd h (Nat.not_lt_zero _) | exact hi1 | exact hd1)); (focus ((repeat' apply And.intro) <;> first | exact trivial | with_reducible exact rfl | exact fun _ _ => A.sim.refl _ | exact A.sim.refl _ | exact rfl | exact Nat.le_refl _ | omega | exact fun i _ => shift_sim _ _ i | exact fun _ _ => trivial | exact fun _ h => absurd h (Nat.not_lt_zero _) | exact hi1 | exact hd1)); (focus ((repeat' apply And.intro) <;> first | exact trivial | with_reducible exact rfl | exact fun _ _ => A.sim.refl _ | exact A.sim.refl _ | exact rfl | exact Nat.le_refl _ | omega | exact fun i _ => shift_sim _ _ i | exact fun _ _ => trivial | exact fun _ h => absurd h (Nat.not_lt_zero _) | exact hi1 | exact hd1)); (conv => whnf))
        | (refine D.callA (c1) rfl rfl rfl rfl hΓ rfl ?_; (conv => whnf); refine ⟨rfl, rfl, rfl, ?_, ?_, ?_, ?_⟩; (focus ((repeat' apply And.intro) <;> first | exact trivial | with_reducible exact rfl | exact fun _ _ => A.sim.refl _ | exact A.sim.refl _ | exact rfl | exact Nat.le_refl _ | omega | exact fun i _ => shift_sim _ _ i | exact fun _ _ => trivial | exact fun _ h => absurd h (Nat.not_lt_zero _) | exact hi1 | exact hd1)); (focus ((repeat' apply And.intro) <;> first | exact trivial | with_reducible exact rfl | exact fun _ _ => A.sim.refl _ | exact A.sim.refl _ | exact rfl | exact Nat.le_refl _ | omega | exact fun i _ => shift_sim _ _ i | exact fun _ _ => trivial | exact fun _ h => absurd h (Nat.not_lt_zero _) | exact hi1 | exact hd1)); (focus ((repeat' apply And.intro) <;> first | exact trivial | with_reducible exact rfl | exact fun _ _ => A.sim.refl _ | exact A.sim.refl _ | exact rfl | exact Nat.le_refl _ | omega | exact fun i _ => shift_sim _ _ i | exact fun _ _ => trivial | exact fun _ h => absurd h (Nat.not_lt_zero _) | exact hi1 | exact hd1)); (conv => whnf))
        | (refine W.callA (c1) rfl rfl rfl rfl hΓ rfl ?_; (conv => whnf); refine ⟨rfl, rfl, ?_, ?_, ?_, ?_⟩; (focus ((repeat' apply And.intro) <;> first | exact trivial | with_reducible exact rfl | exact fun _ _ => A.sim.refl _ | exact A.sim.refl _ | exact rfl | exact Nat.le_refl _ | omega | exact fun i _ => shift_sim _ _ i | exact fun _ _ => trivial | exact fun _ h => absurd h (Nat.not_lt_zero _) | exact hi1 | exact hd1)); (focus ((repeat' apply And.intro) <;> first | exact trivial | with_reducible exact rfl | exact fun _ _ => A.sim.refl _ | exact A.sim.refl _ | exact rfl | exact Nat.le_refl _ | omega | exact fun i _ => shift_sim _ _ i | exact fun _ _ => trivial | exact fun _ h => absurd h (Nat.not_lt_zero _) | exact hi1 | exact hd1)); (focus ((repeat' apply And.intro) <;> first | exact trivial | with_reducible exact rfl | exact fun _ _ => A.sim.refl _ | exact A.sim.refl _ | exact rfl | exact Nat.le_refl _ | omega | exact fun i _ => shift_sim _ _ i | exact fun _ _ => trivial | exact fun _ h => absurd h (Nat.not_lt_zero _) | exact hi1 | exact hd1)); (conv => whnf))
        | (refine W.go TOK 74 hΓ 1000 rfl ?_; (conv => whnf); refine ⟨?_, ?_⟩)
        | (refine D.go TOK 74 hΓ 1000 rfl ?_; (conv => whnf); refine ⟨?_, ?_⟩)
        | (refine W.drawn rfl rfl ?_; refine D.run TOK 74 hΓ 1000 ?_; (conv => whnf); refine ⟨?_, ?_⟩)
      all_goals (repeat' apply And.intro)
      all_goals try (first
        | exact trivial
        | exact rfl
        | exact fun _ _ => A.sim.refl _
        | exact A.sim.refl _
        | exact Nat.le_refl _
        | omega
        | exact fun _ _ => trivial
        | exact fun i _ => shift_sim _ _ i
        | exact fun _ h => absurd h (Nat.not_lt_zero _)
        | exact fun i _ => isInt_byteAt _ i
        | exact zlit_sim
        | exact fun i _ => zero32_sim i
        | (simp only [allP, List.nil_append, List.append_nil, List.cons_append, List.append_eq, and_true, true_and, inr_i64, inr_u8, inr_u64, min_i64, max_i64, min_u64, max_u64, min_u8, max_u8, A.purePL, A.pureP, A.sureP, A.surePL, Int.toNat_natCast, addI, cHi, cLo, hiN, loN, subO, addO, hasIdx, cond_true, cond_false]; done)
        | (simp only [allP, List.nil_append, List.append_nil, List.cons_append, List.append_eq, and_true, true_and, inr_i64, inr_u8, inr_u64, min_i64, max_i64, min_u64, max_u64, min_u8, max_u8, A.purePL, A.pureP, A.sureP, A.surePL, Int.toNat_natCast, addI, cHi, cLo, hiN, loN, subO, addO, hasIdx, cond_true, cond_false]; omega)
        | (simp only [allP, List.nil_append, List.append_nil, List.cons_append, List.append_eq, and_true, true_and, inr_i64, inr_u8, inr_u64, min_i64, max_i64, min_u64, max_u64, min_u8, max_u8, A.purePL, A.pureP, A.sureP, A.surePL, Int.toNat_natCast, addI, cHi, cLo, hiN, loN, subO, addO, hasIdx, cond_true, cond_false]; (repeat' apply And.intro) <;> first | exact trivial | rfl | omega | decide)
        )
    | some hr =>
      obtain ⟨h, r⟩ := hr
      rw [e] at c1 hc
      obtain ⟨q1, q2, q3⟩ := h32 h r e
      match r, hc, c1, q2, q3 with
      | [], hc, c1, q2, q3 =>
        have hc : climbS n i leaf p = none := hc
        rw [hc]
        refine Does.intro (fn := Try.f26) Try.func26 rfl rfl fun Γ hΓ => ?_
        refine W.run TOK 74 hΓ 1000 ?_
        conv => whnf
        refine ⟨?_, ?_⟩
        repeat' first
          | assumption
          | exact Bool.noConfusion hb
          | exact absurd hb (by decide)
          | (exfalso; omega)
          | (exfalso; simp at hb; done)
          | (refine W.retA TOK rfl ?_; (conv => whnf); refine ⟨rfl, rfl, rfl, rfl, rfl, rfl, ?_, ?_, ?_⟩)
          | (refine W.branch rfl (fun hb => ?_) (fun hb => ?_) <;> ((try simp only [decide_eq_true_eq, decide_eq_false_iff_not, Bool.not_eq_true', Bool.not_eq_false', Int.not_lt, Int.not_le, cond_true, cond_false, reduceCtorEq, Int.toNat_natCast, addI] at hb); (try replace hb := of_decide_eq_true hb); (try replace hb := of_decide_eq_false hb)))
          | (refine D.branch rfl (fun hb => ?_) (fun hb => ?_) <;> ((try simp only [decide_eq_true_eq, decide_eq_false_iff_not, Bool.not_eq_true', Bool.not_eq_false', Int.not_lt, Int.not_le, cond_true, cond_false, reduceCtorEq, Int.toNat_natCast, addI] at hb); (try replace hb := of_decide_eq_true hb); (try replace hb := of_decide_eq_false hb)))
          | (refine D.callA (split_does n (inr_i64.2 (by omega))) rfl rfl rfl rfl hΓ rfl ?_; (conv => whnf); refine ⟨rfl, rfl, rfl, ?_, ?_, ?_, ?_⟩; (focus ((repeat' apply And.intro) <;> first | exact trivial | with_reducible exact rfl | exact fun _ _ => A.sim.refl _ | exact A.sim.refl _ | exact rfl | exact Nat.le_refl _ | omega | exact fun i _ => shift_sim _ _ i | exact fun _ _ => trivial | exact fun _ h => absurd h (Nat.not_lt_zero _) | exact hi1 | exact hd1)); (focus ((repeat' apply And.intro) <;> first | exact trivial | with_reducible exact rfl | exact fun _ _ => A.sim.refl _ | exact A.sim.refl _ | exact rfl | exact Nat.le_refl _ | omega | exact fun i _ => shift_sim _ _ i | exact fun _ _ => trivial | exact fun _ h => absurd h (Nat.not_lt_zero _) | exact hi1 | exact hd1)); (focus ((repeat' apply And.intro) <;> first | exact trivial | with_reducible exact rfl | exact fun _ _ => A.sim.refl _ | exact A.sim.refl _ | exact rfl | exact Nat.le_refl _ | omega | exact fun i _ => shift_sim _ _ i | exact fun _ _ => trivial | exact fun _ h => absurd h (Nat.not_lt_zero _) | exact hi1 | exact hd1)); (conv => whnf))
          | (refine W.callA (split_does n (inr_i64.2 (by omega))) rfl rfl rfl rfl hΓ rfl ?_; (conv => whnf); refine ⟨rfl, rfl, ?_, ?_, ?_, ?_⟩; (focus ((repeat' apply And.intro) <;> first | exact trivial | with_reducible exact rfl | exact fun _ _ => A.sim.refl _ | exact A.sim.refl _ | exact rfl | exact Nat.le_refl _ | omega | exact fun i _ => shift_sim _ _ i | exact fun _ _ => trivial | exact fun _ h => absurd h (Nat.not_lt_zero _) | exact hi1 | exact hd1)); (focus ((repeat' apply And.intro) <;> first | exact trivial | with_reducible exact rfl | exact fun _ _ => A.sim.refl _ | exact A.sim.refl _ | exact rfl | exact Nat.le_refl _ | omega | exact fun i _ => shift_sim _ _ i | exact fun _ _ => trivial | exact fun _ h => absurd h (Nat.not_lt_zero _) | exact hi1 | exact hd1)); (focus ((repeat' apply And.intro) <;> first | exact trivial | with_reducible exact rfl | exact fun _ _ => A.sim.refl _ | exact A.sim.refl _ | exact rfl | exact Nat.le_refl _ | omega | exact fun i _ => shift_sim _ _ i | exact fun _ _ => trivial | exact fun _ h => absurd h (Nat.not_lt_zero _) | exact hi1 | exact hd1)); (conv => whnf))
          | (refine D.callA (c1) rfl rfl rfl rfl hΓ rfl ?_; (conv => whnf); refine ⟨rfl, rfl, rfl, ?_, ?_, ?_, ?_⟩; (focus ((repeat' apply And.intro) <;> first | exact trivial | with_reducible exact rfl | exact fun _ _ => A.sim.refl _ | exact A.sim.refl _ | exact rfl | exact Nat.le_refl _ | omega | exact fun i _ => shift_sim _ _ i | exact fun _ _ => trivial | exact fun _ h => absurd h (Nat.not_lt_zero _) | exact hi1 | exact hd1)); (focus ((repeat' apply And.intro) <;> first | exact trivial | with_reducible exact rfl | exact fun _ _ => A.sim.refl _ | exact A.sim.refl _ | exact rfl | exact Nat.le_refl _ | omega | exact fun i _ => shift_sim _ _ i | exact fun _ _ => trivial | exact fun _ h => absurd h (Nat.not_lt_zero _) | exact hi1 | exact hd1)); (focus ((repeat' apply And.intro) <;> first | exact trivial | with_reducible exact rfl | exact fun _ _ => A.sim.refl _ | exact A.sim.refl _ | exact rfl | exact Nat.le_refl _ | omega | exact fun i _ => shift_sim _ _ i | exact fun _ _ => trivial | exact fun _ h => absurd h (Nat.not_lt_zero _) | exact hi1 | exact hd1)); (conv => whnf))
          | (refine W.callA (c1) rfl rfl rfl rfl hΓ rfl ?_; (conv => whnf); refine ⟨rfl, rfl, ?_, ?_, ?_, ?_⟩; (focus ((repeat' apply And.intro) <;> first | exact trivial | with_reducible exact rfl | exact fun _ _ => A.sim.refl _ | exact A.sim.refl _ | exact rfl | exact Nat.le_refl _ | omega | exact fun i _ => shift_sim _ _ i | exact fun _ _ => trivial | exact fun _ h => absurd h (Nat.not_lt_zero _) | exact hi1 | exact hd1)); (focus ((repeat' apply And.intro) <;> first | exact trivial | with_reducible exact rfl | exact fun _ _ => A.sim.refl _ | exact A.sim.refl _ | exact rfl | exact Nat.le_refl _ | omega | exact fun i _ => shift_sim _ _ i | exact fun _ _ => trivial | exact fun _ h => absurd h (Nat.not_lt_zero _) | exact hi1 | exact hd1)); (focus ((repeat' apply And.intro) <;> first | exact trivial | with_reducible exact rfl | exact fun _ _ => A.sim.refl _ | exact A.sim.refl _ | exact rfl | exact Nat.le_refl _ | omega | exact fun i _ => shift_sim _ _ i | exact fun _ _ => trivial | exact fun _ h => absurd h (Nat.not_lt_zero _) | exact hi1 | exact hd1)); (conv => whnf))
          | (refine W.go TOK 74 hΓ 1000 rfl ?_; (conv => whnf); refine ⟨?_, ?_⟩)
          | (refine D.go TOK 74 hΓ 1000 rfl ?_; (conv => whnf); refine ⟨?_, ?_⟩)
          | (refine W.drawn rfl rfl ?_; refine D.run TOK 74 hΓ 1000 ?_; (conv => whnf); refine ⟨?_, ?_⟩)
        all_goals (repeat' apply And.intro)
        all_goals try (first
          | exact trivial
          | exact rfl
          | exact fun _ _ => A.sim.refl _
          | exact A.sim.refl _
          | exact Nat.le_refl _
          | omega
          | exact fun _ _ => trivial
          | exact fun i _ => shift_sim _ _ i
          | exact fun _ h => absurd h (Nat.not_lt_zero _)
          | exact fun i _ => isInt_byteAt _ i
          | exact zlit_sim
          | exact fun i _ => zero32_sim i
          | (simp only [allP, List.nil_append, List.append_nil, List.cons_append, List.append_eq, and_true, true_and, inr_i64, inr_u8, inr_u64, min_i64, max_i64, min_u64, max_u64, min_u8, max_u8, A.purePL, A.pureP, A.sureP, A.surePL, Int.toNat_natCast, addI, cHi, cLo, hiN, loN, subO, addO, hasIdx, cond_true, cond_false]; done)
          | (simp only [allP, List.nil_append, List.append_nil, List.cons_append, List.append_eq, and_true, true_and, inr_i64, inr_u8, inr_u64, min_i64, max_i64, min_u64, max_u64, min_u8, max_u8, A.purePL, A.pureP, A.sureP, A.surePL, Int.toNat_natCast, addI, cHi, cLo, hiN, loN, subO, addO, hasIdx, cond_true, cond_false]; omega)
          | (simp only [allP, List.nil_append, List.append_nil, List.cons_append, List.append_eq, and_true, true_and, inr_i64, inr_u8, inr_u64, min_i64, max_i64, min_u64, max_u64, min_u8, max_u8, A.purePL, A.pureP, A.sureP, A.surePL, Int.toNat_natCast, addI, cHi, cLo, hiN, loN, subO, addO, hasIdx, cond_true, cond_false]; (repeat' apply And.intro) <;> first | exact trivial | rfl | omega | decide)
          )
      | x :: r, hc, c1, q2, q3 =>
        have hc : climbS n i leaf p = some (nodeS h x, r) := hc.trans (by simp only [stepC, if_pos hik])
        rw [hc]
        have hx := q2 x (by simp)
        have hxl : (x :: r).length = r.length + 1 := rfl
        refine Does.intro (fn := Try.f26) Try.func26 rfl rfl fun Γ hΓ => ?_
        refine W.run TOK 74 hΓ 1000 ?_
        conv => whnf
        refine ⟨?_, ?_⟩
        repeat' first
          | assumption
          | exact Bool.noConfusion hb
          | exact absurd hb (by decide)
          | (exfalso; omega)
          | (exfalso; simp at hb; done)
          | (refine W.retA TOK rfl ?_; (conv => whnf); refine ⟨rfl, rfl, rfl, rfl, rfl, rfl, ?_, ?_, ?_⟩)
          | (refine W.branch rfl (fun hb => ?_) (fun hb => ?_) <;> ((try simp only [decide_eq_true_eq, decide_eq_false_iff_not, Bool.not_eq_true', Bool.not_eq_false', Int.not_lt, Int.not_le, cond_true, cond_false, reduceCtorEq, Int.toNat_natCast, addI] at hb); (try replace hb := of_decide_eq_true hb); (try replace hb := of_decide_eq_false hb)))
          | (refine D.branch rfl (fun hb => ?_) (fun hb => ?_) <;> ((try simp only [decide_eq_true_eq, decide_eq_false_iff_not, Bool.not_eq_true', Bool.not_eq_false', Int.not_lt, Int.not_le, cond_true, cond_false, reduceCtorEq, Int.toNat_natCast, addI] at hb); (try replace hb := of_decide_eq_true hb); (try replace hb := of_decide_eq_false hb)))
          | (refine D.callA (split_does n (inr_i64.2 (by omega))) rfl rfl rfl rfl hΓ rfl ?_; (conv => whnf); refine ⟨rfl, rfl, rfl, ?_, ?_, ?_, ?_⟩; (focus ((repeat' apply And.intro) <;> first | exact trivial | with_reducible exact rfl | exact fun _ _ => A.sim.refl _ | exact A.sim.refl _ | exact rfl | exact Nat.le_refl _ | omega | exact fun i _ => shift_sim _ _ i | exact fun _ _ => trivial | exact fun _ h => absurd h (Nat.not_lt_zero _) | exact hi1 | exact hd1)); (focus ((repeat' apply And.intro) <;> first | exact trivial | with_reducible exact rfl | exact fun _ _ => A.sim.refl _ | exact A.sim.refl _ | exact rfl | exact Nat.le_refl _ | omega | exact fun i _ => shift_sim _ _ i | exact fun _ _ => trivial | exact fun _ h => absurd h (Nat.not_lt_zero _) | exact hi1 | exact hd1)); (focus ((repeat' apply And.intro) <;> first | exact trivial | with_reducible exact rfl | exact fun _ _ => A.sim.refl _ | exact A.sim.refl _ | exact rfl | exact Nat.le_refl _ | omega | exact fun i _ => shift_sim _ _ i | exact fun _ _ => trivial | exact fun _ h => absurd h (Nat.not_lt_zero _) | exact hi1 | exact hd1)); (conv => whnf))
          | (refine W.callA (split_does n (inr_i64.2 (by omega))) rfl rfl rfl rfl hΓ rfl ?_; (conv => whnf); refine ⟨rfl, rfl, ?_, ?_, ?_, ?_⟩; (focus ((repeat' apply And.intro) <;> first | exact trivial | with_reducible exact rfl | exact fun _ _ => A.sim.refl _ | exact A.sim.refl _ | exact rfl | exact Nat.le_refl _ | omega | exact fun i _ => shift_sim _ _ i | exact fun _ _ => trivial | exact fun _ h => absurd h (Nat.not_lt_zero _) | exact hi1 | exact hd1)); (focus ((repeat' apply And.intro) <;> first | exact trivial | with_reducible exact rfl | exact fun _ _ => A.sim.refl _ | exact A.sim.refl _ | exact rfl | exact Nat.le_refl _ | omega | exact fun i _ => shift_sim _ _ i | exact fun _ _ => trivial | exact fun _ h => absurd h (Nat.not_lt_zero _) | exact hi1 | exact hd1)); (focus ((repeat' apply And.intro) <;> first | exact trivial | with_reducible exact rfl | exact fun _ _ => A.sim.refl _ | exact A.sim.refl _ | exact rfl | exact Nat.le_refl _ | omega | exact fun i _ => shift_sim _ _ i | exact fun _ _ => trivial | exact fun _ h => absurd h (Nat.not_lt_zero _) | exact hi1 | exact hd1)); (conv => whnf))
          | (refine D.callA (c1) rfl rfl rfl rfl hΓ rfl ?_; (conv => whnf); refine ⟨rfl, rfl, rfl, ?_, ?_, ?_, ?_⟩; (focus ((repeat' apply And.intro) <;> first | exact trivial | with_reducible exact rfl | exact fun _ _ => A.sim.refl _ | exact A.sim.refl _ | exact rfl | exact Nat.le_refl _ | omega | exact fun i _ => shift_sim _ _ i | exact fun _ _ => trivial | exact fun _ h => absurd h (Nat.not_lt_zero _) | exact hi1 | exact hd1)); (focus ((repeat' apply And.intro) <;> first | exact trivial | with_reducible exact rfl | exact fun _ _ => A.sim.refl _ | exact A.sim.refl _ | exact rfl | exact Nat.le_refl _ | omega | exact fun i _ => shift_sim _ _ i | exact fun _ _ => trivial | exact fun _ h => absurd h (Nat.not_lt_zero _) | exact hi1 | exact hd1)); (focus ((repeat' apply And.intro) <;> first | exact trivial | with_reducible exact rfl | exact fun _ _ => A.sim.refl _ | exact A.sim.refl _ | exact rfl | exact Nat.le_refl _ | omega | exact fun i _ => shift_sim _ _ i | exact fun _ _ => trivial | exact fun _ h => absurd h (Nat.not_lt_zero _) | exact hi1 | exact hd1)); (conv => whnf))
          | (refine W.callA (c1) rfl rfl rfl rfl hΓ rfl ?_; (conv => whnf); refine ⟨rfl, rfl, ?_, ?_, ?_, ?_⟩; (focus ((repeat' apply And.intro) <;> first | exact trivial | with_reducible exact rfl | exact fun _ _ => A.sim.refl _ | exact A.sim.refl _ | exact rfl | exact Nat.le_refl _ | omega | exact fun i _ => shift_sim _ _ i | exact fun _ _ => trivial | exact fun _ h => absurd h (Nat.not_lt_zero _) | exact hi1 | exact hd1)); (focus ((repeat' apply And.intro) <;> first | exact trivial | with_reducible exact rfl | exact fun _ _ => A.sim.refl _ | exact A.sim.refl _ | exact rfl | exact Nat.le_refl _ | omega | exact fun i _ => shift_sim _ _ i | exact fun _ _ => trivial | exact fun _ h => absurd h (Nat.not_lt_zero _) | exact hi1 | exact hd1)); (focus ((repeat' apply And.intro) <;> first | exact trivial | with_reducible exact rfl | exact fun _ _ => A.sim.refl _ | exact A.sim.refl _ | exact rfl | exact Nat.le_refl _ | omega | exact fun i _ => shift_sim _ _ i | exact fun _ _ => trivial | exact fun _ h => absurd h (Nat.not_lt_zero _) | exact hi1 | exact hd1)); (conv => whnf))
          | (refine D.callA (node_does h x q1 hx) rfl rfl rfl rfl hΓ rfl ?_; (conv => whnf); refine ⟨rfl, rfl, rfl, ?_, ?_, ?_, ?_⟩; (focus ((repeat' apply And.intro) <;> first | exact trivial | with_reducible exact rfl | exact fun _ _ => A.sim.refl _ | exact A.sim.refl _ | exact rfl | exact Nat.le_refl _ | omega | exact fun i _ => shift_sim _ _ i | exact fun _ _ => trivial | exact fun _ h => absurd h (Nat.not_lt_zero _) | exact hi1 | exact hd1)); (focus ((repeat' apply And.intro) <;> first | exact trivial | with_reducible exact rfl | exact fun _ _ => A.sim.refl _ | exact A.sim.refl _ | exact rfl | exact Nat.le_refl _ | omega | exact fun i _ => shift_sim _ _ i | exact fun _ _ => trivial | exact fun _ h => absurd h (Nat.not_lt_zero _) | exact hi1 | exact hd1)); (focus ((repeat' apply And.intro) <;> first | exact trivial | with_reducible exact rfl | exact fun _ _ => A.sim.refl _ | exact A.sim.refl _ | exact rfl | exact Nat.le_refl _ | omega | exact fun i _ => shift_sim _ _ i | exact fun _ _ => trivial | exact fun _ h => absurd h (Nat.not_lt_zero _) | exact hi1 | exact hd1)); (conv => whnf))
          | (refine W.callA (node_does h x q1 hx) rfl rfl rfl rfl hΓ rfl ?_; (conv => whnf); refine ⟨rfl, rfl, ?_, ?_, ?_, ?_⟩; (focus ((repeat' apply And.intro) <;> first | exact trivial | with_reducible exact rfl | exact fun _ _ => A.sim.refl _ | exact A.sim.refl _ | exact rfl | exact Nat.le_refl _ | omega | exact fun i _ => shift_sim _ _ i | exact fun _ _ => trivial | exact fun _ h => absurd h (Nat.not_lt_zero _) | exact hi1 | exact hd1)); (focus ((repeat' apply And.intro) <;> first | exact trivial | with_reducible exact rfl | exact fun _ _ => A.sim.refl _ | exact A.sim.refl _ | exact rfl | exact Nat.le_refl _ | omega | exact fun i _ => shift_sim _ _ i | exact fun _ _ => trivial | exact fun _ h => absurd h (Nat.not_lt_zero _) | exact hi1 | exact hd1)); (focus ((repeat' apply And.intro) <;> first | exact trivial | with_reducible exact rfl | exact fun _ _ => A.sim.refl _ | exact A.sim.refl _ | exact rfl | exact Nat.le_refl _ | omega | exact fun i _ => shift_sim _ _ i | exact fun _ _ => trivial | exact fun _ h => absurd h (Nat.not_lt_zero _) | exact hi1 | exact hd1)); (conv => whnf))
          | (refine W.go TOK 74 hΓ 1000 rfl ?_; (conv => whnf); refine ⟨?_, ?_⟩)
          | (refine D.go TOK 74 hΓ 1000 rfl ?_; (conv => whnf); refine ⟨?_, ?_⟩)
          | (refine W.drawn rfl rfl ?_; refine D.run TOK 74 hΓ 1000 ?_; (conv => whnf); refine ⟨?_, ?_⟩)
        all_goals (repeat' apply And.intro)
        all_goals try (first
          | exact trivial
          | exact rfl
          | exact fun _ _ => A.sim.refl _
          | exact A.sim.refl _
          | exact Nat.le_refl _
          | omega
          | exact fun _ _ => trivial
          | exact fun i _ => shift_sim _ _ i
          | exact fun _ h => absurd h (Nat.not_lt_zero _)
          | exact fun i _ => isInt_byteAt _ i
          | exact sl_drop (f := hashA) (x :: r) 1 _
          | (simp only [allP, List.nil_append, List.append_nil, List.cons_append, List.append_eq, and_true, true_and, inr_i64, inr_u8, inr_u64, min_i64, max_i64, min_u64, max_u64, min_u8, max_u8, A.purePL, A.pureP, A.sureP, A.surePL, Int.toNat_natCast, addI, cHi, cLo, hiN, loN, subO, addO, hasIdx, cond_true, cond_false]; done)
          | (simp only [allP, List.nil_append, List.append_nil, List.cons_append, List.append_eq, and_true, true_and, inr_i64, inr_u8, inr_u64, min_i64, max_i64, min_u64, max_u64, min_u8, max_u8, A.purePL, A.pureP, A.sureP, A.surePL, Int.toNat_natCast, addI, cHi, cLo, hiN, loN, subO, addO, hasIdx, cond_true, cond_false]; omega)
          | (simp only [allP, List.nil_append, List.append_nil, List.cons_append, List.append_eq, and_true, true_and, inr_i64, inr_u8, inr_u64, min_i64, max_i64, min_u64, max_u64, min_u8, max_u8, A.purePL, A.pureP, A.sureP, A.surePL, Int.toNat_natCast, addI, cHi, cLo, hiN, loN, subO, addO, hasIdx, cond_true, cond_false]; (repeat' apply And.intro) <;> first | exact trivial | rfl | omega | decide)
          )
  · have hi1 : (i : Int) - (splitS n : Nat) = ((i - splitS n : Nat) : Int) := by omega
    have hd1 : (n : Int) - (splitS n : Nat) = ((n - splitS n : Nat) : Int) := by omega
    have hc := climbS_two h2 i leaf p
    rw [if_neg hik] at hc
    have c1 := IH (n - splitS n) (by omega) (i - splitS n) leaf p (by omega) hp9 hl hp (by omega)
    have h32 := climbS_32 (n - splitS n) (i - splitS n) leaf p hl hp
    cases e : climbS (n - splitS n) (i - splitS n) leaf p with
    | none =>
      rw [e] at c1 hc
      have hc : climbS n i leaf p = none := hc
      rw [hc]
      refine Does.intro (fn := Try.f26) Try.func26 rfl rfl fun Γ hΓ => ?_
      refine W.run TOK 74 hΓ 1000 ?_
      conv => whnf
      refine ⟨?_, ?_⟩
      repeat' first
        | assumption
        | exact Bool.noConfusion hb
        | exact absurd hb (by decide)
        | (exfalso; omega)
        | (refine W.retA TOK rfl ?_; (conv => whnf); refine ⟨rfl, rfl, rfl, rfl, rfl, rfl, ?_, ?_, ?_⟩)
        | (refine W.branch rfl (fun hb => ?_) (fun hb => ?_) <;> ((try simp only [decide_eq_true_eq, decide_eq_false_iff_not, Bool.not_eq_true', Bool.not_eq_false', Int.not_lt, Int.not_le, cond_true, cond_false, reduceCtorEq, Int.toNat_natCast, addI] at hb); (try replace hb := of_decide_eq_true hb); (try replace hb := of_decide_eq_false hb)))
        | (refine D.branch rfl (fun hb => ?_) (fun hb => ?_) <;> ((try simp only [decide_eq_true_eq, decide_eq_false_iff_not, Bool.not_eq_true', Bool.not_eq_false', Int.not_lt, Int.not_le, cond_true, cond_false, reduceCtorEq, Int.toNat_natCast, addI] at hb); (try replace hb := of_decide_eq_true hb); (try replace hb := of_decide_eq_false hb)))
        | (refine D.callA (split_does n (inr_i64.2 (by omega))) rfl rfl rfl rfl hΓ rfl ?_; (conv => whnf); refine ⟨rfl, rfl, rfl, ?_, ?_, ?_, ?_⟩; (focus ((repeat' apply And.intro) <;> first | exact trivial | with_reducible exact rfl | exact fun _ _ => A.sim.refl _ | exact A.sim.refl _ | exact rfl | exact Nat.le_refl _ | omega | exact fun i _ => shift_sim _ _ i | exact fun _ _ => trivial | exact fun _ h => absurd h (Nat.not_lt_zero _) | exact hi1 | exact hd1)); (focus ((repeat' apply And.intro) <;> first | exact trivial | with_reducible exact rfl | exact fun _ _ => A.sim.refl _ | exact A.sim.refl _ | exact rfl | exact Nat.le_refl _ | omega | exact fun i _ => shift_sim _ _ i | exact fun _ _ => trivial | exact fun _ h => absurd h (Nat.not_lt_zero _) | exact hi1 | exact hd1)); (focus ((repeat' apply And.intro) <;> first | exact trivial | with_reducible exact rfl | exact fun _ _ => A.sim.refl _ | exact A.sim.refl _ | exact rfl | exact Nat.le_refl _ | omega | exact fun i _ => shift_sim _ _ i | exact fun _ _ => trivial | exact fun _ h => absurd h (Nat.not_lt_zero _) | exact hi1 | exact hd1)); (conv => whnf))
        | (refine W.callA (split_does n (inr_i64.2 (by omega))) rfl rfl rfl rfl hΓ rfl ?_; (conv => whnf); refine ⟨rfl, rfl, ?_, ?_, ?_, ?_⟩; (focus ((repeat' apply And.intro) <;> first | exact trivial | with_reducible exact rfl | exact fun _ _ => A.sim.refl _ | exact A.sim.refl _ | exact rfl | exact Nat.le_refl _ | omega | exact fun i _ => shift_sim _ _ i | exact fun _ _ => trivial | exact fun _ h => absurd h (Nat.not_lt_zero _) | exact hi1 | exact hd1)); (focus ((repeat' apply And.intro) <;> first | exact trivial | with_reducible exact rfl | exact fun _ _ => A.sim.refl _ | exact A.sim.refl _ | exact rfl | exact Nat.le_refl _ | omega | exact fun i _ => shift_sim _ _ i | exact fun _ _ => trivial | exact fun _ h => absurd h (Nat.not_lt_zero _) | exact hi1 | exact hd1)); (focus ((repeat' apply And.intro) <;> first | exact trivial | with_reducible exact rfl | exact fun _ _ => A.sim.refl _ | exact A.sim.refl _ | exact rfl | exact Nat.le_refl _ | omega | exact fun i _ => shift_sim _ _ i | exact fun _ _ => trivial | exact fun _ h => absurd h (Nat.not_lt_zero _) | exact hi1 | exact hd1)); (conv => whnf))
        | (refine D.callA (c1) rfl rfl rfl rfl hΓ rfl ?_; (conv => whnf); refine ⟨rfl, rfl, rfl, ?_, ?_, ?_, ?_⟩; (focus ((repeat' apply And.intro) <;> first | exact trivial | with_reducible exact rfl | exact fun _ _ => A.sim.refl _ | exact A.sim.refl _ | exact rfl | exact Nat.le_refl _ | omega | exact fun i _ => shift_sim _ _ i | exact fun _ _ => trivial | exact fun _ h => absurd h (Nat.not_lt_zero _) | exact hi1 | exact hd1)); (focus ((repeat' apply And.intro) <;> first | exact trivial | with_reducible exact rfl | exact fun _ _ => A.sim.refl _ | exact A.sim.refl _ | exact rfl | exact Nat.le_refl _ | omega | exact fun i _ => shift_sim _ _ i | exact fun _ _ => trivial | exact fun _ h => absurd h (Nat.not_lt_zero _) | exact hi1 | exact hd1)); (focus ((repeat' apply And.intro) <;> first | exact trivial | with_reducible exact rfl | exact fun _ _ => A.sim.refl _ | exact A.sim.refl _ | exact rfl | exact Nat.le_refl _ | omega | exact fun i _ => shift_sim _ _ i | exact fun _ _ => trivial | exact fun _ h => absurd h (Nat.not_lt_zero _) | exact hi1 | exact hd1)); (conv => whnf))
        | (refine W.callA (c1) rfl rfl rfl rfl hΓ rfl ?_; (conv => whnf); refine ⟨rfl, rfl, ?_, ?_, ?_, ?_⟩; (focus ((repeat' apply And.intro) <;> first | exact trivial | with_reducible exact rfl | exact fun _ _ => A.sim.refl _ | exact A.sim.refl _ | exact rfl | exact Nat.le_refl _ | omega | exact fun i _ => shift_sim _ _ i | exact fun _ _ => trivial | exact fun _ h => absurd h (Nat.not_lt_zero _) | exact hi1 | exact hd1)); (focus ((repeat' apply And.intro) <;> first | exact trivial | with_reducible exact rfl | exact fun _ _ => A.sim.refl _ | exact A.sim.refl _ | exact rfl | exact Nat.le_refl _ | omega | exact fun i _ => shift_sim _ _ i | exact fun _ _ => trivial | exact fun _ h => absurd h (Nat.not_lt_zero _) | exact hi1 | exact hd1)); (focus ((repeat' apply And.intro) <;> first | exact trivial | with_reducible exact rfl | exact fun _ _ => A.sim.refl _ | exact A.sim.refl _ | exact rfl | exact Nat.le_refl _ | omega | exact fun i _ => shift_sim _ _ i | exact fun _ _ => trivial | exact fun _ h => absurd h (Nat.not_lt_zero _) | exact hi1 | exact hd1)); (conv => whnf))
        | (refine W.go TOK 74 hΓ 1000 rfl ?_; (conv => whnf); refine ⟨?_, ?_⟩)
        | (refine D.go TOK 74 hΓ 1000 rfl ?_; (conv => whnf); refine ⟨?_, ?_⟩)
        | (refine W.drawn rfl rfl ?_; refine D.run TOK 74 hΓ 1000 ?_; (conv => whnf); refine ⟨?_, ?_⟩)
      all_goals (repeat' apply And.intro)
      all_goals try (first
        | exact trivial
        | exact rfl
        | exact fun _ _ => A.sim.refl _
        | exact A.sim.refl _
        | exact Nat.le_refl _
        | omega
        | exact fun _ _ => trivial
        | exact fun i _ => shift_sim _ _ i
        | exact fun _ h => absurd h (Nat.not_lt_zero _)
        | exact fun i _ => isInt_byteAt _ i
        | exact zlit_sim
        | exact fun i _ => zero32_sim i
        | (simp only [allP, List.nil_append, List.append_nil, List.cons_append, List.append_eq, and_true, true_and, inr_i64, inr_u8, inr_u64, min_i64, max_i64, min_u64, max_u64, min_u8, max_u8, A.purePL, A.pureP, A.sureP, A.surePL, Int.toNat_natCast, addI, cHi, cLo, hiN, loN, subO, addO, hasIdx, cond_true, cond_false]; done)
        | (simp only [allP, List.nil_append, List.append_nil, List.cons_append, List.append_eq, and_true, true_and, inr_i64, inr_u8, inr_u64, min_i64, max_i64, min_u64, max_u64, min_u8, max_u8, A.purePL, A.pureP, A.sureP, A.surePL, Int.toNat_natCast, addI, cHi, cLo, hiN, loN, subO, addO, hasIdx, cond_true, cond_false]; omega)
        | (simp only [allP, List.nil_append, List.append_nil, List.cons_append, List.append_eq, and_true, true_and, inr_i64, inr_u8, inr_u64, min_i64, max_i64, min_u64, max_u64, min_u8, max_u8, A.purePL, A.pureP, A.sureP, A.surePL, Int.toNat_natCast, addI, cHi, cLo, hiN, loN, subO, addO, hasIdx, cond_true, cond_false]; (repeat' apply And.intro) <;> first | exact trivial | rfl | omega | decide)
        )
    | some hr =>
      obtain ⟨h, r⟩ := hr
      rw [e] at c1 hc
      obtain ⟨q1, q2, q3⟩ := h32 h r e
      match r, hc, c1, q2, q3 with
      | [], hc, c1, q2, q3 =>
        have hc : climbS n i leaf p = none := hc
        rw [hc]
        refine Does.intro (fn := Try.f26) Try.func26 rfl rfl fun Γ hΓ => ?_
        refine W.run TOK 74 hΓ 1000 ?_
        conv => whnf
        refine ⟨?_, ?_⟩
        repeat' first
          | assumption
          | exact Bool.noConfusion hb
          | exact absurd hb (by decide)
          | (exfalso; omega)
          | (exfalso; simp at hb; done)
          | (refine W.retA TOK rfl ?_; (conv => whnf); refine ⟨rfl, rfl, rfl, rfl, rfl, rfl, ?_, ?_, ?_⟩)
          | (refine W.branch rfl (fun hb => ?_) (fun hb => ?_) <;> ((try simp only [decide_eq_true_eq, decide_eq_false_iff_not, Bool.not_eq_true', Bool.not_eq_false', Int.not_lt, Int.not_le, cond_true, cond_false, reduceCtorEq, Int.toNat_natCast, addI] at hb); (try replace hb := of_decide_eq_true hb); (try replace hb := of_decide_eq_false hb)))
          | (refine D.branch rfl (fun hb => ?_) (fun hb => ?_) <;> ((try simp only [decide_eq_true_eq, decide_eq_false_iff_not, Bool.not_eq_true', Bool.not_eq_false', Int.not_lt, Int.not_le, cond_true, cond_false, reduceCtorEq, Int.toNat_natCast, addI] at hb); (try replace hb := of_decide_eq_true hb); (try replace hb := of_decide_eq_false hb)))
          | (refine D.callA (split_does n (inr_i64.2 (by omega))) rfl rfl rfl rfl hΓ rfl ?_; (conv => whnf); refine ⟨rfl, rfl, rfl, ?_, ?_, ?_, ?_⟩; (focus ((repeat' apply And.intro) <;> first | exact trivial | with_reducible exact rfl | exact fun _ _ => A.sim.refl _ | exact A.sim.refl _ | exact rfl | exact Nat.le_refl _ | omega | exact fun i _ => shift_sim _ _ i | exact fun _ _ => trivial | exact fun _ h => absurd h (Nat.not_lt_zero _) | exact hi1 | exact hd1)); (focus ((repeat' apply And.intro) <;> first | exact trivial | with_reducible exact rfl | exact fun _ _ => A.sim.refl _ | exact A.sim.refl _ | exact rfl | exact Nat.le_refl _ | omega | exact fun i _ => shift_sim _ _ i | exact fun _ _ => trivial | exact fun _ h => absurd h (Nat.not_lt_zero _) | exact hi1 | exact hd1)); (focus ((repeat' apply And.intro) <;> first | exact trivial | with_reducible exact rfl | exact fun _ _ => A.sim.refl _ | exact A.sim.refl _ | exact rfl | exact Nat.le_refl _ | omega | exact fun i _ => shift_sim _ _ i | exact fun _ _ => trivial | exact fun _ h => absurd h (Nat.not_lt_zero _) | exact hi1 | exact hd1)); (conv => whnf))
          | (refine W.callA (split_does n (inr_i64.2 (by omega))) rfl rfl rfl rfl hΓ rfl ?_; (conv => whnf); refine ⟨rfl, rfl, ?_, ?_, ?_, ?_⟩; (focus ((repeat' apply And.intro) <;> first | exact trivial | with_reducible exact rfl | exact fun _ _ => A.sim.refl _ | exact A.sim.refl _ | exact rfl | exact Nat.le_refl _ | omega | exact fun i _ => shift_sim _ _ i | exact fun _ _ => trivial | exact fun _ h => absurd h (Nat.not_lt_zero _) | exact hi1 | exact hd1)); (focus ((repeat' apply And.intro) <;> first | exact trivial | with_reducible exact rfl | exact fun _ _ => A.sim.refl _ | exact A.sim.refl _ | exact rfl | exact Nat.le_refl _ | omega | exact fun i _ => shift_sim _ _ i | exact fun _ _ => trivial | exact fun _ h => absurd h (Nat.not_lt_zero _) | exact hi1 | exact hd1)); (focus ((repeat' apply And.intro) <;> first | exact trivial | with_reducible exact rfl | exact fun _ _ => A.sim.refl _ | exact A.sim.refl _ | exact rfl | exact Nat.le_refl _ | omega | exact fun i _ => shift_sim _ _ i | exact fun _ _ => trivial | exact fun _ h => absurd h (Nat.not_lt_zero _) | exact hi1 | exact hd1)); (conv => whnf))
          | (refine D.callA (c1) rfl rfl rfl rfl hΓ rfl ?_; (conv => whnf); refine ⟨rfl, rfl, rfl, ?_, ?_, ?_, ?_⟩; (focus ((repeat' apply And.intro) <;> first | exact trivial | with_reducible exact rfl | exact fun _ _ => A.sim.refl _ | exact A.sim.refl _ | exact rfl | exact Nat.le_refl _ | omega | exact fun i _ => shift_sim _ _ i | exact fun _ _ => trivial | exact fun _ h => absurd h (Nat.not_lt_zero _) | exact hi1 | exact hd1)); (focus ((repeat' apply And.intro) <;> first | exact trivial | with_reducible exact rfl | exact fun _ _ => A.sim.refl _ | exact A.sim.refl _ | exact rfl | exact Nat.le_refl _ | omega | exact fun i _ => shift_sim _ _ i | exact fun _ _ => trivial | exact fun _ h => absurd h (Nat.not_lt_zero _) | exact hi1 | exact hd1)); (focus ((repeat' apply And.intro) <;> first | exact trivial | with_reducible exact rfl | exact fun _ _ => A.sim.refl _ | exact A.sim.refl _ | exact rfl | exact Nat.le_refl _ | omega | exact fun i _ => shift_sim _ _ i | exact fun _ _ => trivial | exact fun _ h => absurd h (Nat.not_lt_zero _) | exact hi1 | exact hd1)); (conv => whnf))
          | (refine W.callA (c1) rfl rfl rfl rfl hΓ rfl ?_; (conv => whnf); refine ⟨rfl, rfl, ?_, ?_, ?_, ?_⟩; (focus ((repeat' apply And.intro) <;> first | exact trivial | with_reducible exact rfl | exact fun _ _ => A.sim.refl _ | exact A.sim.refl _ | exact rfl | exact Nat.le_refl _ | omega | exact fun i _ => shift_sim _ _ i | exact fun _ _ => trivial | exact fun _ h => absurd h (Nat.not_lt_zero _) | exact hi1 | exact hd1)); (focus ((repeat' apply And.intro) <;> first | exact trivial | with_reducible exact rfl | exact fun _ _ => A.sim.refl _ | exact A.sim.refl _ | exact rfl | exact Nat.le_refl _ | omega | exact fun i _ => shift_sim _ _ i | exact fun _ _ => trivial | exact fun _ h => absurd h (Nat.not_lt_zero _) | exact hi1 | exact hd1)); (focus ((repeat' apply And.intro) <;> first | exact trivial | with_reducible exact rfl | exact fun _ _ => A.sim.refl _ | exact A.sim.refl _ | exact rfl | exact Nat.le_refl _ | omega | exact fun i _ => shift_sim _ _ i | exact fun _ _ => trivial | exact fun _ h => absurd h (Nat.not_lt_zero _) | exact hi1 | exact hd1)); (conv => whnf))
          | (refine W.go TOK 74 hΓ 1000 rfl ?_; (conv => whnf); refine ⟨?_, ?_⟩)
          | (refine D.go TOK 74 hΓ 1000 rfl ?_; (conv => whnf); refine ⟨?_, ?_⟩)
          | (refine W.drawn rfl rfl ?_; refine D.run TOK 74 hΓ 1000 ?_; (conv => whnf); refine ⟨?_, ?_⟩)
        all_goals (repeat' apply And.intro)
        all_goals try (first
          | exact trivial
          | exact rfl
          | exact fun _ _ => A.sim.refl _
          | exact A.sim.refl _
          | exact Nat.le_refl _
          | omega
          | exact fun _ _ => trivial
          | exact fun i _ => shift_sim _ _ i
          | exact fun _ h => absurd h (Nat.not_lt_zero _)
          | exact fun i _ => isInt_byteAt _ i
          | exact zlit_sim
          | exact fun i _ => zero32_sim i
          | (simp only [allP, List.nil_append, List.append_nil, List.cons_append, List.append_eq, and_true, true_and, inr_i64, inr_u8, inr_u64, min_i64, max_i64, min_u64, max_u64, min_u8, max_u8, A.purePL, A.pureP, A.sureP, A.surePL, Int.toNat_natCast, addI, cHi, cLo, hiN, loN, subO, addO, hasIdx, cond_true, cond_false]; done)
          | (simp only [allP, List.nil_append, List.append_nil, List.cons_append, List.append_eq, and_true, true_and, inr_i64, inr_u8, inr_u64, min_i64, max_i64, min_u64, max_u64, min_u8, max_u8, A.purePL, A.pureP, A.sureP, A.surePL, Int.toNat_natCast, addI, cHi, cLo, hiN, loN, subO, addO, hasIdx, cond_true, cond_false]; omega)
          | (simp only [allP, List.nil_append, List.append_nil, List.cons_append, List.append_eq, and_true, true_and, inr_i64, inr_u8, inr_u64, min_i64, max_i64, min_u64, max_u64, min_u8, max_u8, A.purePL, A.pureP, A.sureP, A.surePL, Int.toNat_natCast, addI, cHi, cLo, hiN, loN, subO, addO, hasIdx, cond_true, cond_false]; (repeat' apply And.intro) <;> first | exact trivial | rfl | omega | decide)
          )
      | x :: r, hc, c1, q2, q3 =>
        have hc : climbS n i leaf p = some (nodeS x h, r) := hc.trans (by simp only [stepC, if_neg hik])
        rw [hc]
        have hx := q2 x (by simp)
        have hxl : (x :: r).length = r.length + 1 := rfl
        refine Does.intro (fn := Try.f26) Try.func26 rfl rfl fun Γ hΓ => ?_
        refine W.run TOK 74 hΓ 1000 ?_
        conv => whnf
        refine ⟨?_, ?_⟩
        repeat' first
          | assumption
          | exact Bool.noConfusion hb
          | exact absurd hb (by decide)
          | (exfalso; omega)
          | (exfalso; simp at hb; done)
          | (refine W.retA TOK rfl ?_; (conv => whnf); refine ⟨rfl, rfl, rfl, rfl, rfl, rfl, ?_, ?_, ?_⟩)
          | (refine W.branch rfl (fun hb => ?_) (fun hb => ?_) <;> ((try simp only [decide_eq_true_eq, decide_eq_false_iff_not, Bool.not_eq_true', Bool.not_eq_false', Int.not_lt, Int.not_le, cond_true, cond_false, reduceCtorEq, Int.toNat_natCast, addI] at hb); (try replace hb := of_decide_eq_true hb); (try replace hb := of_decide_eq_false hb)))
          | (refine D.branch rfl (fun hb => ?_) (fun hb => ?_) <;> ((try simp only [decide_eq_true_eq, decide_eq_false_iff_not, Bool.not_eq_true', Bool.not_eq_false', Int.not_lt, Int.not_le, cond_true, cond_false, reduceCtorEq, Int.toNat_natCast, addI] at hb); (try replace hb := of_decide_eq_true hb); (try replace hb := of_decide_eq_false hb)))
          | (refine D.callA (split_does n (inr_i64.2 (by omega))) rfl rfl rfl rfl hΓ rfl ?_; (conv => whnf); refine ⟨rfl, rfl, rfl, ?_, ?_, ?_, ?_⟩; (focus ((repeat' apply And.intro) <;> first | exact trivial | with_reducible exact rfl | exact fun _ _ => A.sim.refl _ | exact A.sim.refl _ | exact rfl | exact Nat.le_refl _ | omega | exact fun i _ => shift_sim _ _ i | exact fun _ _ => trivial | exact fun _ h => absurd h (Nat.not_lt_zero _) | exact hi1 | exact hd1)); (focus ((repeat' apply And.intro) <;> first | exact trivial | with_reducible exact rfl | exact fun _ _ => A.sim.refl _ | exact A.sim.refl _ | exact rfl | exact Nat.le_refl _ | omega | exact fun i _ => shift_sim _ _ i | exact fun _ _ => trivial | exact fun _ h => absurd h (Nat.not_lt_zero _) | exact hi1 | exact hd1)); (focus ((repeat' apply And.intro) <;> first | exact trivial | with_reducible exact rfl | exact fun _ _ => A.sim.refl _ | exact A.sim.refl _ | exact rfl | exact Nat.le_refl _ | omega | exact fun i _ => shift_sim _ _ i | exact fun _ _ => trivial | exact fun _ h => absurd h (Nat.not_lt_zero _) | exact hi1 | exact hd1)); (conv => whnf))
          | (refine W.callA (split_does n (inr_i64.2 (by omega))) rfl rfl rfl rfl hΓ rfl ?_; (conv => whnf); refine ⟨rfl, rfl, ?_, ?_, ?_, ?_⟩; (focus ((repeat' apply And.intro) <;> first | exact trivial | with_reducible exact rfl | exact fun _ _ => A.sim.refl _ | exact A.sim.refl _ | exact rfl | exact Nat.le_refl _ | omega | exact fun i _ => shift_sim _ _ i | exact fun _ _ => trivial | exact fun _ h => absurd h (Nat.not_lt_zero _) | exact hi1 | exact hd1)); (focus ((repeat' apply And.intro) <;> first | exact trivial | with_reducible exact rfl | exact fun _ _ => A.sim.refl _ | exact A.sim.refl _ | exact rfl | exact Nat.le_refl _ | omega | exact fun i _ => shift_sim _ _ i | exact fun _ _ => trivial | exact fun _ h => absurd h (Nat.not_lt_zero _) | exact hi1 | exact hd1)); (focus ((repeat' apply And.intro) <;> first | exact trivial | with_reducible exact rfl | exact fun _ _ => A.sim.refl _ | exact A.sim.refl _ | exact rfl | exact Nat.le_refl _ | omega | exact fun i _ => shift_sim _ _ i | exact fun _ _ => trivial | exact fun _ h => absurd h (Nat.not_lt_zero _) | exact hi1 | exact hd1)); (conv => whnf))
          | (refine D.callA (c1) rfl rfl rfl rfl hΓ rfl ?_; (conv => whnf); refine ⟨rfl, rfl, rfl, ?_, ?_, ?_, ?_⟩; (focus ((repeat' apply And.intro) <;> first | exact trivial | with_reducible exact rfl | exact fun _ _ => A.sim.refl _ | exact A.sim.refl _ | exact rfl | exact Nat.le_refl _ | omega | exact fun i _ => shift_sim _ _ i | exact fun _ _ => trivial | exact fun _ h => absurd h (Nat.not_lt_zero _) | exact hi1 | exact hd1)); (focus ((repeat' apply And.intro) <;> first | exact trivial | with_reducible exact rfl | exact fun _ _ => A.sim.refl _ | exact A.sim.refl _ | exact rfl | exact Nat.le_refl _ | omega | exact fun i _ => shift_sim _ _ i | exact fun _ _ => trivial | exact fun _ h => absurd h (Nat.not_lt_zero _) | exact hi1 | exact hd1)); (focus ((repeat' apply And.intro) <;> first | exact trivial | with_reducible exact rfl | exact fun _ _ => A.sim.refl _ | exact A.sim.refl _ | exact rfl | exact Nat.le_refl _ | omega | exact fun i _ => shift_sim _ _ i | exact fun _ _ => trivial | exact fun _ h => absurd h (Nat.not_lt_zero _) | exact hi1 | exact hd1)); (conv => whnf))
          | (refine W.callA (c1) rfl rfl rfl rfl hΓ rfl ?_; (conv => whnf); refine ⟨rfl, rfl, ?_, ?_, ?_, ?_⟩; (focus ((repeat' apply And.intro) <;> first | exact trivial | with_reducible exact rfl | exact fun _ _ => A.sim.refl _ | exact A.sim.refl _ | exact rfl | exact Nat.le_refl _ | omega | exact fun i _ => shift_sim _ _ i | exact fun _ _ => trivial | exact fun _ h => absurd h (Nat.not_lt_zero _) | exact hi1 | exact hd1)); (focus ((repeat' apply And.intro) <;> first | exact trivial | with_reducible exact rfl | exact fun _ _ => A.sim.refl _ | exact A.sim.refl _ | exact rfl | exact Nat.le_refl _ | omega | exact fun i _ => shift_sim _ _ i | exact fun _ _ => trivial | exact fun _ h => absurd h (Nat.not_lt_zero _) | exact hi1 | exact hd1)); (focus ((repeat' apply And.intro) <;> first | exact trivial | with_reducible exact rfl | exact fun _ _ => A.sim.refl _ | exact A.sim.refl _ | exact rfl | exact Nat.le_refl _ | omega | exact fun i _ => shift_sim _ _ i | exact fun _ _ => trivial | exact fun _ h => absurd h (Nat.not_lt_zero _) | exact hi1 | exact hd1)); (conv => whnf))
          | (refine D.callA (node_does x h hx q1) rfl rfl rfl rfl hΓ rfl ?_; (conv => whnf); refine ⟨rfl, rfl, rfl, ?_, ?_, ?_, ?_⟩; (focus ((repeat' apply And.intro) <;> first | exact trivial | with_reducible exact rfl | exact fun _ _ => A.sim.refl _ | exact A.sim.refl _ | exact rfl | exact Nat.le_refl _ | omega | exact fun i _ => shift_sim _ _ i | exact fun _ _ => trivial | exact fun _ h => absurd h (Nat.not_lt_zero _) | exact hi1 | exact hd1)); (focus ((repeat' apply And.intro) <;> first | exact trivial | with_reducible exact rfl | exact fun _ _ => A.sim.refl _ | exact A.sim.refl _ | exact rfl | exact Nat.le_refl _ | omega | exact fun i _ => shift_sim _ _ i | exact fun _ _ => trivial | exact fun _ h => absurd h (Nat.not_lt_zero _) | exact hi1 | exact hd1)); (focus ((repeat' apply And.intro) <;> first | exact trivial | with_reducible exact rfl | exact fun _ _ => A.sim.refl _ | exact A.sim.refl _ | exact rfl | exact Nat.le_refl _ | omega | exact fun i _ => shift_sim _ _ i | exact fun _ _ => trivial | exact fun _ h => absurd h (Nat.not_lt_zero _) | exact hi1 | exact hd1)); (conv => whnf))
          | (refine W.callA (node_does x h hx q1) rfl rfl rfl rfl hΓ rfl ?_; (conv => whnf); refine ⟨rfl, rfl, ?_, ?_, ?_, ?_⟩; (focus ((repeat' apply And.intro) <;> first | exact trivial | with_reducible exact rfl | exact fun _ _ => A.sim.refl _ | exact A.sim.refl _ | exact rfl | exact Nat.le_refl _ | omega | exact fun i _ => shift_sim _ _ i | exact fun _ _ => trivial | exact fun _ h => absurd h (Nat.not_lt_zero _) | exact hi1 | exact hd1)); (focus ((repeat' apply And.intro) <;> first | exact trivial | with_reducible exact rfl | exact fun _ _ => A.sim.refl _ | exact A.sim.refl _ | exact rfl | exact Nat.le_refl _ | omega | exact fun i _ => shift_sim _ _ i | exact fun _ _ => trivial | exact fun _ h => absurd h (Nat.not_lt_zero _) | exact hi1 | exact hd1)); (focus ((repeat' apply And.intro) <;> first | exact trivial | with_reducible exact rfl | exact fun _ _ => A.sim.refl _ | exact A.sim.refl _ | exact rfl | exact Nat.le_refl _ | omega | exact fun i _ => shift_sim _ _ i | exact fun _ _ => trivial | exact fun _ h => absurd h (Nat.not_lt_zero _) | exact hi1 | exact hd1)); (conv => whnf))
          | (refine W.go TOK 74 hΓ 1000 rfl ?_; (conv => whnf); refine ⟨?_, ?_⟩)
          | (refine D.go TOK 74 hΓ 1000 rfl ?_; (conv => whnf); refine ⟨?_, ?_⟩)
          | (refine W.drawn rfl rfl ?_; refine D.run TOK 74 hΓ 1000 ?_; (conv => whnf); refine ⟨?_, ?_⟩)
        all_goals (repeat' apply And.intro)
        all_goals try (first
          | exact trivial
          | exact rfl
          | exact fun _ _ => A.sim.refl _
          | exact A.sim.refl _
          | exact Nat.le_refl _
          | omega
          | exact fun _ _ => trivial
          | exact fun i _ => shift_sim _ _ i
          | exact fun _ h => absurd h (Nat.not_lt_zero _)
          | exact fun i _ => isInt_byteAt _ i
          | exact sl_drop (f := hashA) (x :: r) 1 _
          | (simp only [allP, List.nil_append, List.append_nil, List.cons_append, List.append_eq, and_true, true_and, inr_i64, inr_u8, inr_u64, min_i64, max_i64, min_u64, max_u64, min_u8, max_u8, A.purePL, A.pureP, A.sureP, A.surePL, Int.toNat_natCast, addI, cHi, cLo, hiN, loN, subO, addO, hasIdx, cond_true, cond_false]; done)
          | (simp only [allP, List.nil_append, List.append_nil, List.cons_append, List.append_eq, and_true, true_and, inr_i64, inr_u8, inr_u64, min_i64, max_i64, min_u64, max_u64, min_u8, max_u8, A.purePL, A.pureP, A.sureP, A.surePL, Int.toNat_natCast, addI, cHi, cLo, hiN, loN, subO, addO, hasIdx, cond_true, cond_false]; omega)
          | (simp only [allP, List.nil_append, List.append_nil, List.cons_append, List.append_eq, and_true, true_and, inr_i64, inr_u8, inr_u64, min_i64, max_i64, min_u64, max_u64, min_u8, max_u8, A.purePL, A.pureP, A.sureP, A.surePL, Int.toNat_natCast, addI, cHi, cLo, hiN, loN, subO, addO, hasIdx, cond_true, cond_false]; (repeat' apply And.intro) <;> first | exact trivial | rfl | omega | decide)
          )

theorem up_does : ∀ (n i : Nat) (leaf : Hs) (p : List Hs), n ≤ 9223372036854775807 → p.length ≤ 1000000000 → leaf.length = 32 → (∀ x ∈ p, x.length = 32) → i < n → Does Try.prog 27 [.int .i64 n, .int .i64 i, hashA leaf, sl 32 hashA p] [] [] (Is (upA (upS n i leaf p)) []) := by
  intro n
  induction n using Nat.strongRecOn with
  | _ n IH =>
  intro i leaf p hn9 hp9 hl hp him
  by_cases h2 : 2 ≤ n
  rotate_left
  · have hn1 : n = 1 := by omega
    have he : (decide ((p.length : Int) = 0)) = p.isEmpty := by cases p <;> simp <;> omega
    rw [upS_small (by omega)]
    refine Does.intro (fn := Try.f27) Try.func27 rfl rfl fun Γ hΓ => ?_
    refine W.run TOK 73 hΓ 1000 ?_
    conv => whnf
    refine ⟨?_, ?_⟩
    repeat' first
      | assumption
      | exact Bool.noConfusion hb
      | exact absurd hb (by decide)
      | (exfalso; omega)
      | (refine W.retA TOK rfl ?_; (conv => whnf); refine ⟨rfl, rfl, rfl, rfl, rfl, rfl, ?_, ?_, ?_⟩)
      | (refine W.branch rfl (fun hb => ?_) (fun hb => ?_) <;> ((try simp only [decide_eq_true_eq, decide_eq_false_iff_not, Bool.not_eq_true', Bool.not_eq_false', Int.not_lt, Int.not_le, cond_true, cond_false, reduceCtorEq, Int.toNat_natCast, addI] at hb); (try replace hb := of_decide_eq_true hb); (try replace hb := of_decide_eq_false hb)))
      | (refine D.branch rfl (fun hb => ?_) (fun hb => ?_) <;> ((try simp only [decide_eq_true_eq, decide_eq_false_iff_not, Bool.not_eq_true', Bool.not_eq_false', Int.not_lt, Int.not_le, cond_true, cond_false, reduceCtorEq, Int.toNat_natCast, addI] at hb); (try replace hb := of_decide_eq_true hb); (try replace hb := of_decide_eq_false hb)))
      | (refine W.go TOK 73 hΓ 1000 rfl ?_; (conv => whnf); refine ⟨?_, ?_⟩)
      | (refine D.go TOK 73 hΓ 1000 rfl ?_; (conv => whnf); refine ⟨?_, ?_⟩)
      | (refine W.drawn rfl rfl ?_; refine D.run TOK 73 hΓ 1000 ?_; (conv => whnf); refine ⟨?_, ?_⟩)
    all_goals (repeat' apply And.intro)
    all_goals try (first
      | exact trivial
      | exact rfl
      | exact fun _ _ => A.sim.refl _
      | exact A.sim.refl _
      | exact Nat.le_refl _
      | omega
      | exact fun _ _ => trivial
      | exact fun i _ => shift_sim _ _ i
      | exact fun _ h => absurd h (Nat.not_lt_zero _)
      | exact fun i _ => isInt_byteAt _ i
      | exact he
      | (simp only [allP, List.nil_append, List.append_nil, List.cons_append, List.append_eq, and_true, true_and, inr_i64, inr_u8, inr_u64, min_i64, max_i64, min_u64, max_u64, min_u8, max_u8, A.purePL, A.pureP, A.sureP, A.surePL, Int.toNat_natCast, addI, cHi, cLo, hiN, loN, subO, addO, hasIdx, cond_true, cond_false]; done)
      | (simp only [allP, List.nil_append, List.append_nil, List.cons_append, List.append_eq, and_true, true_and, inr_i64, inr_u8, inr_u64, min_i64, max_i64, min_u64, max_u64, min_u8, max_u8, A.purePL, A.pureP, A.sureP, A.surePL, Int.toNat_natCast, addI, cHi, cLo, hiN, loN, subO, addO, hasIdx, cond_true, cond_false]; omega)
      | (simp only [allP, List.nil_append, List.append_nil, List.cons_append, List.append_eq, and_true, true_and, inr_i64, inr_u8, inr_u64, min_i64, max_i64, min_u64, max_u64, min_u8, max_u8, A.purePL, A.pureP, A.sureP, A.surePL, Int.toNat_natCast, addI, cHi, cLo, hiN, loN, subO, addO, hasIdx, cond_true, cond_false]; (repeat' apply And.intro) <;> first | exact trivial | rfl | omega | decide)
      )
  have hk := splitS_facts h2
  by_cases hp0 : p.length = 0
  · rw [upS_none h2 i leaf hp0]
    refine Does.intro (fn := Try.f27) Try.func27 rfl rfl fun Γ hΓ => ?_
    refine W.run TOK 73 hΓ 1000 ?_
    conv => whnf
    refine ⟨?_, ?_⟩
    repeat' first
      | assumption
      | exact Bool.noConfusion hb
      | exact absurd hb (by decide)
      | (exfalso; omega)
      | (refine W.retA TOK rfl ?_; (conv => whnf); refine ⟨rfl, rfl, rfl, rfl, rfl, rfl, ?_, ?_, ?_⟩)
      | (refine W.branch rfl (fun hb => ?_) (fun hb => ?_) <;> ((try simp only [decide_eq_true_eq, decide_eq_false_iff_not, Bool.not_eq_true', Bool.not_eq_false', Int.not_lt, Int.not_le, cond_true, cond_false, reduceCtorEq, Int.toNat_natCast, addI] at hb); (try replace hb := of_decide_eq_true hb); (try replace hb := of_decide_eq_false hb)))
      | (refine D.branch rfl (fun hb => ?_) (fun hb => ?_) <;> ((try simp only [decide_eq_true_eq, decide_eq_false_iff_not, Bool.not_eq_true', Bool.not_eq_false', Int.not_lt, Int.not_le, cond_true, cond_false, reduceCtorEq, Int.toNat_natCast, addI] at hb); (try replace hb := of_decide_eq_true hb); (try replace hb := of_decide_eq_false hb)))
      | (refine W.go TOK 73 hΓ 1000 rfl ?_; (conv => whnf); refine ⟨?_, ?_⟩)
      | (refine D.go TOK 73 hΓ 1000 rfl ?_; (conv => whnf); refine ⟨?_, ?_⟩)
      | (refine W.drawn rfl rfl ?_; refine D.run TOK 73 hΓ 1000 ?_; (conv => whnf); refine ⟨?_, ?_⟩)
    all_goals (repeat' apply And.intro)
    all_goals try (first
      | exact trivial
      | exact rfl
      | exact fun _ _ => A.sim.refl _
      | exact A.sim.refl _
      | exact Nat.le_refl _
      | omega
      | exact fun _ _ => trivial
      | exact fun i _ => shift_sim _ _ i
      | exact fun _ h => absurd h (Nat.not_lt_zero _)
      | exact fun i _ => isInt_byteAt _ i
      | exact zlit_sim
      | (simp only [allP, List.nil_append, List.append_nil, List.cons_append, List.append_eq, and_true, true_and, inr_i64, inr_u8, inr_u64, min_i64, max_i64, min_u64, max_u64, min_u8, max_u8, A.purePL, A.pureP, A.sureP, A.surePL, Int.toNat_natCast, addI, cHi, cLo, hiN, loN, subO, addO, hasIdx, cond_true, cond_false]; done)
      | (simp only [allP, List.nil_append, List.append_nil, List.cons_append, List.append_eq, and_true, true_and, inr_i64, inr_u8, inr_u64, min_i64, max_i64, min_u64, max_u64, min_u8, max_u8, A.purePL, A.pureP, A.sureP, A.surePL, Int.toNat_natCast, addI, cHi, cLo, hiN, loN, subO, addO, hasIdx, cond_true, cond_false]; omega)
      | (simp only [allP, List.nil_append, List.append_nil, List.cons_append, List.append_eq, and_true, true_and, inr_i64, inr_u8, inr_u64, min_i64, max_i64, min_u64, max_u64, min_u8, max_u8, A.purePL, A.pureP, A.sureP, A.surePL, Int.toNat_natCast, addI, cHi, cLo, hiN, loN, subO, addO, hasIdx, cond_true, cond_false]; (repeat' apply And.intro) <;> first | exact trivial | rfl | omega | decide)
      )
  have hq : (p.take (p.length - 1)).length = p.length - 1 := by rw [List.length_take]; omega
  have hpe : ((p.length : Int) - 1).toNat = p.length - 1 := by omega
  have hx : (p.getD (p.length - 1) default).length = 32 := sl_get hp (by omega)
  by_cases hik : i < splitS n
  · have hi1 : (i : Int) < (splitS n : Nat) := by omega
    have hd1 : (n : Int) - (splitS n : Nat) = ((n - splitS n : Nat) : Int) := by omega
    rw [upS_two h2 i leaf hp0, if_pos hik]
    have c1 := IH (splitS n) hk.2.1 i leaf (p.take (p.length - 1)) (by omega) (by omega) hl (all_take hp _) (by omega)
    have h32 := upS_32 (splitS n) i leaf (p.take (p.length - 1)) hl
    refine Does.intro (fn := Try.f27) Try.func27 rfl rfl fun Γ hΓ => ?_
    refine W.run TOK 73 hΓ 1000 ?_
    conv => whnf
    refine ⟨?_, ?_⟩
    repeat' first
      | assumption
      | exact Bool.noConfusion hb
      | exact absurd hb (by decide)
      | (exfalso; omega)
      | (refine W.retA TOK rfl ?_; (conv => whnf); refine ⟨rfl, rfl, rfl, rfl, rfl, rfl, ?_, ?_, ?_⟩)
      | (refine W.branch rfl (fun hb => ?_) (fun hb => ?_) <;> ((try simp only [decide_eq_true_eq, decide_eq_false_iff_not, Bool.not_eq_true', Bool.not_eq_false', Int.not_lt, Int.not_le, cond_true, cond_false, reduceCtorEq, Int.toNat_natCast, addI] at hb); (try replace hb := of_decide_eq_true hb); (try replace hb := of_decide_eq_false hb)))
      | (refine D.branch rfl (fun hb => ?_) (fun hb => ?_) <;> ((try simp only [decide_eq_true_eq, decide_eq_false_iff_not, Bool.not_eq_true', Bool.not_eq_false', Int.not_lt, Int.not_le, cond_true, cond_false, reduceCtorEq, Int.toNat_natCast, addI] at hb); (try replace hb := of_decide_eq_true hb); (try replace hb := of_decide_eq_false hb)))
      | (refine D.callA (rsplit_does n (inr_i64.2 (by omega))) rfl rfl rfl rfl hΓ rfl ?_; (conv => whnf); refine ⟨rfl, rfl, rfl, ?_, ?_, ?_, ?_⟩; (focus ((repeat' apply And.intro) <;> first | exact trivial | with_reducible exact rfl | exact fun _ _ => A.sim.refl _ | exact A.sim.refl _ | exact rfl | exact Nat.le_refl _ | omega | exact fun i _ => shift_sim _ _ i | exact fun _ _ => trivial | exact fun _ h => absurd h (Nat.not_lt_zero _) | exact hi1 | exact hd1 | exact sl_take_le (f := hashA) p (p.length - 1) (Nat.le_of_eq hpe) | exact hpe.trans hq.symm | exact fun j _ => A.sim.of (by rw [hpe]))); (focus ((repeat' apply And.intro) <;> first | exact trivial | with_reducible exact rfl | exact fun _ _ => A.sim.refl _ | exact A.sim.refl _ | exact rfl | exact Nat.le_refl _ | omega | exact fun i _ => shift_sim _ _ i | exact fun _ _ => trivial | exact fun _ h => absurd h (Nat.not_lt_zero _) | exact hi1 | exact hd1 | exact sl_take_le (f := hashA) p (p.length - 1) (Nat.le_of_eq hpe) | exact hpe.trans hq.symm | exact fun j _ => A.sim.of (by rw [hpe]))); (focus ((repeat' apply And.intro) <;> first | exact trivial | with_reducible exact rfl | exact fun _ _ => A.sim.refl _ | exact A.sim.refl _ | exact rfl | exact Nat.le_refl _ | omega | exact fun i _ => shift_sim _ _ i | exact fun _ _ => trivial | exact fun _ h => absurd h (Nat.not_lt_zero _) | exact hi1 | exact hd1 | exact sl_take_le (f := hashA) p (p.length - 1) (Nat.le_of_eq hpe) | exact hpe.trans hq.symm | exact fun j _ => A.sim.of (by rw [hpe]))); (conv => whnf))
      | (refine W.callA (rsplit_does n (inr_i64.2 (by omega))) rfl rfl rfl rfl hΓ rfl ?_; (conv => whnf); refine ⟨rfl, rfl, ?_, ?_, ?_, ?_⟩; (focus ((repeat' apply And.intro) <;> first | exact trivial | with_reducible exact rfl | exact fun _ _ => A.sim.refl _ | exact A.sim.refl _ | exact rfl | exact Nat.le_refl _ | omega | exact fun i _ => shift_sim _ _ i | exact fun _ _ => trivial | exact fun _ h => absurd h (Nat.not_lt_zero _) | exact hi1 | exact hd1 | exact sl_take_le (f := hashA) p (p.length - 1) (Nat.le_of_eq hpe) | exact hpe.trans hq.symm | exact fun j _ => A.sim.of (by rw [hpe]))); (focus ((repeat' apply And.intro) <;> first | exact trivial | with_reducible exact rfl | exact fun _ _ => A.sim.refl _ | exact A.sim.refl _ | exact rfl | exact Nat.le_refl _ | omega | exact fun i _ => shift_sim _ _ i | exact fun _ _ => trivial | exact fun _ h => absurd h (Nat.not_lt_zero _) | exact hi1 | exact hd1 | exact sl_take_le (f := hashA) p (p.length - 1) (Nat.le_of_eq hpe) | exact hpe.trans hq.symm | exact fun j _ => A.sim.of (by rw [hpe]))); (focus ((repeat' apply And.intro) <;> first | exact trivial | with_reducible exact rfl | exact fun _ _ => A.sim.refl _ | exact A.sim.refl _ | exact rfl | exact Nat.le_refl _ | omega | exact fun i _ => shift_sim _ _ i | exact fun _ _ => trivial | exact fun _ h => absurd h (Nat.not_lt_zero _) | exact hi1 | exact hd1 | exact sl_take_le (f := hashA) p (p.length - 1) (Nat.le_of_eq hpe) | exact hpe.trans hq.symm | exact fun j _ => A.sim.of (by rw [hpe]))); (conv => whnf))
      | (refine D.callA (c1) rfl rfl rfl rfl hΓ rfl ?_; (conv => whnf); refine ⟨rfl, rfl, rfl, ?_, ?_, ?_, ?_⟩; (focus ((repeat' apply And.intro) <;> first | exact trivial | with_reducible exact rfl | exact fun _ _ => A.sim.refl _ | exact A.sim.refl _ | exact rfl | exact Nat.le_refl _ | omega | exact fun i _ => shift_sim _ _ i | exact fun _ _ => trivial | exact fun _ h => absurd h (Nat.not_lt_zero _) | exact hi1 | exact hd1 | exact sl_take_le (f := hashA) p (p.length - 1) (Nat.le_of_eq hpe) | exact hpe.trans hq.symm | exact fun j _ => A.sim.of (by rw [hpe]))); (focus ((repeat' apply And.intro) <;> first | exact trivial | with_reducible exact rfl | exact fun _ _ => A.sim.refl _ | exact A.sim.refl _ | exact rfl | exact Nat.le_refl _ | omega | exact fun i _ => shift_sim _ _ i | exact fun _ _ => trivial | exact fun _ h => absurd h (Nat.not_lt_zero _) | exact hi1 | exact hd1 | exact sl_take_le (f := hashA) p (p.length - 1) (Nat.le_of_eq hpe) | exact hpe.trans hq.symm | exact fun j _ => A.sim.of (by rw [hpe]))); (focus ((repeat' apply And.intro) <;> first | exact trivial | with_reducible exact rfl | exact fun _ _ => A.sim.refl _ | exact A.sim.refl _ | exact rfl | exact Nat.le_refl _ | omega | exact fun i _ => shift_sim _ _ i | exact fun _ _ => trivial | exact fun _ h => absurd h (Nat.not_lt_zero _) | exact hi1 | exact hd1 | exact sl_take_le (f := hashA) p (p.length - 1) (Nat.le_of_eq hpe) | exact hpe.trans hq.symm | exact fun j _ => A.sim.of (by rw [hpe]))); (conv => whnf))
      | (refine W.callA (c1) rfl rfl rfl rfl hΓ rfl ?_; (conv => whnf); refine ⟨rfl, rfl, ?_, ?_, ?_, ?_⟩; (focus ((repeat' apply And.intro) <;> first | exact trivial | with_reducible exact rfl | exact fun _ _ => A.sim.refl _ | exact A.sim.refl _ | exact rfl | exact Nat.le_refl _ | omega | exact fun i _ => shift_sim _ _ i | exact fun _ _ => trivial | exact fun _ h => absurd h (Nat.not_lt_zero _) | exact hi1 | exact hd1 | exact sl_take_le (f := hashA) p (p.length - 1) (Nat.le_of_eq hpe) | exact hpe.trans hq.symm | exact fun j _ => A.sim.of (by rw [hpe]))); (focus ((repeat' apply And.intro) <;> first | exact trivial | with_reducible exact rfl | exact fun _ _ => A.sim.refl _ | exact A.sim.refl _ | exact rfl | exact Nat.le_refl _ | omega | exact fun i _ => shift_sim _ _ i | exact fun _ _ => trivial | exact fun _ h => absurd h (Nat.not_lt_zero _) | exact hi1 | exact hd1 | exact sl_take_le (f := hashA) p (p.length - 1) (Nat.le_of_eq hpe) | exact hpe.trans hq.symm | exact fun j _ => A.sim.of (by rw [hpe]))); (focus ((repeat' apply And.intro) <;> first | exact trivial | with_reducible exact rfl | exact fun _ _ => A.sim.refl _ | exact A.sim.refl _ | exact rfl | exact Nat.le_refl _ | omega | exact fun i _ => shift_sim _ _ i | exact fun _ _ => trivial | exact fun _ h => absurd h (Nat.not_lt_zero _) | exact hi1 | exact hd1 | exact sl_take_le (f := hashA) p (p.length - 1) (Nat.le_of_eq hpe) | exact hpe.trans hq.symm | exact fun j _ => A.sim.of (by rw [hpe]))); (conv => whnf))
      | (refine D.callA (rnode_does _ _ h32 hx) rfl rfl rfl rfl hΓ rfl ?_; (conv => whnf); refine ⟨rfl, rfl, rfl, ?_, ?_, ?_, ?_⟩; (focus ((repeat' apply And.intro) <;> first | exact trivial | with_reducible exact rfl | exact fun _ _ => A.sim.refl _ | exact A.sim.refl _ | exact rfl | exact Nat.le_refl _ | omega | exact fun i _ => shift_sim _ _ i | exact fun _ _ => trivial | exact fun _ h => absurd h (Nat.not_lt_zero _) | exact hi1 | exact hd1 | exact sl_take_le (f := hashA) p (p.length - 1) (Nat.le_of_eq hpe) | exact hpe.trans hq.symm | exact fun j _ => A.sim.of (by rw [hpe]))); (focus ((repeat' apply And.intro) <;> first | exact trivial | with_reducible exact rfl | exact fun _ _ => A.sim.refl _ | exact A.sim.refl _ | exact rfl | exact Nat.le_refl _ | omega | exact fun i _ => shift_sim _ _ i | exact fun _ _ => trivial | exact fun _ h => absurd h (Nat.not_lt_zero _) | exact hi1 | exact hd1 | exact sl_take_le (f := hashA) p (p.length - 1) (Nat.le_of_eq hpe) | exact hpe.trans hq.symm | exact fun j _ => A.sim.of (by rw [hpe]))); (focus ((repeat' apply And.intro) <;> first | exact trivial | with_reducible exact rfl | exact fun _ _ => A.sim.refl _ | exact A.sim.refl _ | exact rfl | exact Nat.le_refl _ | omega | exact fun i _ => shift_sim _ _ i | exact fun _ _ => trivial | exact fun _ h => absurd h (Nat.not_lt_zero _) | exact hi1 | exact hd1 | exact sl_take_le (f := hashA) p (p.length - 1) (Nat.le_of_eq hpe) | exact hpe.trans hq.symm | exact fun j _ => A.sim.of (by rw [hpe]))); (conv => whnf))
      | (refine W.callA (rnode_does _ _ h32 hx) rfl rfl rfl rfl hΓ rfl ?_; (conv => whnf); refine ⟨rfl, rfl, ?_, ?_, ?_, ?_⟩; (focus ((repeat' apply And.intro) <;> first | exact trivial | with_reducible exact rfl | exact fun _ _ => A.sim.refl _ | exact A.sim.refl _ | exact rfl | exact Nat.le_refl _ | omega | exact fun i _ => shift_sim _ _ i | exact fun _ _ => trivial | exact fun _ h => absurd h (Nat.not_lt_zero _) | exact hi1 | exact hd1 | exact sl_take_le (f := hashA) p (p.length - 1) (Nat.le_of_eq hpe) | exact hpe.trans hq.symm | exact fun j _ => A.sim.of (by rw [hpe]))); (focus ((repeat' apply And.intro) <;> first | exact trivial | with_reducible exact rfl | exact fun _ _ => A.sim.refl _ | exact A.sim.refl _ | exact rfl | exact Nat.le_refl _ | omega | exact fun i _ => shift_sim _ _ i | exact fun _ _ => trivial | exact fun _ h => absurd h (Nat.not_lt_zero _) | exact hi1 | exact hd1 | exact sl_take_le (f := hashA) p (p.length - 1) (Nat.le_of_eq hpe) | exact hpe.trans hq.symm | exact fun j _ => A.sim.of (by rw [hpe]))); (focus ((repeat' apply And.intro) <;> first | exact trivial | with_reducible exact rfl | exact fun _ _ => A.sim.refl _ | exact A.sim.refl _ | exact rfl | exact Nat.le_refl _ | omega | exact fun i _ => shift_sim _ _ i | exact fun _ _ => trivial | exact fun _ h => absurd h (Nat.not_lt_zero _) | exact hi1 | exact hd1 | exact sl_take_le (f := hashA) p (p.length - 1) (Nat.le_of_eq hpe) | exact hpe.trans hq.symm | exact fun j _ => A.sim.of (by rw [hpe]))); (conv => whnf))
      | (refine W.go TOK 73 hΓ 1000 rfl ?_; (conv => whnf); refine ⟨?_, ?_⟩)
      | (refine D.go TOK 73 hΓ 1000 rfl ?_; (conv => whnf); refine ⟨?_, ?_⟩)
      | (refine W.drawn rfl rfl ?_; refine D.run TOK 73 hΓ 1000 ?_; (conv => whnf); refine ⟨?_, ?_⟩)
    all_goals (repeat' apply And.intro)
    all_goals try (first
      | exact trivial
      | exact rfl
      | exact fun _ _ => A.sim.refl _
      | exact A.sim.refl _
      | exact Nat.le_refl _
      | omega
      | exact fun _ _ => trivial
      | exact fun i _ => shift_sim _ _ i
      | exact fun _ h => absurd h (Nat.not_lt_zero _)
      | exact fun i _ => isInt_byteAt _ i
      | (simp only [allP, List.nil_append, List.append_nil, List.cons_append, List.append_eq, and_true, true_and, inr_i64, inr_u8, inr_u64, min_i64, max_i64, min_u64, max_u64, min_u8, max_u8, A.purePL, A.pureP, A.sureP, A.surePL, Int.toNat_natCast, addI, cHi, cLo, hiN, loN, subO, addO, hasIdx, cond_true, cond_false]; done)
      | (simp only [allP, List.nil_append, List.append_nil, List.cons_append, List.append_eq, and_true, true_and, inr_i64, inr_u8, inr_u64, min_i64, max_i64, min_u64, max_u64, min_u8, max_u8, A.purePL, A.pureP, A.sureP, A.surePL, Int.toNat_natCast, addI, cHi, cLo, hiN, loN, subO, addO, hasIdx, cond_true, cond_false]; omega)
      | (simp only [allP, List.nil_append, List.append_nil, List.cons_append, List.append_eq, and_true, true_and, inr_i64, inr_u8, inr_u64, min_i64, max_i64, min_u64, max_u64, min_u8, max_u8, A.purePL, A.pureP, A.sureP, A.surePL, Int.toNat_natCast, addI, cHi, cLo, hiN, loN, subO, addO, hasIdx, cond_true, cond_false]; (repeat' apply And.intro) <;> first | exact trivial | rfl | omega | decide)
      )
  · have hi1 : (i : Int) - (splitS n : Nat) = ((i - splitS n : Nat) : Int) := by omega
    have hd1 : (n : Int) - (splitS n : Nat) = ((n - splitS n : Nat) : Int) := by omega
    rw [upS_two h2 i leaf hp0, if_neg hik]
    have c1 := IH (n - splitS n) (by omega) (i - splitS n) leaf (p.take (p.length - 1)) (by omega) (by omega) hl (all_take hp _) (by omega)
    have h32 := upS_32 (n - splitS n) (i - splitS n) leaf (p.take (p.length - 1)) hl
    refine Does.intro (fn := Try.f27) Try.func27 rfl rfl fun Γ hΓ => ?_
    refine W.run TOK 73 hΓ 1000 ?_
    conv => whnf
    refine ⟨?_, ?_⟩
    repeat' first
      | assumption
      | exact Bool.noConfusion hb
      | exact absurd hb (by decide)
      | (exfalso; omega)
      | (refine W.retA TOK rfl ?_; (conv => whnf); refine ⟨rfl, rfl, rfl, rfl, rfl, rfl, ?_, ?_, ?_⟩)
      | (refine W.branch rfl (fun hb => ?_) (fun hb => ?_) <;> ((try simp only [decide_eq_true_eq, decide_eq_false_iff_not, Bool.not_eq_true', Bool.not_eq_false', Int.not_lt, Int.not_le, cond_true, cond_false, reduceCtorEq, Int.toNat_natCast, addI] at hb); (try replace hb := of_decide_eq_true hb); (try replace hb := of_decide_eq_false hb)))
      | (refine D.branch rfl (fun hb => ?_) (fun hb => ?_) <;> ((try simp only [decide_eq_true_eq, decide_eq_false_iff_not, Bool.not_eq_true', Bool.not_eq_false', Int.not_lt, Int.not_le, cond_true, cond_false, reduceCtorEq, Int.toNat_natCast, addI] at hb); (try replace hb := of_decide_eq_true hb); (try replace hb := of_decide_eq_false hb)))
      | (refine D.callA (rsplit_does n (inr_i64.2 (by omega))) rfl rfl rfl rfl hΓ rfl ?_; (conv => whnf); refine ⟨rfl, rfl, rfl, ?_, ?_, ?_, ?_⟩; (focus ((repeat' apply And.intro) <;> first | exact trivial | with_reducible exact rfl | exact fun _ _ => A.sim.refl _ | exact A.sim.refl _ | exact rfl | exact Nat.le_refl _ | omega | exact fun i _ => shift_sim _ _ i | exact fun _ _ => trivial | exact fun _ h => absurd h (Nat.not_lt_zero _) | exact hi1 | exact hd1 | exact sl_take_le (f := hashA) p (p.length - 1) (Nat.le_of_eq hpe) | exact hpe.trans hq.symm | exact fun j _ => A.sim.of (by rw [hpe]))); (focus ((repeat' apply And.intro) <;> first | exact trivial | with_reducible exact rfl | exact fun _ _ => A.sim.refl _ | exact A.sim.refl _ | exact rfl | exact Nat.le_refl _ | omega | exact fun i _ => shift_sim _ _ i | exact fun _ _ => trivial | exact fun _ h => absurd h (Nat.not_lt_zero _) | exact hi1 | exact hd1 | exact sl_take_le (f := hashA) p (p.length - 1) (Nat.le_of_eq hpe) | exact hpe.trans hq.symm | exact fun j _ => A.sim.of (by rw [hpe]))); (focus ((repeat' apply And.intro) <;> first | exact trivial | with_reducible exact rfl | exact fun _ _ => A.sim.refl _ | exact A.sim.refl _ | exact rfl | exact Nat.le_refl _ | omega | exact fun i _ => shift_sim _ _ i | exact fun _ _ => trivial | exact fun _ h => absurd h (Nat.not_lt_zero _) | exact hi1 | exact hd1 | exact sl_take_le (f := hashA) p (p.length - 1) (Nat.le_of_eq hpe) | exact hpe.trans hq.symm | exact fun j _ => A.sim.of (by rw [hpe]))); (conv => whnf))
      | (refine W.callA (rsplit_does n (inr_i64.2 (by omega))) rfl rfl rfl rfl hΓ rfl ?_; (conv => whnf); refine ⟨rfl, rfl, ?_, ?_, ?_, ?_⟩; (focus ((repeat' apply And.intro) <;> first | exact trivial | with_reducible exact rfl | exact fun _ _ => A.sim.refl _ | exact A.sim.refl _ | exact rfl | exact Nat.le_refl _ | omega | exact fun i _ => shift_sim _ _ i | exact fun _ _ => trivial | exact fun _ h => absurd h (Nat.not_lt_zero _) | exact hi1 | exact hd1 | exact sl_take_le (f := hashA) p (p.length - 1) (Nat.le_of_eq hpe) | exact hpe.trans hq.symm | exact fun j _ => A.sim.of (by rw [hpe]))); (focus ((repeat' apply And.intro) <;> first | exact trivial | with_reducible exact rfl | exact fun _ _ => A.sim.refl _ | exact A.sim.refl _ | exact rfl | exact Nat.le_refl _ | omega | exact fun i _ => shift_sim _ _ i | exact fun _ _ => trivial | exact fun _ h => absurd h (Nat.not_lt_zero _) | exact hi1 | exact hd1 | exact sl_take_le (f := hashA) p (p.length - 1) (Nat.le_of_eq hpe) | exact hpe.trans hq.symm | exact fun j _ => A.sim.of (by rw [hpe]))); (focus ((repeat' apply And.intro) <;> first | exact trivial | with_reducible exact rfl | exact fun _ _ => A.sim.refl _ | exact A.sim.refl _ | exact rfl | exact Nat.le_refl _ | omega | exact fun i _ => shift_sim _ _ i | exact fun _ _ => trivial | exact fun _ h => absurd h (Nat.not_lt_zero _) | exact hi1 | exact hd1 | exact sl_take_le (f := hashA) p (p.length - 1) (Nat.le_of_eq hpe) | exact hpe.trans hq.symm | exact fun j _ => A.sim.of (by rw [hpe]))); (conv => whnf))
      | (refine D.callA (c1) rfl rfl rfl rfl hΓ rfl ?_; (conv => whnf); refine ⟨rfl, rfl, rfl, ?_, ?_, ?_, ?_⟩; (focus ((repeat' apply And.intro) <;> first | exact trivial | with_reducible exact rfl | exact fun _ _ => A.sim.refl _ | exact A.sim.refl _ | exact rfl | exact Nat.le_refl _ | omega | exact fun i _ => shift_sim _ _ i | exact fun _ _ => trivial | exact fun _ h => absurd h (Nat.not_lt_zero _) | exact hi1 | exact hd1 | exact sl_take_le (f := hashA) p (p.length - 1) (Nat.le_of_eq hpe) | exact hpe.trans hq.symm | exact fun j _ => A.sim.of (by rw [hpe]))); (focus ((repeat' apply And.intro) <;> first | exact trivial | with_reducible exact rfl | exact fun _ _ => A.sim.refl _ | exact A.sim.refl _ | exact rfl | exact Nat.le_refl _ | omega | exact fun i _ => shift_sim _ _ i | exact fun _ _ => trivial | exact fun _ h => absurd h (Nat.not_lt_zero _) | exact hi1 | exact hd1 | exact sl_take_le (f := hashA) p (p.length - 1) (Nat.le_of_eq hpe) | exact hpe.trans hq.symm | exact fun j _ => A.sim.of (by rw [hpe]))); (focus ((repeat' apply And.intro) <;> first | exact trivial | with_reducible exact rfl | exact fun _ _ => A.sim.refl _ | exact A.sim.refl _ | exact rfl | exact Nat.le_refl _ | omega | exact fun i _ => shift_sim _ _ i | exact fun _ _ => trivial | exact fun _ h => absurd h (Nat.not_lt_zero _) | exact hi1 | exact hd1 | exact sl_take_le (f := hashA) p (p.length - 1) (Nat.le_of_eq hpe) | exact hpe.trans hq.symm | exact fun j _ => A.sim.of (by rw [hpe]))); (conv => whnf))
      | (refine W.callA (c1) rfl rfl rfl rfl hΓ rfl ?_; (conv => whnf); refine ⟨rfl, rfl, ?_, ?_, ?_, ?_⟩; (focus ((repeat' apply And.intro) <;> first | exact trivial | with_reducible exact rfl | exact fun _ _ => A.sim.refl _ | exact A.sim.refl _ | exact rfl | exact Nat.le_refl _ | omega | exact fun i _ => shift_sim _ _ i | exact fun _ _ => trivial | exact fun _ h => absurd h (Nat.not_lt_zero _) | exact hi1 | exact hd1 | exact sl_take_le (f := hashA) p (p.length - 1) (Nat.le_of_eq hpe) | exact hpe.trans hq.symm | exact fun j _ => A.sim.of (by rw [hpe]))); (focus ((repeat' apply And.intro) <;> first | exact trivial | with_reducible exact rfl | exact fun _ _ => A.sim.refl _ | exact A.sim.refl _ | exact rfl | exact Nat.le_refl _ | omega | exact fun i _ => shift_sim _ _ i | exact fun _ _ => trivial | exact fun _ h => absurd h (Nat.not_lt_zero _) | exact hi1 | exact hd1 | exact sl_take_le (f := hashA) p (p.length - 1) (Nat.le_of_eq hpe) | exact hpe.trans hq.symm | exact fun j _ => A.sim.of (by rw [hpe]))); (focus ((repeat' apply And.intro) <;> first | exact trivial | with_reducible exact rfl | exact fun _ _ => A.sim.refl _ | exact A.sim.refl _ | exact rfl | exact Nat.le_refl _ | omega | exact fun i _ => shift_sim _ _ i | exact fun _ _ => trivial | exact fun _ h => absurd h (Nat.not_lt_zero _) | exact hi1 | exact hd1 | exact sl_take_le (f := hashA) p (p.length - 1) (Nat.le_of_eq hpe) | exact hpe.trans hq.symm | exact fun j _ => A.sim.of (by rw [hpe]))); (conv => whnf))
      | (refine D.callA (rnode_does _ _ hx h32) rfl rfl rfl rfl hΓ rfl ?_; (conv => whnf); refine ⟨rfl, rfl, rfl, ?_, ?_, ?_, ?_⟩; (focus ((repeat' apply And.intro) <;> first | exact trivial | with_reducible exact rfl | exact fun _ _ => A.sim.refl _ | exact A.sim.refl _ | exact rfl | exact Nat.le_refl _ | omega | exact fun i _ => shift_sim _ _ i | exact fun _ _ => trivial | exact fun _ h => absurd h (Nat.not_lt_zero _) | exact hi1 | exact hd1 | exact sl_take_le (f := hashA) p (p.length - 1) (Nat.le_of_eq hpe) | exact hpe.trans hq.symm | exact fun j _ => A.sim.of (by rw [hpe]))); (focus ((repeat' apply And.intro) <;> first | exact trivial | with_reducible exact rfl | exact fun _ _ => A.sim.refl _ | exact A.sim.refl _ | exact rfl | exact Nat.le_refl _ | omega | exact fun i _ => shift_sim _ _ i | exact fun _ _ => trivial | exact fun _ h => absurd h (Nat.not_lt_zero _) | exact hi1 | exact hd1 | exact sl_take_le (f := hashA) p (p.length - 1) (Nat.le_of_eq hpe) | exact hpe.trans hq.symm | exact fun j _ => A.sim.of (by rw [hpe]))); (focus ((repeat' apply And.intro) <;> first | exact trivial | with_reducible exact rfl | exact fun _ _ => A.sim.refl _ | exact A.sim.refl _ | exact rfl | exact Nat.le_refl _ | omega | exact fun i _ => shift_sim _ _ i | exact fun _ _ => trivial | exact fun _ h => absurd h (Nat.not_lt_zero _) | exact hi1 | exact hd1 | exact sl_take_le (f := hashA) p (p.length - 1) (Nat.le_of_eq hpe) | exact hpe.trans hq.symm | exact fun j _ => A.sim.of (by rw [hpe]))); (conv => whnf))
      | (refine W.callA (rnode_does _ _ hx h32) rfl rfl rfl rfl hΓ rfl ?_; (conv => whnf); refine ⟨rfl, rfl, ?_, ?_, ?_, ?_⟩; (focus ((repeat' apply And.intro) <;> first | exact trivial | with_reducible exact rfl | exact fun _ _ => A.sim.refl _ | exact A.sim.refl _ | exact rfl | exact Nat.le_refl _ | omega | exact fun i _ => shift_sim _ _ i | exact fun _ _ => trivial | exact fun _ h => absurd h (Nat.not_lt_zero _) | exact hi1 | exact hd1 | exact sl_take_le (f := hashA) p (p.length - 1) (Nat.le_of_eq hpe) | exact hpe.trans hq.symm | exact fun j _ => A.sim.of (by rw [hpe]))); (focus ((repeat' apply And.intro) <;> first | exact trivial | with_reducible exact rfl | exact fun _ _ => A.sim.refl _ | exact A.sim.refl _ | exact rfl | exact Nat.le_refl _ | omega | exact fun i _ => shift_sim _ _ i | exact fun _ _ => trivial | exact fun _ h => absurd h (Nat.not_lt_zero _) | exact hi1 | exact hd1 | exact sl_take_le (f := hashA) p (p.length - 1) (Nat.le_of_eq hpe) | exact hpe.trans hq.symm | exact fun j _ => A.sim.of (by rw [hpe]))); (focus ((repeat' apply And.intro) <;> first | exact trivial | with_reducible exact rfl | exact fun _ _ => A.sim.refl _ | exact A.sim.refl _ | exact rfl | exact Nat.le_refl _ | omega | exact fun i _ => shift_sim _ _ i | exact fun _ _ => trivial | exact fun _ h => absurd h (Nat.not_lt_zero _) | exact hi1 | exact hd1 | exact sl_take_le (f := hashA) p (p.length - 1) (Nat.le_of_eq hpe) | exact hpe.trans hq.symm | exact fun j _ => A.sim.of (by rw [hpe]))); (conv => whnf))
      | (refine W.go TOK 73 hΓ 1000 rfl ?_; (conv => whnf); refine ⟨?_, ?_⟩)
      | (refine D.go TOK 73 hΓ 1000 rfl ?_; (conv => whnf); refine ⟨?_, ?_⟩)
      | (refine W.drawn rfl rfl ?_; refine D.run TOK 73 hΓ 1000 ?_; (conv => whnf); refine ⟨?_, ?_⟩)
    all_goals (repeat' apply And.intro)
    all_goals try (first
      | exact trivial
      | exact rfl
      | exact fun _ _ => A.sim.refl _
      | exact A.sim.refl _
      | exact Nat.le_refl _
      | omega
      | exact fun _ _ => trivial
      | exact fun i _ => shift_sim _ _ i
      | exact fun _ h => absurd h (Nat.not_lt_zero _)
      | exact fun i _ => isInt_byteAt _ i
      | (simp only [allP, List.nil_append, List.append_nil, List.cons_append, List.append_eq, and_true, true_and, inr_i64, inr_u8, inr_u64, min_i64, max_i64, min_u64, max_u64, min_u8, max_u8, A.purePL, A.pureP, A.sureP, A.surePL, Int.toNat_natCast, addI, cHi, cLo, hiN, loN, subO, addO, hasIdx, cond_true, cond_false]; done)
      | (simp only [allP, List.nil_append, List.append_nil, List.cons_append, List.append_eq, and_true, true_and, inr_i64, inr_u8, inr_u64, min_i64, max_i64, min_u64, max_u64, min_u8, max_u8, A.purePL, A.pureP, A.sureP, A.surePL, Int.toNat_natCast, addI, cHi, cLo, hiN, loN, subO, addO, hasIdx, cond_true, cond_false]; omega)
      | (simp only [allP, List.nil_append, List.append_nil, List.cons_append, List.append_eq, and_true, true_and, inr_i64, inr_u8, inr_u64, min_i64, max_i64, min_u64, max_u64, min_u8, max_u8, A.purePL, A.pureP, A.sureP, A.surePL, Int.toNat_natCast, addI, cHi, cLo, hiN, loN, subO, addO, hasIdx, cond_true, cond_false]; (repeat' apply And.intro) <;> first | exact trivial | rfl | omega | decide)
      )

theorem check_does (root : Hs) (n i : Int) (leaf : Hs) (p : List Hs) (hr : root.length = 32) (hn : inr .i64 n) (hi : inr .i64 i) (hp9 : p.length ≤ 1000000000) (hl : leaf.length = 32) (hp : ∀ x ∈ p, x.length = 32) :
    Does Try.prog 20 [hashA root, .int .i64 n, .int .i64 i, hashA leaf, sl 32 hashA p] [] [] (Is (.bool (checkS root n i leaf p)) []) := by
  rw [inr_i64] at hn hi
  by_cases h : i < 0 ∨ n ≤ i
  · unfold checkS
    rw [if_pos h]
    refine Does.intro (fn := Try.f20) Try.func20 rfl rfl fun Γ hΓ => ?_
    refine W.run TOK 41 hΓ 1000 ?_
    conv => whnf
    refine ⟨?_, ?_⟩
    repeat' first
      | assumption
      | exact Bool.noConfusion hb
      | exact absurd hb (by decide)
      | (exfalso; omega)
      | (refine W.retA TOK rfl ?_; (conv => whnf); refine ⟨rfl, rfl, rfl, rfl, rfl, rfl, ?_, ?_, ?_⟩)
      | (refine W.branch rfl (fun hb => ?_) (fun hb => ?_) <;> ((try simp only [decide_eq_true_eq, decide_eq_false_iff_not, Bool.not_eq_true', Bool.not_eq_false', Int.not_lt, Int.not_le, cond_true, cond_false, reduceCtorEq, Int.toNat_natCast, addI] at hb); (try replace hb := of_decide_eq_true hb); (try replace hb := of_decide_eq_false hb)))
      | (refine D.branch rfl (fun hb => ?_) (fun hb => ?_) <;> ((try simp only [decide_eq_true_eq, decide_eq_false_iff_not, Bool.not_eq_true', Bool.not_eq_false', Int.not_lt, Int.not_le, cond_true, cond_false, reduceCtorEq, Int.toNat_natCast, addI] at hb); (try replace hb := of_decide_eq_true hb); (try replace hb := of_decide_eq_false hb)))
      | (refine W.go TOK 41 hΓ 1000 rfl ?_; (conv => whnf); refine ⟨?_, ?_⟩)
      | (refine D.go TOK 41 hΓ 1000 rfl ?_; (conv => whnf); refine ⟨?_, ?_⟩)
      | (refine W.drawn rfl rfl ?_; refine D.run TOK 41 hΓ 1000 ?_; (conv => whnf); refine ⟨?_, ?_⟩)
    all_goals (repeat' apply And.intro)
    all_goals try (first
      | exact trivial
      | exact rfl
      | exact fun _ _ => A.sim.refl _
      | exact A.sim.refl _
      | exact Nat.le_refl _
      | omega
      | exact fun _ _ => trivial
      | exact fun i _ => shift_sim _ _ i
      | exact fun _ h => absurd h (Nat.not_lt_zero _)
      | exact fun i _ => isInt_byteAt _ i
      | (simp only [allP, List.nil_append, List.append_nil, List.cons_append, List.append_eq, and_true, true_and, inr_i64, inr_u8, inr_u64, min_i64, max_i64, min_u64, max_u64, min_u8, max_u8, A.purePL, A.pureP, A.sureP, A.surePL, Int.toNat_natCast, addI, cHi, cLo, hiN, loN, subO, addO, hasIdx, cond_true, cond_false]; done)
      | (simp only [allP, List.nil_append, List.append_nil, List.cons_append, List.append_eq, and_true, true_and, inr_i64, inr_u8, inr_u64, min_i64, max_i64, min_u64, max_u64, min_u8, max_u8, A.purePL, A.pureP, A.sureP, A.surePL, Int.toNat_natCast, addI, cHi, cLo, hiN, loN, subO, addO, hasIdx, cond_true, cond_false]; omega)
      | (simp only [allP, List.nil_append, List.append_nil, List.cons_append, List.append_eq, and_true, true_and, inr_i64, inr_u8, inr_u64, min_i64, max_i64, min_u64, max_u64, min_u8, max_u8, A.purePL, A.pureP, A.sureP, A.surePL, Int.toNat_natCast, addI, cHi, cLo, hiN, loN, subO, addO, hasIdx, cond_true, cond_false]; (repeat' apply And.intro) <;> first | exact trivial | rfl | omega | decide)
      )
  obtain ⟨n, rfl⟩ : ∃ m : Nat, n = m := ⟨n.toNat, by omega⟩
  obtain ⟨i, rfl⟩ : ∃ m : Nat, i = m := ⟨i.toNat, by omega⟩
  rw [checkS_climb (by omega)]
  have c1 := climb_does n i leaf p (by omega) hp9 hl hp (by omega)
  have h32 := climbS_32 n i leaf p hl hp
  cases e : climbS n i leaf p with
  | none =>
    rw [e] at c1
    refine Does.intro (fn := Try.f20) Try.func20 rfl rfl fun Γ hΓ => ?_
    refine W.run TOK 41 hΓ 1000 ?_
    conv => whnf
    refine ⟨?_, ?_⟩
    repeat' first
      | assumption
      | exact Bool.noConfusion hb
      | exact absurd hb (by decide)
      | (exfalso; omega)
      | (refine W.retA TOK rfl ?_; (conv => whnf); refine ⟨rfl, rfl, rfl, rfl, rfl, rfl, ?_, ?_, ?_⟩)
      | (refine W.branch rfl (fun hb => ?_) (fun hb => ?_) <;> ((try simp only [decide_eq_true_eq, decide_eq_false_iff_not, Bool.not_eq_true', Bool.not_eq_false', Int.not_lt, Int.not_le, cond_true, cond_false, reduceCtorEq, Int.toNat_natCast, addI] at hb); (try replace hb := of_decide_eq_true hb); (try replace hb := of_decide_eq_false hb)))
      | (refine D.branch rfl (fun hb => ?_) (fun hb => ?_) <;> ((try simp only [decide_eq_true_eq, decide_eq_false_iff_not, Bool.not_eq_true', Bool.not_eq_false', Int.not_lt, Int.not_le, cond_true, cond_false, reduceCtorEq, Int.toNat_natCast, addI] at hb); (try replace hb := of_decide_eq_true hb); (try replace hb := of_decide_eq_false hb)))
      | (refine D.callA (c1) rfl rfl rfl rfl hΓ rfl ?_; (conv => whnf); refine ⟨rfl, rfl, rfl, ?_, ?_, ?_, ?_⟩; (focus ((repeat' apply And.intro) <;> first | exact trivial | with_reducible exact rfl | exact fun _ _ => A.sim.refl _ | exact A.sim.refl _ | exact rfl | exact Nat.le_refl _ | omega | exact fun i _ => shift_sim _ _ i | exact fun _ _ => trivial | exact fun _ h => absurd h (Nat.not_lt_zero _))); (focus ((repeat' apply And.intro) <;> first | exact trivial | with_reducible exact rfl | exact fun _ _ => A.sim.refl _ | exact A.sim.refl _ | exact rfl | exact Nat.le_refl _ | omega | exact fun i _ => shift_sim _ _ i | exact fun _ _ => trivial | exact fun _ h => absurd h (Nat.not_lt_zero _))); (focus ((repeat' apply And.intro) <;> first | exact trivial | with_reducible exact rfl | exact fun _ _ => A.sim.refl _ | exact A.sim.refl _ | exact rfl | exact Nat.le_refl _ | omega | exact fun i _ => shift_sim _ _ i | exact fun _ _ => trivial | exact fun _ h => absurd h (Nat.not_lt_zero _))); (conv => whnf))
      | (refine W.callA (c1) rfl rfl rfl rfl hΓ rfl ?_; (conv => whnf); refine ⟨rfl, rfl, ?_, ?_, ?_, ?_⟩; (focus ((repeat' apply And.intro) <;> first | exact trivial | with_reducible exact rfl | exact fun _ _ => A.sim.refl _ | exact A.sim.refl _ | exact rfl | exact Nat.le_refl _ | omega | exact fun i _ => shift_sim _ _ i | exact fun _ _ => trivial | exact fun _ h => absurd h (Nat.not_lt_zero _))); (focus ((repeat' apply And.intro) <;> first | exact trivial | with_reducible exact rfl | exact fun _ _ => A.sim.refl _ | exact A.sim.refl _ | exact rfl | exact Nat.le_refl _ | omega | exact fun i _ => shift_sim _ _ i | exact fun _ _ => trivial | exact fun _ h => absurd h (Nat.not_lt_zero _))); (focus ((repeat' apply And.intro) <;> first | exact trivial | with_reducible exact rfl | exact fun _ _ => A.sim.refl _ | exact A.sim.refl _ | exact rfl | exact Nat.le_refl _ | omega | exact fun i _ => shift_sim _ _ i | exact fun _ _ => trivial | exact fun _ h => absurd h (Nat.not_lt_zero _))); (conv => whnf))
      | (refine W.go TOK 41 hΓ 1000 rfl ?_; (conv => whnf); refine ⟨?_, ?_⟩)
      | (refine D.go TOK 41 hΓ 1000 rfl ?_; (conv => whnf); refine ⟨?_, ?_⟩)
      | (refine W.drawn rfl rfl ?_; refine D.run TOK 41 hΓ 1000 ?_; (conv => whnf); refine ⟨?_, ?_⟩)
    all_goals (repeat' apply And.intro)
    all_goals try (first
      | exact trivial
      | exact rfl
      | exact fun _ _ => A.sim.refl _
      | exact A.sim.refl _
      | exact Nat.le_refl _
      | omega
      | exact fun _ _ => trivial
      | exact fun i _ => shift_sim _ _ i
      | exact fun _ h => absurd h (Nat.not_lt_zero _)
      | exact fun i _ => isInt_byteAt _ i
      | exact fun i _ => ⟨⟨_, rfl⟩, ⟨_, rfl⟩⟩
      | (simp only [allP, List.nil_append, List.append_nil, List.cons_append, List.append_eq, and_true, true_and, inr_i64, inr_u8, inr_u64, min_i64, max_i64, min_u64, max_u64, min_u8, max_u8, A.purePL, A.pureP, A.sureP, A.surePL, Int.toNat_natCast, addI, cHi, cLo, hiN, loN, subO, addO, hasIdx, cond_true, cond_false]; done)
      | (simp only [allP, List.nil_append, List.append_nil, List.cons_append, List.append_eq, and_true, true_and, inr_i64, inr_u8, inr_u64, min_i64, max_i64, min_u64, max_u64, min_u8, max_u8, A.purePL, A.pureP, A.sureP, A.surePL, Int.toNat_natCast, addI, cHi, cLo, hiN, loN, subO, addO, hasIdx, cond_true, cond_false]; omega)
      | (simp only [allP, List.nil_append, List.append_nil, List.cons_append, List.append_eq, and_true, true_and, inr_i64, inr_u8, inr_u64, min_i64, max_i64, min_u64, max_u64, min_u8, max_u8, A.purePL, A.pureP, A.sureP, A.surePL, Int.toNat_natCast, addI, cHi, cLo, hiN, loN, subO, addO, hasIdx, cond_true, cond_false]; (repeat' apply And.intro) <;> first | exact trivial | rfl | omega | decide)
      )
  | some hr' =>
    obtain ⟨h', r⟩ := hr'
    rw [e] at c1
    obtain ⟨q1, q2, q3⟩ := h32 h' r e
    match r, c1, q2, q3 with
    | [], c1, q2, q3 =>
      refine Does.intro (fn := Try.f20) Try.func20 rfl rfl fun Γ hΓ => ?_
      refine W.run TOK 41 hΓ 1000 ?_
      conv => whnf
      refine ⟨?_, ?_⟩
      repeat' first
        | assumption
        | exact Bool.noConfusion hb
        | exact absurd hb (by decide)
        | (exfalso; omega)
        | (refine W.retA TOK rfl ?_; (conv => whnf); refine ⟨rfl, rfl, rfl, rfl, rfl, rfl, ?_, ?_, ?_⟩)
        | (refine W.branch rfl (fun hb => ?_) (fun hb => ?_) <;> ((try simp only [decide_eq_true_eq, decide_eq_false_iff_not, Bool.not_eq_true', Bool.not_eq_false', Int.not_lt, Int.not_le, cond_true, cond_false, reduceCtorEq, Int.toNat_natCast, addI] at hb); (try replace hb := of_decide_eq_true hb); (try replace hb := of_decide_eq_false hb)))
        | (refine D.branch rfl (fun hb => ?_) (fun hb => ?_) <;> ((try simp only [decide_eq_true_eq, decide_eq_false_iff_not, Bool.not_eq_true', Bool.not_eq_false', Int.not_lt, Int.not_le, cond_true, cond_false, reduceCtorEq, Int.toNat_natCast, addI] at hb); (try replace hb := of_decide_eq_true hb); (try replace hb := of_decide_eq_false hb)))
        | (refine D.callA (c1) rfl rfl rfl rfl hΓ rfl ?_; (conv => whnf); refine ⟨rfl, rfl, rfl, ?_, ?_, ?_, ?_⟩; (focus ((repeat' apply And.intro) <;> first | exact trivial | with_reducible exact rfl | exact fun _ _ => A.sim.refl _ | exact A.sim.refl _ | exact rfl | exact Nat.le_refl _ | omega | exact fun i _ => shift_sim _ _ i | exact fun _ _ => trivial | exact fun _ h => absurd h (Nat.not_lt_zero _))); (focus ((repeat' apply And.intro) <;> first | exact trivial | with_reducible exact rfl | exact fun _ _ => A.sim.refl _ | exact A.sim.refl _ | exact rfl | exact Nat.le_refl _ | omega | exact fun i _ => shift_sim _ _ i | exact fun _ _ => trivial | exact fun _ h => absurd h (Nat.not_lt_zero _))); (focus ((repeat' apply And.intro) <;> first | exact trivial | with_reducible exact rfl | exact fun _ _ => A.sim.refl _ | exact A.sim.refl _ | exact rfl | exact Nat.le_refl _ | omega | exact fun i _ => shift_sim _ _ i | exact fun _ _ => trivial | exact fun _ h => absurd h (Nat.not_lt_zero _))); (conv => whnf))
        | (refine W.callA (c1) rfl rfl rfl rfl hΓ rfl ?_; (conv => whnf); refine ⟨rfl, rfl, ?_, ?_, ?_, ?_⟩; (focus ((repeat' apply And.intro) <;> first | exact trivial | with_reducible exact rfl | exact fun _ _ => A.sim.refl _ | exact A.sim.refl _ | exact rfl | exact Nat.le_refl _ | omega | exact fun i _ => shift_sim _ _ i | exact fun _ _ => trivial | exact fun _ h => absurd h (Nat.not_lt_zero _))); (focus ((repeat' apply And.intro) <;> first | exact trivial | with_reducible exact rfl | exact fun _ _ => A.sim.refl _ | exact A.sim.refl _ | exact rfl | exact Nat.le_refl _ | omega | exact fun i _ => shift_sim _ _ i | exact fun _ _ => trivial | exact fun _ h => absurd h (Nat.not_lt_zero _))); (focus ((repeat' apply And.intro) <;> first | exact trivial | with_reducible exact rfl | exact fun _ _ => A.sim.refl _ | exact A.sim.refl _ | exact rfl | exact Nat.le_refl _ | omega | exact fun i _ => shift_sim _ _ i | exact fun _ _ => trivial | exact fun _ h => absurd h (Nat.not_lt_zero _))); (conv => whnf))
        | (refine W.go TOK 41 hΓ 1000 rfl ?_; (conv => whnf); refine ⟨?_, ?_⟩)
        | (refine D.go TOK 41 hΓ 1000 rfl ?_; (conv => whnf); refine ⟨?_, ?_⟩)
        | (refine W.drawn rfl rfl ?_; refine D.run TOK 41 hΓ 1000 ?_; (conv => whnf); refine ⟨?_, ?_⟩)
      all_goals (repeat' apply And.intro)
      all_goals try (first
        | exact trivial
        | exact rfl
        | exact fun _ _ => A.sim.refl _
        | exact A.sim.refl _
        | exact Nat.le_refl _
        | omega
        | exact fun _ _ => trivial
        | exact fun i _ => shift_sim _ _ i
        | exact fun _ h => absurd h (Nat.not_lt_zero _)
        | exact fun i _ => isInt_byteAt _ i
        | exact fun i _ => ⟨⟨_, rfl⟩, ⟨_, rfl⟩⟩
        | exact hash_eq q1 hr
        | (simp only [allP, List.nil_append, List.append_nil, List.cons_append, List.append_eq, and_true, true_and, inr_i64, inr_u8, inr_u64, min_i64, max_i64, min_u64, max_u64, min_u8, max_u8, A.purePL, A.pureP, A.sureP, A.surePL, Int.toNat_natCast, addI, cHi, cLo, hiN, loN, subO, addO, hasIdx, cond_true, cond_false]; done)
        | (simp only [allP, List.nil_append, List.append_nil, List.cons_append, List.append_eq, and_true, true_and, inr_i64, inr_u8, inr_u64, min_i64, max_i64, min_u64, max_u64, min_u8, max_u8, A.purePL, A.pureP, A.sureP, A.surePL, Int.toNat_natCast, addI, cHi, cLo, hiN, loN, subO, addO, hasIdx, cond_true, cond_false]; omega)
        | (simp only [allP, List.nil_append, List.append_nil, List.cons_append, List.append_eq, and_true, true_and, inr_i64, inr_u8, inr_u64, min_i64, max_i64, min_u64, max_u64, min_u8, max_u8, A.purePL, A.pureP, A.sureP, A.surePL, Int.toNat_natCast, addI, cHi, cLo, hiN, loN, subO, addO, hasIdx, cond_true, cond_false]; (repeat' apply And.intro) <;> first | exact trivial | rfl | omega | decide)
        )
    | x :: r, c1, q2, q3 =>
      have hxl : (x :: r).length = r.length + 1 := rfl
      refine Does.intro (fn := Try.f20) Try.func20 rfl rfl fun Γ hΓ => ?_
      refine W.run TOK 41 hΓ 1000 ?_
      conv => whnf
      refine ⟨?_, ?_⟩
      repeat' first
        | assumption
        | exact Bool.noConfusion hb
        | exact absurd hb (by decide)
        | (exfalso; omega)
        | (refine W.retA TOK rfl ?_; (conv => whnf); refine ⟨rfl, rfl, rfl, rfl, rfl, rfl, ?_, ?_, ?_⟩)
        | (refine W.branch rfl (fun hb => ?_) (fun hb => ?_) <;> ((try simp only [decide_eq_true_eq, decide_eq_false_iff_not, Bool.not_eq_true', Bool.not_eq_false', Int.not_lt, Int.not_le, cond_true, cond_false, reduceCtorEq, Int.toNat_natCast, addI] at hb); (try replace hb := of_decide_eq_true hb); (try replace hb := of_decide_eq_false hb)))
        | (refine D.branch rfl (fun hb => ?_) (fun hb => ?_) <;> ((try simp only [decide_eq_true_eq, decide_eq_false_iff_not, Bool.not_eq_true', Bool.not_eq_false', Int.not_lt, Int.not_le, cond_true, cond_false, reduceCtorEq, Int.toNat_natCast, addI] at hb); (try replace hb := of_decide_eq_true hb); (try replace hb := of_decide_eq_false hb)))
        | (refine D.callA (c1) rfl rfl rfl rfl hΓ rfl ?_; (conv => whnf); refine ⟨rfl, rfl, rfl, ?_, ?_, ?_, ?_⟩; (focus ((repeat' apply And.intro) <;> first | exact trivial | with_reducible exact rfl | exact fun _ _ => A.sim.refl _ | exact A.sim.refl _ | exact rfl | exact Nat.le_refl _ | omega | exact fun i _ => shift_sim _ _ i | exact fun _ _ => trivial | exact fun _ h => absurd h (Nat.not_lt_zero _))); (focus ((repeat' apply And.intro) <;> first | exact trivial | with_reducible exact rfl | exact fun _ _ => A.sim.refl _ | exact A.sim.refl _ | exact rfl | exact Nat.le_refl _ | omega | exact fun i _ => shift_sim _ _ i | exact fun _ _ => trivial | exact fun _ h => absurd h (Nat.not_lt_zero _))); (focus ((repeat' apply And.intro) <;> first | exact trivial | with_reducible exact rfl | exact fun _ _ => A.sim.refl _ | exact A.sim.refl _ | exact rfl | exact Nat.le_refl _ | omega | exact fun i _ => shift_sim _ _ i | exact fun _ _ => trivial | exact fun _ h => absurd h (Nat.not_lt_zero _))); (conv => whnf))
        | (refine W.callA (c1) rfl rfl rfl rfl hΓ rfl ?_; (conv => whnf); refine ⟨rfl, rfl, ?_, ?_, ?_, ?_⟩; (focus ((repeat' apply And.intro) <;> first | exact trivial | with_reducible exact rfl | exact fun _ _ => A.sim.refl _ | exact A.sim.refl _ | exact rfl | exact Nat.le_refl _ | omega | exact fun i _ => shift_sim _ _ i | exact fun _ _ => trivial | exact fun _ h => absurd h (Nat.not_lt_zero _))); (focus ((repeat' apply And.intro) <;> first | exact trivial | with_reducible exact rfl | exact fun _ _ => A.sim.refl _ | exact A.sim.refl _ | exact rfl | exact Nat.le_refl _ | omega | exact fun i _ => shift_sim _ _ i | exact fun _ _ => trivial | exact fun _ h => absurd h (Nat.not_lt_zero _))); (focus ((repeat' apply And.intro) <;> first | exact trivial | with_reducible exact rfl | exact fun _ _ => A.sim.refl _ | exact A.sim.refl _ | exact rfl | exact Nat.le_refl _ | omega | exact fun i _ => shift_sim _ _ i | exact fun _ _ => trivial | exact fun _ h => absurd h (Nat.not_lt_zero _))); (conv => whnf))
        | (refine W.go TOK 41 hΓ 1000 rfl ?_; (conv => whnf); refine ⟨?_, ?_⟩)
        | (refine D.go TOK 41 hΓ 1000 rfl ?_; (conv => whnf); refine ⟨?_, ?_⟩)
        | (refine W.drawn rfl rfl ?_; refine D.run TOK 41 hΓ 1000 ?_; (conv => whnf); refine ⟨?_, ?_⟩)
      all_goals (repeat' apply And.intro)
      all_goals try (first
        | exact trivial
        | exact rfl
        | exact fun _ _ => A.sim.refl _
        | exact A.sim.refl _
        | exact Nat.le_refl _
        | omega
        | exact fun _ _ => trivial
        | exact fun i _ => shift_sim _ _ i
        | exact fun _ h => absurd h (Nat.not_lt_zero _)
        | exact fun i _ => isInt_byteAt _ i
        | exact fun i _ => ⟨⟨_, rfl⟩, ⟨_, rfl⟩⟩
        | (simp only [allP, List.nil_append, List.append_nil, List.cons_append, List.append_eq, and_true, true_and, inr_i64, inr_u8, inr_u64, min_i64, max_i64, min_u64, max_u64, min_u8, max_u8, A.purePL, A.pureP, A.sureP, A.surePL, Int.toNat_natCast, addI, cHi, cLo, hiN, loN, subO, addO, hasIdx, cond_true, cond_false]; done)
        | (simp only [allP, List.nil_append, List.append_nil, List.cons_append, List.append_eq, and_true, true_and, inr_i64, inr_u8, inr_u64, min_i64, max_i64, min_u64, max_u64, min_u8, max_u8, A.purePL, A.pureP, A.sureP, A.surePL, Int.toNat_natCast, addI, cHi, cLo, hiN, loN, subO, addO, hasIdx, cond_true, cond_false]; omega)
        | (simp only [allP, List.nil_append, List.append_nil, List.cons_append, List.append_eq, and_true, true_and, inr_i64, inr_u8, inr_u64, min_i64, max_i64, min_u64, max_u64, min_u8, max_u8, A.purePL, A.pureP, A.sureP, A.surePL, Int.toNat_natCast, addI, cHi, cLo, hiN, loN, subO, addO, hasIdx, cond_true, cond_false]; (repeat' apply And.intro) <;> first | exact trivial | rfl | omega | decide)
        )

theorem rcheck_does (root : Hs) (n i : Int) (leaf : Hs) (p : List Hs) (hr : root.length = 32) (hn : inr .i64 n) (hi : inr .i64 i) (hp9 : p.length ≤ 1000000000) (hl : leaf.length = 32) (hp : ∀ x ∈ p, x.length = 32) :
    Does Try.prog 21 [hashA root, .int .i64 n, .int .i64 i, hashA leaf, sl 32 hashA p] [] [] (Is (.bool (checkS root n i leaf p)) []) := by
  rw [inr_i64] at hn hi
  by_cases h : i < 0 ∨ n ≤ i
  · unfold checkS
    rw [if_pos h]
    refine Does.intro (fn := Try.f21) Try.func21 rfl rfl fun Γ hΓ => ?_
    refine W.run TOK 34 hΓ 1000 ?_
    conv => whnf
    refine ⟨?_, ?_⟩
    repeat' first
      | assumption
      | exact Bool.noConfusion hb
      | exact absurd hb (by decide)
      | (exfalso; omega)
      | (refine W.retA TOK rfl ?_; (conv => whnf); refine ⟨rfl, rfl, rfl, rfl, rfl, rfl, ?_, ?_, ?_⟩)
      | (refine W.branch rfl (fun hb => ?_) (fun hb => ?_) <;> ((try simp only [decide_eq_true_eq, decide_eq_false_iff_not, Bool.not_eq_true', Bool.not_eq_false', Int.not_lt, Int.not_le, cond_true, cond_false, reduceCtorEq, Int.toNat_natCast, addI] at hb); (try replace hb := of_decide_eq_true hb); (try replace hb := of_decide_eq_false hb)))
      | (refine D.branch rfl (fun hb => ?_) (fun hb => ?_) <;> ((try simp only [decide_eq_true_eq, decide_eq_false_iff_not, Bool.not_eq_true', Bool.not_eq_false', Int.not_lt, Int.not_le, cond_true, cond_false, reduceCtorEq, Int.toNat_natCast, addI] at hb); (try replace hb := of_decide_eq_true hb); (try replace hb := of_decide_eq_false hb)))
      | (refine W.go TOK 34 hΓ 1000 rfl ?_; (conv => whnf); refine ⟨?_, ?_⟩)
      | (refine D.go TOK 34 hΓ 1000 rfl ?_; (conv => whnf); refine ⟨?_, ?_⟩)
      | (refine W.drawn rfl rfl ?_; refine D.run TOK 34 hΓ 1000 ?_; (conv => whnf); refine ⟨?_, ?_⟩)
    all_goals (repeat' apply And.intro)
    all_goals try (first
      | exact trivial
      | exact rfl
      | exact fun _ _ => A.sim.refl _
      | exact A.sim.refl _
      | exact Nat.le_refl _
      | omega
      | exact fun _ _ => trivial
      | exact fun i _ => shift_sim _ _ i
      | exact fun _ h => absurd h (Nat.not_lt_zero _)
      | exact fun i _ => isInt_byteAt _ i
      | (simp only [allP, List.nil_append, List.append_nil, List.cons_append, List.append_eq, and_true, true_and, inr_i64, inr_u8, inr_u64, min_i64, max_i64, min_u64, max_u64, min_u8, max_u8, A.purePL, A.pureP, A.sureP, A.surePL, Int.toNat_natCast, addI, cHi, cLo, hiN, loN, subO, addO, hasIdx, cond_true, cond_false]; done)
      | (simp only [allP, List.nil_append, List.append_nil, List.cons_append, List.append_eq, and_true, true_and, inr_i64, inr_u8, inr_u64, min_i64, max_i64, min_u64, max_u64, min_u8, max_u8, A.purePL, A.pureP, A.sureP, A.surePL, Int.toNat_natCast, addI, cHi, cLo, hiN, loN, subO, addO, hasIdx, cond_true, cond_false]; omega)
      | (simp only [allP, List.nil_append, List.append_nil, List.cons_append, List.append_eq, and_true, true_and, inr_i64, inr_u8, inr_u64, min_i64, max_i64, min_u64, max_u64, min_u8, max_u8, A.purePL, A.pureP, A.sureP, A.surePL, Int.toNat_natCast, addI, cHi, cLo, hiN, loN, subO, addO, hasIdx, cond_true, cond_false]; (repeat' apply And.intro) <;> first | exact trivial | rfl | omega | decide)
      )
  obtain ⟨n, rfl⟩ : ∃ m : Nat, n = m := ⟨n.toNat, by omega⟩
  obtain ⟨i, rfl⟩ : ∃ m : Nat, i = m := ⟨i.toNat, by omega⟩
  have c1 := up_does n i leaf p (by omega) hp9 hl hp (by omega)
  have h32 := upS_32 n i leaf p hl
  unfold checkS
  rw [if_neg h, Int.toNat_natCast, Int.toNat_natCast]
  cases e : upS n i leaf p with
  | mk h' b =>
  rw [e] at c1 h32
  cases b with
  | false =>
    refine Does.intro (fn := Try.f21) Try.func21 rfl rfl fun Γ hΓ => ?_
    refine W.run TOK 34 hΓ 1000 ?_
    conv => whnf
    refine ⟨?_, ?_⟩
    repeat' first
      | assumption
      | exact Bool.noConfusion hb
      | exact absurd hb (by decide)
      | (exfalso; omega)
      | (refine W.retA TOK rfl ?_; (conv => whnf); refine ⟨rfl, rfl, rfl, rfl, rfl, rfl, ?_, ?_, ?_⟩)
      | (refine W.branch rfl (fun hb => ?_) (fun hb => ?_) <;> ((try simp only [decide_eq_true_eq, decide_eq_false_iff_not, Bool.not_eq_true', Bool.not_eq_false', Int.not_lt, Int.not_le, cond_true, cond_false, reduceCtorEq, Int.toNat_natCast, addI] at hb); (try replace hb := of_decide_eq_true hb); (try replace hb := of_decide_eq_false hb)))
      | (refine D.branch rfl (fun hb => ?_) (fun hb => ?_) <;> ((try simp only [decide_eq_true_eq, decide_eq_false_iff_not, Bool.not_eq_true', Bool.not_eq_false', Int.not_lt, Int.not_le, cond_true, cond_false, reduceCtorEq, Int.toNat_natCast, addI] at hb); (try replace hb := of_decide_eq_true hb); (try replace hb := of_decide_eq_false hb)))
      | (refine D.callA (c1) rfl rfl rfl rfl hΓ rfl ?_; (conv => whnf); refine ⟨rfl, rfl, rfl, ?_, ?_, ?_, ?_⟩; (focus ((repeat' apply And.intro) <;> first | exact trivial | with_reducible exact rfl | exact fun _ _ => A.sim.refl _ | exact A.sim.refl _ | exact rfl | exact Nat.le_refl _ | omega | exact fun i _ => shift_sim _ _ i | exact fun _ _ => trivial | exact fun _ h => absurd h (Nat.not_lt_zero _))); (focus ((repeat' apply And.intro) <;> first | exact trivial | with_reducible exact rfl | exact fun _ _ => A.sim.refl _ | exact A.sim.refl _ | exact rfl | exact Nat.le_refl _ | omega | exact fun i _ => shift_sim _ _ i | exact fun _ _ => trivial | exact fun _ h => absurd h (Nat.not_lt_zero _))); (focus ((repeat' apply And.intro) <;> first | exact trivial | with_reducible exact rfl | exact fun _ _ => A.sim.refl _ | exact A.sim.refl _ | exact rfl | exact Nat.le_refl _ | omega | exact fun i _ => shift_sim _ _ i | exact fun _ _ => trivial | exact fun _ h => absurd h (Nat.not_lt_zero _))); (conv => whnf))
      | (refine W.callA (c1) rfl rfl rfl rfl hΓ rfl ?_; (conv => whnf); refine ⟨rfl, rfl, ?_, ?_, ?_, ?_⟩; (focus ((repeat' apply And.intro) <;> first | exact trivial | with_reducible exact rfl | exact fun _ _ => A.sim.refl _ | exact A.sim.refl _ | exact rfl | exact Nat.le_refl _ | omega | exact fun i _ => shift_sim _ _ i | exact fun _ _ => trivial | exact fun _ h => absurd h (Nat.not_lt_zero _))); (focus ((repeat' apply And.intro) <;> first | exact trivial | with_reducible exact rfl | exact fun _ _ => A.sim.refl _ | exact A.sim.refl _ | exact rfl | exact Nat.le_refl _ | omega | exact fun i _ => shift_sim _ _ i | exact fun _ _ => trivial | exact fun _ h => absurd h (Nat.not_lt_zero _))); (focus ((repeat' apply And.intro) <;> first | exact trivial | with_reducible exact rfl | exact fun _ _ => A.sim.refl _ | exact A.sim.refl _ | exact rfl | exact Nat.le_refl _ | omega | exact fun i _ => shift_sim _ _ i | exact fun _ _ => trivial | exact fun _ h => absurd h (Nat.not_lt_zero _))); (conv => whnf))
      | (refine W.go TOK 34 hΓ 1000 rfl ?_; (conv => whnf); refine ⟨?_, ?_⟩)
      | (refine D.go TOK 34 hΓ 1000 rfl ?_; (conv => whnf); refine ⟨?_, ?_⟩)
      | (refine W.drawn rfl rfl ?_; refine D.run TOK 34 hΓ 1000 ?_; (conv => whnf); refine ⟨?_, ?_⟩)
    all_goals (repeat' apply And.intro)
    all_goals try (first
      | exact trivial
      | exact rfl
      | exact fun _ _ => A.sim.refl _
      | exact A.sim.refl _
      | exact Nat.le_refl _
      | omega
      | exact fun _ _ => trivial
      | exact fun i _ => shift_sim _ _ i
      | exact fun _ h => absurd h (Nat.not_lt_zero _)
      | exact fun i _ => isInt_byteAt _ i
      | exact fun i _ => ⟨⟨_, rfl⟩, ⟨_, rfl⟩⟩
      | (simp only [allP, List.nil_append, List.append_nil, List.cons_append, List.append_eq, and_true, true_and, inr_i64, inr_u8, inr_u64, min_i64, max_i64, min_u64, max_u64, min_u8, max_u8, A.purePL, A.pureP, A.sureP, A.surePL, Int.toNat_natCast, addI, cHi, cLo, hiN, loN, subO, addO, hasIdx, cond_true, cond_false]; done)
      | (simp only [allP, List.nil_append, List.append_nil, List.cons_append, List.append_eq, and_true, true_and, inr_i64, inr_u8, inr_u64, min_i64, max_i64, min_u64, max_u64, min_u8, max_u8, A.purePL, A.pureP, A.sureP, A.surePL, Int.toNat_natCast, addI, cHi, cLo, hiN, loN, subO, addO, hasIdx, cond_true, cond_false]; omega)
      | (simp only [allP, List.nil_append, List.append_nil, List.cons_append, List.append_eq, and_true, true_and, inr_i64, inr_u8, inr_u64, min_i64, max_i64, min_u64, max_u64, min_u8, max_u8, A.purePL, A.pureP, A.sureP, A.surePL, Int.toNat_natCast, addI, cHi, cLo, hiN, loN, subO, addO, hasIdx, cond_true, cond_false]; (repeat' apply And.intro) <;> first | exact trivial | rfl | omega | decide)
      )
  | true =>
    refine Does.intro (fn := Try.f21) Try.func21 rfl rfl fun Γ hΓ => ?_
    refine W.run TOK 34 hΓ 1000 ?_
    conv => whnf
    refine ⟨?_, ?_⟩
    repeat' first
      | assumption
      | exact Bool.noConfusion hb
      | exact absurd hb (by decide)
      | (exfalso; omega)
      | (refine W.retA TOK rfl ?_; (conv => whnf); refine ⟨rfl, rfl, rfl, rfl, rfl, rfl, ?_, ?_, ?_⟩)
      | (refine W.branch rfl (fun hb => ?_) (fun hb => ?_) <;> ((try simp only [decide_eq_true_eq, decide_eq_false_iff_not, Bool.not_eq_true', Bool.not_eq_false', Int.not_lt, Int.not_le, cond_true, cond_false, reduceCtorEq, Int.toNat_natCast, addI] at hb); (try replace hb := of_decide_eq_true hb); (try replace hb := of_decide_eq_false hb)))
      | (refine D.branch rfl (fun hb => ?_) (fun hb => ?_) <;> ((try simp only [decide_eq_true_eq, decide_eq_false_iff_not, Bool.not_eq_true', Bool.not_eq_false', Int.not_lt, Int.not_le, cond_true, cond_false, reduceCtorEq, Int.toNat_natCast, addI] at hb); (try replace hb := of_decide_eq_true hb); (try replace hb := of_decide_eq_false hb)))
      | (refine D.callA (c1) rfl rfl rfl rfl hΓ rfl ?_; (conv => whnf); refine ⟨rfl, rfl, rfl, ?_, ?_, ?_, ?_⟩; (focus ((repeat' apply And.intro) <;> first | exact trivial | with_reducible exact rfl | exact fun _ _ => A.sim.refl _ | exact A.sim.refl _ | exact rfl | exact Nat.le_refl _ | omega | exact fun i _ => shift_sim _ _ i | exact fun _ _ => trivial | exact fun _ h => absurd h (Nat.not_lt_zero _))); (focus ((repeat' apply And.intro) <;> first | exact trivial | with_reducible exact rfl | exact fun _ _ => A.sim.refl _ | exact A.sim.refl _ | exact rfl | exact Nat.le_refl _ | omega | exact fun i _ => shift_sim _ _ i | exact fun _ _ => trivial | exact fun _ h => absurd h (Nat.not_lt_zero _))); (focus ((repeat' apply And.intro) <;> first | exact trivial | with_reducible exact rfl | exact fun _ _ => A.sim.refl _ | exact A.sim.refl _ | exact rfl | exact Nat.le_refl _ | omega | exact fun i _ => shift_sim _ _ i | exact fun _ _ => trivial | exact fun _ h => absurd h (Nat.not_lt_zero _))); (conv => whnf))
      | (refine W.callA (c1) rfl rfl rfl rfl hΓ rfl ?_; (conv => whnf); refine ⟨rfl, rfl, ?_, ?_, ?_, ?_⟩; (focus ((repeat' apply And.intro) <;> first | exact trivial | with_reducible exact rfl | exact fun _ _ => A.sim.refl _ | exact A.sim.refl _ | exact rfl | exact Nat.le_refl _ | omega | exact fun i _ => shift_sim _ _ i | exact fun _ _ => trivial | exact fun _ h => absurd h (Nat.not_lt_zero _))); (focus ((repeat' apply And.intro) <;> first | exact trivial | with_reducible exact rfl | exact fun _ _ => A.sim.refl _ | exact A.sim.refl _ | exact rfl | exact Nat.le_refl _ | omega | exact fun i _ => shift_sim _ _ i | exact fun _ _ => trivial | exact fun _ h => absurd h (Nat.not_lt_zero _))); (focus ((repeat' apply And.intro) <;> first | exact trivial | with_reducible exact rfl | exact fun _ _ => A.sim.refl _ | exact A.sim.refl _ | exact rfl | exact Nat.le_refl _ | omega | exact fun i _ => shift_sim _ _ i | exact fun _ _ => trivial | exact fun _ h => absurd h (Nat.not_lt_zero _))); (conv => whnf))
      | (refine W.go TOK 34 hΓ 1000 rfl ?_; (conv => whnf); refine ⟨?_, ?_⟩)
      | (refine D.go TOK 34 hΓ 1000 rfl ?_; (conv => whnf); refine ⟨?_, ?_⟩)
      | (refine W.drawn rfl rfl ?_; refine D.run TOK 34 hΓ 1000 ?_; (conv => whnf); refine ⟨?_, ?_⟩)
    all_goals (repeat' apply And.intro)
    all_goals try (first
      | exact trivial
      | exact rfl
      | exact fun _ _ => A.sim.refl _
      | exact A.sim.refl _
      | exact Nat.le_refl _
      | omega
      | exact fun _ _ => trivial
      | exact fun i _ => shift_sim _ _ i
      | exact fun _ h => absurd h (Nat.not_lt_zero _)
      | exact fun i _ => isInt_byteAt _ i
      | exact fun i _ => ⟨⟨_, rfl⟩, ⟨_, rfl⟩⟩
      | exact hash_eq h32 hr
      | (simp only [allP, List.nil_append, List.append_nil, List.cons_append, List.append_eq, and_true, true_and, inr_i64, inr_u8, inr_u64, min_i64, max_i64, min_u64, max_u64, min_u8, max_u8, A.purePL, A.pureP, A.sureP, A.surePL, Int.toNat_natCast, addI, cHi, cLo, hiN, loN, subO, addO, hasIdx, cond_true, cond_false]; done)
      | (simp only [allP, List.nil_append, List.append_nil, List.cons_append, List.append_eq, and_true, true_and, inr_i64, inr_u8, inr_u64, min_i64, max_i64, min_u64, max_u64, min_u8, max_u8, A.purePL, A.pureP, A.sureP, A.surePL, Int.toNat_natCast, addI, cHi, cLo, hiN, loN, subO, addO, hasIdx, cond_true, cond_false]; omega)
      | (simp only [allP, List.nil_append, List.append_nil, List.cons_append, List.append_eq, and_true, true_and, inr_i64, inr_u8, inr_u64, min_i64, max_i64, min_u64, max_u64, min_u8, max_u8, A.purePL, A.pureP, A.sureP, A.surePL, Int.toNat_natCast, addI, cHi, cLo, hiN, loN, subO, addO, hasIdx, cond_true, cond_false]; (repeat' apply And.intro) <;> first | exact trivial | rfl | omega | decide)
      )

theorem hashes_does (a b : List Hs) (ha9 : a.length ≤ 1000000000) (hb9 : b.length ≤ 1000000000) (ha : ∀ x ∈ a, x.length = 32) (hb' : ∀ x ∈ b, x.length = 32) : Does Try.prog 19 [sl 32 hashA a, sl 32 hashA b] [] [] (Is (.bool (decide (a = b))) []) := by
  by_cases hab : a.length = b.length
  rotate_left
  · have hne : decide (a = b) = false := decide_eq_false fun h => hab (by rw [h])
    rw [hne]
    refine Does.intro (fn := Try.f19) Try.func19 rfl rfl fun Γ hΓ => ?_
    refine W.run TOK 26 hΓ 1000 ?_
    conv => whnf
    refine ⟨?_, ?_⟩
    repeat' first
      | assumption
      | exact Bool.noConfusion hb
      | exact absurd hb (by decide)
      | (exfalso; omega)
      | (refine W.retA TOK rfl ?_; (conv => whnf); refine ⟨rfl, rfl, rfl, rfl, rfl, rfl, ?_, ?_, ?_⟩)
      | (refine W.branch rfl (fun hb => ?_) (fun hb => ?_) <;> ((try simp only [decide_eq_true_eq, decide_eq_false_iff_not, Bool.not_eq_true', Bool.not_eq_false', Int.not_lt, Int.not_le, cond_true, cond_false, reduceCtorEq, Int.toNat_natCast, addI] at hb); (try replace hb := of_decide_eq_true hb); (try replace hb := of_decide_eq_false hb)))
      | (refine D.branch rfl (fun hb => ?_) (fun hb => ?_) <;> ((try simp only [decide_eq_true_eq, decide_eq_false_iff_not, Bool.not_eq_true', Bool.not_eq_false', Int.not_lt, Int.not_le, cond_true, cond_false, reduceCtorEq, Int.toNat_natCast, addI] at hb); (try replace hb := of_decide_eq_true hb); (try replace hb := of_decide_eq_false hb)))
      | (refine W.go TOK 26 hΓ 1000 rfl ?_; (conv => whnf); refine ⟨?_, ?_⟩)
      | (refine D.go TOK 26 hΓ 1000 rfl ?_; (conv => whnf); refine ⟨?_, ?_⟩)
      | (refine W.drawn rfl rfl ?_; refine D.run TOK 26 hΓ 1000 ?_; (conv => whnf); refine ⟨?_, ?_⟩)
    all_goals (repeat' apply And.intro)
    all_goals try (first
      | exact trivial
      | exact rfl
      | exact fun _ _ => A.sim.refl _
      | exact A.sim.refl _
      | exact Nat.le_refl _
      | omega
      | exact fun _ _ => trivial
      | exact fun i _ => shift_sim _ _ i
      | exact fun _ h => absurd h (Nat.not_lt_zero _)
      | exact fun i _ => isInt_byteAt _ i
      | (simp only [allP, List.nil_append, List.append_nil, List.cons_append, List.append_eq, and_true, true_and, inr_i64, inr_u8, inr_u64, min_i64, max_i64, min_u64, max_u64, min_u8, max_u8, A.purePL, A.pureP, A.sureP, A.surePL, Int.toNat_natCast, addI, cHi, cLo, hiN, loN, subO, addO, hasIdx, cond_true, cond_false]; done)
      | (simp only [allP, List.nil_append, List.append_nil, List.cons_append, List.append_eq, and_true, true_and, inr_i64, inr_u8, inr_u64, min_i64, max_i64, min_u64, max_u64, min_u8, max_u8, A.purePL, A.pureP, A.sureP, A.surePL, Int.toNat_natCast, addI, cHi, cLo, hiN, loN, subO, addO, hasIdx, cond_true, cond_false]; omega)
      | (simp only [allP, List.nil_append, List.append_nil, List.cons_append, List.append_eq, and_true, true_and, inr_i64, inr_u8, inr_u64, min_i64, max_i64, min_u64, max_u64, min_u8, max_u8, A.purePL, A.pureP, A.sureP, A.surePL, Int.toNat_natCast, addI, cHi, cLo, hiN, loN, subO, addO, hasIdx, cond_true, cond_false]; (repeat' apply And.intro) <;> first | exact trivial | rfl | omega | decide)
      )
  refine Does.intro (fn := Try.f19) Try.func19 rfl rfl fun Γ hΓ => ?_
  refine W.run TOK 26 hΓ 1000 ?_
  conv => whnf
  refine ⟨?_, ?_⟩
  repeat' first
    | assumption
    | exact Bool.noConfusion hb
    | exact absurd hb (by decide)
    | (exfalso; omega)
    | (refine W.retA TOK rfl ?_; (conv => whnf); refine ⟨rfl, rfl, rfl, rfl, rfl, rfl, ?_, ?_, ?_⟩)
    | (refine W.branch rfl (fun hb => ?_) (fun hb => ?_) <;> ((try simp only [decide_eq_true_eq, decide_eq_false_iff_not, Bool.not_eq_true', Bool.not_eq_false', Int.not_lt, Int.not_le, cond_true, cond_false, reduceCtorEq, Int.toNat_natCast, addI] at hb); (try replace hb := of_decide_eq_true hb); (try replace hb := of_decide_eq_false hb)))
    | (refine D.branch rfl (fun hb => ?_) (fun hb => ?_) <;> ((try simp only [decide_eq_true_eq, decide_eq_false_iff_not, Bool.not_eq_true', Bool.not_eq_false', Int.not_lt, Int.not_le, cond_true, cond_false, reduceCtorEq, Int.toNat_natCast, addI] at hb); (try replace hb := of_decide_eq_true hb); (try replace hb := of_decide_eq_false hb)))
    | (refine W.go TOK 26 hΓ 1000 rfl ?_; (conv => whnf); refine ⟨?_, ?_⟩)
    | (refine D.go TOK 26 hΓ 1000 rfl ?_; (conv => whnf); refine ⟨?_, ?_⟩)
    | (refine W.drawn rfl rfl ?_; refine D.run TOK 26 hΓ 1000 ?_; (conv => whnf); refine ⟨?_, ?_⟩)
  all_goals (repeat' apply And.intro)
  all_goals try (first
    | exact trivial
    | exact rfl
    | exact fun _ _ => A.sim.refl _
    | exact A.sim.refl _
    | exact Nat.le_refl _
    | omega
    | exact fun _ _ => trivial
    | exact fun i _ => shift_sim _ _ i
    | exact fun _ h => absurd h (Nat.not_lt_zero _)
    | exact fun i _ => isInt_byteAt _ i
    | (simp only [allP, List.nil_append, List.append_nil, List.cons_append, List.append_eq, and_true, true_and, inr_i64, inr_u8, inr_u64, min_i64, max_i64, min_u64, max_u64, min_u8, max_u8, A.purePL, A.pureP, A.sureP, A.surePL, Int.toNat_natCast, addI, cHi, cLo, hiN, loN, subO, addO, hasIdx, cond_true, cond_false]; done)
    | (simp only [allP, List.nil_append, List.append_nil, List.cons_append, List.append_eq, and_true, true_and, inr_i64, inr_u8, inr_u64, min_i64, max_i64, min_u64, max_u64, min_u8, max_u8, A.purePL, A.pureP, A.sureP, A.surePL, Int.toNat_natCast, addI, cHi, cLo, hiN, loN, subO, addO, hasIdx, cond_true, cond_false]; omega)
    | (simp only [allP, List.nil_append, List.append_nil, List.cons_append, List.append_eq, and_true, true_and, inr_i64, inr_u8, inr_u64, min_i64, max_i64, min_u64, max_u64, min_u8, max_u8, A.purePL, A.pureP, A.sureP, A.surePL, Int.toNat_natCast, addI, cHi, cLo, hiN, loN, subO, addO, hasIdx, cond_true, cond_false]; (repeat' apply And.intro) <;> first | exact trivial | rfl | omega | decide)
    )
  refine W.loopA (Nat) (fun i => i ≤ a.length ∧ ∀ j, j < i → a.getD j default = b.getD j default) (fun i => a.length - i) (fun i => [(5, .int .i64 i)]) (fun i => []) [] (0) (⟨Nat.zero_le _, fun _ h => absurd h (Nat.not_lt_zero _)⟩) ?_
  (conv => whnf); refine ⟨?_, ?_⟩; focus ((conv => whnf); refine ⟨rfl, rfl, rfl, rfl, rfl, rfl, ?_, ?_⟩; (focus ((repeat' apply And.intro) <;> first | exact trivial | with_reducible exact rfl | exact fun _ _ => A.sim.refl _ | exact A.sim.refl _ | exact rfl | exact Nat.le_refl _ | omega | exact fun i _ => shift_sim _ _ i | exact fun _ _ => trivial | exact fun _ h => absurd h (Nat.not_lt_zero _))); (focus ((repeat' apply And.intro) <;> first | exact trivial | with_reducible exact rfl | exact fun _ _ => A.sim.refl _ | exact A.sim.refl _ | exact rfl | exact Nat.le_refl _ | omega | exact fun i _ => shift_sim _ _ i | exact fun _ _ => trivial | exact fun _ h => absurd h (Nat.not_lt_zero _))))
  rintro i ⟨hi, hj⟩ ih
  by_cases hlt : i < a.length
  rotate_left
  · have heq : decide (a = b) = true := decide_eq_true (eq_of_getD hab fun j hjl => hj j (by omega))
    rw [heq]
    refine W.run TOK 26 hΓ 1000 ?_
    conv => whnf
    refine ⟨?_, ?_⟩
    repeat' first
      | assumption
      | exact Bool.noConfusion hb
      | exact absurd hb (by decide)
      | (exfalso; omega)
      | (refine W.retA TOK rfl ?_; (conv => whnf); refine ⟨rfl, rfl, rfl, rfl, rfl, rfl, ?_, ?_, ?_⟩)
      | (refine W.branch rfl (fun hb => ?_) (fun hb => ?_) <;> ((try simp only [decide_eq_true_eq, decide_eq_false_iff_not, Bool.not_eq_true', Bool.not_eq_false', Int.not_lt, Int.not_le, cond_true, cond_false, reduceCtorEq, Int.toNat_natCast, addI] at hb); (try replace hb := of_decide_eq_true hb); (try replace hb := of_decide_eq_false hb)))
      | (refine D.branch rfl (fun hb => ?_) (fun hb => ?_) <;> ((try simp only [decide_eq_true_eq, decide_eq_false_iff_not, Bool.not_eq_true', Bool.not_eq_false', Int.not_lt, Int.not_le, cond_true, cond_false, reduceCtorEq, Int.toNat_natCast, addI] at hb); (try replace hb := of_decide_eq_true hb); (try replace hb := of_decide_eq_false hb)))
      | (refine W.go TOK 26 hΓ 1000 rfl ?_; (conv => whnf); refine ⟨?_, ?_⟩)
      | (refine D.go TOK 26 hΓ 1000 rfl ?_; (conv => whnf); refine ⟨?_, ?_⟩)
      | (refine W.drawn rfl rfl ?_; refine D.run TOK 26 hΓ 1000 ?_; (conv => whnf); refine ⟨?_, ?_⟩)
    all_goals (repeat' apply And.intro)
    all_goals try (first
      | exact trivial
      | exact rfl
      | exact fun _ _ => A.sim.refl _
      | exact A.sim.refl _
      | exact Nat.le_refl _
      | omega
      | exact fun _ _ => trivial
      | exact fun i _ => shift_sim _ _ i
      | exact fun _ h => absurd h (Nat.not_lt_zero _)
      | exact fun i _ => isInt_byteAt _ i
      | (simp only [allP, List.nil_append, List.append_nil, List.cons_append, List.append_eq, and_true, true_and, inr_i64, inr_u8, inr_u64, min_i64, max_i64, min_u64, max_u64, min_u8, max_u8, A.purePL, A.pureP, A.sureP, A.surePL, Int.toNat_natCast, addI, cHi, cLo, hiN, loN, subO, addO, hasIdx, cond_true, cond_false]; done)
      | (simp only [allP, List.nil_append, List.append_nil, List.cons_append, List.append_eq, and_true, true_and, inr_i64, inr_u8, inr_u64, min_i64, max_i64, min_u64, max_u64, min_u8, max_u8, A.purePL, A.pureP, A.sureP, A.surePL, Int.toNat_natCast, addI, cHi, cLo, hiN, loN, subO, addO, hasIdx, cond_true, cond_false]; omega)
      | (simp only [allP, List.nil_append, List.append_nil, List.cons_append, List.append_eq, and_true, true_and, inr_i64, inr_u8, inr_u64, min_i64, max_i64, min_u64, max_u64, min_u8, max_u8, A.purePL, A.pureP, A.sureP, A.surePL, Int.toNat_natCast, addI, cHi, cLo, hiN, loN, subO, addO, hasIdx, cond_true, cond_false]; (repeat' apply And.intro) <;> first | exact trivial | rfl | omega | decide)
      )
  have e1 := hash_eq (sl_get ha hlt) (sl_get hb' (by omega : i < b.length))
  by_cases hd : a.getD i default = b.getD i default
  · rw [decide_eq_true hd] at e1
    have hj1 : ∀ j, j < i + 1 → a.getD j default = b.getD j default := fun j hjl => by
      rcases Nat.lt_succ_iff_lt_or_eq.1 hjl with h1 | h1
      · exact hj j h1
      · rw [h1]; exact hd
    refine W.run TOK 26 hΓ 1000 ?_
    conv => whnf
    refine ⟨?_, ?_⟩
    repeat' first
      | assumption
      | exact Bool.noConfusion hb
      | exact absurd hb (by decide)
      | (exfalso; omega)
      | exact absurd (e1.symm.trans hb) (by decide)
      | (refine W.toA (ih (i + 1) ?_ ?_) ?_; rotate_left 2; (conv => whnf); refine ⟨rfl, rfl, rfl, rfl, rfl, rfl, ?_, ?_⟩; (focus ((repeat' apply And.intro) <;> first | exact trivial | with_reducible exact rfl | exact fun _ _ => A.sim.refl _ | exact A.sim.refl _ | exact rfl | exact Nat.le_refl _ | omega | exact fun i _ => shift_sim _ _ i | exact fun _ _ => trivial | exact fun _ h => absurd h (Nat.not_lt_zero _))); (focus ((repeat' apply And.intro) <;> first | exact trivial | with_reducible exact rfl | exact fun _ _ => A.sim.refl _ | exact A.sim.refl _ | exact rfl | exact Nat.le_refl _ | omega | exact fun i _ => shift_sim _ _ i | exact fun _ _ => trivial | exact fun _ h => absurd h (Nat.not_lt_zero _))))
      | (refine W.retA TOK rfl ?_; (conv => whnf); refine ⟨rfl, rfl, rfl, rfl, rfl, rfl, ?_, ?_, ?_⟩)
      | (refine W.branch rfl (fun hb => ?_) (fun hb => ?_) <;> ((try simp only [decide_eq_true_eq, decide_eq_false_iff_not, Bool.not_eq_true', Bool.not_eq_false', Int.not_lt, Int.not_le, cond_true, cond_false, reduceCtorEq, Int.toNat_natCast, addI] at hb); (try replace hb := of_decide_eq_true hb); (try replace hb := of_decide_eq_false hb)))
      | (refine D.branch rfl (fun hb => ?_) (fun hb => ?_) <;> ((try simp only [decide_eq_true_eq, decide_eq_false_iff_not, Bool.not_eq_true', Bool.not_eq_false', Int.not_lt, Int.not_le, cond_true, cond_false, reduceCtorEq, Int.toNat_natCast, addI] at hb); (try replace hb := of_decide_eq_true hb); (try replace hb := of_decide_eq_false hb)))
      | (refine W.go TOK 26 hΓ 1000 rfl ?_; (conv => whnf); refine ⟨?_, ?_⟩)
      | (refine D.go TOK 26 hΓ 1000 rfl ?_; (conv => whnf); refine ⟨?_, ?_⟩)
      | (refine W.drawn rfl rfl ?_; refine D.run TOK 26 hΓ 1000 ?_; (conv => whnf); refine ⟨?_, ?_⟩)
    all_goals (repeat' apply And.intro)
    all_goals try (first
      | exact trivial
      | exact rfl
      | exact fun _ _ => A.sim.refl _
      | exact A.sim.refl _
      | exact Nat.le_refl _
      | omega
      | exact fun _ _ => trivial
      | exact fun i _ => shift_sim _ _ i
      | exact fun _ h => absurd h (Nat.not_lt_zero _)
      | exact fun i _ => isInt_byteAt _ i
      | exact fun i _ => ⟨⟨_, rfl⟩, ⟨_, rfl⟩⟩
      | exact hj1
      | (simp only [allP, List.nil_append, List.append_nil, List.cons_append, List.append_eq, and_true, true_and, inr_i64, inr_u8, inr_u64, min_i64, max_i64, min_u64, max_u64, min_u8, max_u8, A.purePL, A.pureP, A.sureP, A.surePL, Int.toNat_natCast, addI, cHi, cLo, hiN, loN, subO, addO, hasIdx, cond_true, cond_false]; done)
      | (simp only [allP, List.nil_append, List.append_nil, List.cons_append, List.append_eq, and_true, true_and, inr_i64, inr_u8, inr_u64, min_i64, max_i64, min_u64, max_u64, min_u8, max_u8, A.purePL, A.pureP, A.sureP, A.surePL, Int.toNat_natCast, addI, cHi, cLo, hiN, loN, subO, addO, hasIdx, cond_true, cond_false]; omega)
      | (simp only [allP, List.nil_append, List.append_nil, List.cons_append, List.append_eq, and_true, true_and, inr_i64, inr_u8, inr_u64, min_i64, max_i64, min_u64, max_u64, min_u8, max_u8, A.purePL, A.pureP, A.sureP, A.surePL, Int.toNat_natCast, addI, cHi, cLo, hiN, loN, subO, addO, hasIdx, cond_true, cond_false]; (repeat' apply And.intro) <;> first | exact trivial | rfl | omega | decide)
      )
  · rw [decide_eq_false hd] at e1
    have hne : decide (a = b) = false := decide_eq_false fun h => hd (by rw [h])
    rw [hne]
    refine W.run TOK 26 hΓ 1000 ?_
    conv => whnf
    refine ⟨?_, ?_⟩
    repeat' first
      | assumption
      | exact Bool.noConfusion hb
      | exact absurd hb (by decide)
      | (exfalso; omega)
      | exact absurd (hb.symm.trans e1) (by decide)
      | (refine W.retA TOK rfl ?_; (conv => whnf); refine ⟨rfl, rfl, rfl, rfl, rfl, rfl, ?_, ?_, ?_⟩)
      | (refine W.branch rfl (fun hb => ?_) (fun hb => ?_) <;> ((try simp only [decide_eq_true_eq, decide_eq_false_iff_not, Bool.not_eq_true', Bool.not_eq_false', Int.not_lt, Int.not_le, cond_true, cond_false, reduceCtorEq, Int.toNat_natCast, addI] at hb); (try replace hb := of_decide_eq_true hb); (try replace hb := of_decide_eq_false hb)))
      | (refine D.branch rfl (fun hb => ?_) (fun hb => ?_) <;> ((try simp only [decide_eq_true_eq, decide_eq_false_iff_not, Bool.not_eq_true', Bool.not_eq_false', Int.not_lt, Int.not_le, cond_true, cond_false, reduceCtorEq, Int.toNat_natCast, addI] at hb); (try replace hb := of_decide_eq_true hb); (try replace hb := of_decide_eq_false hb)))
      | (refine W.go TOK 26 hΓ 1000 rfl ?_; (conv => whnf); refine ⟨?_, ?_⟩)
      | (refine D.go TOK 26 hΓ 1000 rfl ?_; (conv => whnf); refine ⟨?_, ?_⟩)
      | (refine W.drawn rfl rfl ?_; refine D.run TOK 26 hΓ 1000 ?_; (conv => whnf); refine ⟨?_, ?_⟩)
    all_goals (repeat' apply And.intro)
    all_goals try (first
      | exact trivial
      | exact rfl
      | exact fun _ _ => A.sim.refl _
      | exact A.sim.refl _
      | exact Nat.le_refl _
      | omega
      | exact fun _ _ => trivial
      | exact fun i _ => shift_sim _ _ i
      | exact fun _ h => absurd h (Nat.not_lt_zero _)
      | exact fun i _ => isInt_byteAt _ i
      | exact fun i _ => ⟨⟨_, rfl⟩, ⟨_, rfl⟩⟩
      | (simp only [allP, List.nil_append, List.append_nil, List.cons_append, List.append_eq, and_true, true_and, inr_i64, inr_u8, inr_u64, min_i64, max_i64, min_u64, max_u64, min_u8, max_u8, A.purePL, A.pureP, A.sureP, A.surePL, Int.toNat_natCast, addI, cHi, cLo, hiN, loN, subO, addO, hasIdx, cond_true, cond_false]; done)
      | (simp only [allP, List.nil_append, List.append_nil, List.cons_append, List.append_eq, and_true, true_and, inr_i64, inr_u8, inr_u64, min_i64, max_i64, min_u64, max_u64, min_u8, max_u8, A.purePL, A.pureP, A.sureP, A.surePL, Int.toNat_natCast, addI, cHi, cLo, hiN, loN, subO, addO, hasIdx, cond_true, cond_false]; omega)
      | (simp only [allP, List.nil_append, List.append_nil, List.cons_append, List.append_eq, and_true, true_and, inr_i64, inr_u8, inr_u64, min_i64, max_i64, min_u64, max_u64, min_u8, max_u8, A.purePL, A.pureP, A.sureP, A.surePL, Int.toNat_natCast, addI, cHi, cLo, hiN, loN, subO, addO, hasIdx, cond_true, cond_false]; (repeat' apply And.intro) <;> first | exact trivial | rfl | omega | decide)
      )

theorem leaves_does (x : List UInt8) (hx : x.length ≤ 1000000) : Does Try.prog 8 [bytesA x] [] [1] (Is (.own 32 1 0 x.length) [(1, some (slO (leavesS x x.length)))]) := by
  refine Does.intro (fn := Try.f8) Try.func8 rfl rfl fun Γ hΓ => ?_
  refine W.run TOK 23 hΓ 1000 ?_
  conv => whnf
  refine ⟨?_, ?_⟩
  repeat' first
    | assumption
    | exact Bool.noConfusion hb
    | exact absurd hb (by decide)
    | (exfalso; omega)
    | (refine W.retA TOK rfl ?_; (conv => whnf); refine ⟨rfl, rfl, rfl, rfl, rfl, rfl, ?_, ?_, ?_⟩)
    | (refine W.branch rfl (fun hb => ?_) (fun hb => ?_) <;> ((try simp only [decide_eq_true_eq, decide_eq_false_iff_not, Bool.not_eq_true', Bool.not_eq_false', Int.not_lt, Int.not_le, cond_true, cond_false, reduceCtorEq, Int.toNat_natCast, addI] at hb); (try replace hb := of_decide_eq_true hb); (try replace hb := of_decide_eq_false hb)))
    | (refine D.branch rfl (fun hb => ?_) (fun hb => ?_) <;> ((try simp only [decide_eq_true_eq, decide_eq_false_iff_not, Bool.not_eq_true', Bool.not_eq_false', Int.not_lt, Int.not_le, cond_true, cond_false, reduceCtorEq, Int.toNat_natCast, addI] at hb); (try replace hb := of_decide_eq_true hb); (try replace hb := of_decide_eq_false hb)))
    | (refine W.go TOK 23 hΓ 1000 rfl ?_; (conv => whnf); refine ⟨?_, ?_⟩)
    | (refine D.go TOK 23 hΓ 1000 rfl ?_; (conv => whnf); refine ⟨?_, ?_⟩)
    | (refine W.drawn rfl rfl ?_; refine D.run TOK 23 hΓ 1000 ?_; (conv => whnf); refine ⟨?_, ?_⟩)
  all_goals (repeat' apply And.intro)
  all_goals try (first
    | exact trivial
    | exact rfl
    | exact fun _ _ => A.sim.refl _
    | exact A.sim.refl _
    | exact Nat.le_refl _
    | omega
    | exact fun _ _ => trivial
    | exact fun i _ => shift_sim _ _ i
    | exact fun _ h => absurd h (Nat.not_lt_zero _)
    | exact fun i _ => isInt_byteAt _ i
    | (simp only [allP, List.nil_append, List.append_nil, List.cons_append, List.append_eq, and_true, true_and, inr_i64, inr_u8, inr_u64, min_i64, max_i64, min_u64, max_u64, min_u8, max_u8, A.purePL, A.pureP, A.sureP, A.surePL, Int.toNat_natCast, addI, cHi, cLo, hiN, loN, subO, addO, hasIdx, cond_true, cond_false]; done)
    | (simp only [allP, List.nil_append, List.append_nil, List.cons_append, List.append_eq, and_true, true_and, inr_i64, inr_u8, inr_u64, min_i64, max_i64, min_u64, max_u64, min_u8, max_u8, A.purePL, A.pureP, A.sureP, A.surePL, Int.toNat_natCast, addI, cHi, cLo, hiN, loN, subO, addO, hasIdx, cond_true, cond_false]; omega)
    | (simp only [allP, List.nil_append, List.append_nil, List.cons_append, List.append_eq, and_true, true_and, inr_i64, inr_u8, inr_u64, min_i64, max_i64, min_u64, max_u64, min_u8, max_u8, A.purePL, A.pureP, A.sureP, A.surePL, Int.toNat_natCast, addI, cHi, cLo, hiN, loN, subO, addO, hasIdx, cond_true, cond_false]; (repeat' apply And.intro) <;> first | exact trivial | rfl | omega | decide)
    )
  refine W.loopA (Nat) (fun i => i ≤ x.length) (fun i => x.length - i) (fun i => [(3, .own 32 500 0 i), (4, .int .i64 i)]) (fun i => [(500, some (slO (leavesS x i)))]) [] (0) ((Nat.zero_le _)) ?_
  (conv => whnf); refine ⟨?_, ?_⟩; focus ((conv => whnf); refine ⟨rfl, rfl, rfl, rfl, rfl, rfl, ?_, ?_⟩; (focus ((repeat' apply And.intro) <;> first | exact trivial | with_reducible exact rfl | exact fun _ _ => A.sim.refl _ | exact A.sim.refl _ | exact rfl | exact Nat.le_refl _ | omega | exact fun i _ => shift_sim _ _ i | exact fun _ _ => trivial | exact fun _ h => absurd h (Nat.not_lt_zero _))); (focus ((repeat' apply And.intro) <;> first | exact trivial | with_reducible exact rfl | exact fun _ _ => A.sim.refl _ | exact A.sim.refl _ | exact rfl | exact Nat.le_refl _ | omega | exact fun i _ => shift_sim _ _ i | exact fun _ _ => trivial | exact fun _ h => absurd h (Nat.not_lt_zero _))))
  rintro i hi ih
  have hi : i ≤ x.length := hi
  have hw : IntKind.u8.wrap (i : Int) = ((UInt8.ofNat i).toNat : Int) := by rw [wrap_u8, UInt8.toNat_ofNat']; omega
  have hs := leavesS_succ x i
  have hl := leavesS_len x i
  have hl1 := leavesS_len x (i + 1)
  have hend : ¬ i < x.length → i = x.length := fun h => by omega
  have hcat : ∀ n, n = i → ∀ j, j < (leavesS x (i + 1)).length → (catF n (fun j => hashA ((leavesS x i).getD j default)) (shiftF 0 (listF (A.vec 1 32 fun _ => A.int .u8 0) (fillL (repl (A.vec 1 32 fun _ => A.int .u8 0) 1) [(0, hashA (leafS [x.getD i 0, UInt8.ofNat i]))]))) j).sim (hashA ((leavesS x (i + 1)).getD j default)) := fun n hn => by
    rw [hs, hn]
    refine sl_snocN (f := hashA) (leavesS x i) _ hl.symm ?_
    exact A.sim.of rfl
  refine W.run TOK 23 hΓ 1000 ?_
  conv => whnf
  refine ⟨?_, ?_⟩
  repeat' first
    | assumption
    | exact Bool.noConfusion hb
    | exact absurd hb (by decide)
    | (exfalso; omega)
    | (refine W.toA (ih (i + 1) ?_ ?_) ?_; rotate_left 2; (conv => whnf); refine ⟨rfl, rfl, rfl, rfl, rfl, rfl, ?_, ?_⟩; (focus ((repeat' apply And.intro) <;> first | exact trivial | with_reducible exact rfl | exact fun _ _ => A.sim.refl _ | exact A.sim.refl _ | exact rfl | exact Nat.le_refl _ | omega | exact fun i _ => shift_sim _ _ i | exact fun _ _ => trivial | exact fun _ h => absurd h (Nat.not_lt_zero _) | exact sim2b (A.sim.of rfl) (A.sim.of (by rw [hw]; rfl)) | exact hcat _ rfl)); (focus ((repeat' apply And.intro) <;> first | exact trivial | with_reducible exact rfl | exact fun _ _ => A.sim.refl _ | exact A.sim.refl _ | exact rfl | exact Nat.le_refl _ | omega | exact fun i _ => shift_sim _ _ i | exact fun _ _ => trivial | exact fun _ h => absurd h (Nat.not_lt_zero _) | exact sim2b (A.sim.of rfl) (A.sim.of (by rw [hw]; rfl)) | exact hcat _ rfl)))
    | (refine W.retA TOK rfl ?_; (conv => whnf); refine ⟨rfl, rfl, rfl, rfl, rfl, rfl, ?_, ?_, ?_⟩)
    | (refine W.branch rfl (fun hb => ?_) (fun hb => ?_) <;> ((try simp only [decide_eq_true_eq, decide_eq_false_iff_not, Bool.not_eq_true', Bool.not_eq_false', Int.not_lt, Int.not_le, cond_true, cond_false, reduceCtorEq, Int.toNat_natCast, addI] at hb); (try replace hb := of_decide_eq_true hb); (try replace hb := of_decide_eq_false hb)))
    | (refine D.branch rfl (fun hb => ?_) (fun hb => ?_) <;> ((try simp only [decide_eq_true_eq, decide_eq_false_iff_not, Bool.not_eq_true', Bool.not_eq_false', Int.not_lt, Int.not_le, cond_true, cond_false, reduceCtorEq, Int.toNat_natCast, addI] at hb); (try replace hb := of_decide_eq_true hb); (try replace hb := of_decide_eq_false hb)))
    | (refine D.callA (rleaf_does [x.getD i 0, UInt8.ofNat i] (text2_len _ _ _)) rfl rfl rfl rfl hΓ rfl ?_; (conv => whnf); refine ⟨rfl, rfl, rfl, ?_, ?_, ?_, ?_⟩; (focus ((repeat' apply And.intro) <;> first | exact trivial | with_reducible exact rfl | exact fun _ _ => A.sim.refl _ | exact A.sim.refl _ | exact rfl | exact Nat.le_refl _ | omega | exact fun i _ => shift_sim _ _ i | exact fun _ _ => trivial | exact fun _ h => absurd h (Nat.not_lt_zero _) | exact sim2b (A.sim.of rfl) (A.sim.of (by rw [hw]; rfl)) | exact hcat _ rfl)); (focus ((repeat' apply And.intro) <;> first | exact trivial | with_reducible exact rfl | exact fun _ _ => A.sim.refl _ | exact A.sim.refl _ | exact rfl | exact Nat.le_refl _ | omega | exact fun i _ => shift_sim _ _ i | exact fun _ _ => trivial | exact fun _ h => absurd h (Nat.not_lt_zero _) | exact sim2b (A.sim.of rfl) (A.sim.of (by rw [hw]; rfl)) | exact hcat _ rfl)); (focus ((repeat' apply And.intro) <;> first | exact trivial | with_reducible exact rfl | exact fun _ _ => A.sim.refl _ | exact A.sim.refl _ | exact rfl | exact Nat.le_refl _ | omega | exact fun i _ => shift_sim _ _ i | exact fun _ _ => trivial | exact fun _ h => absurd h (Nat.not_lt_zero _) | exact sim2b (A.sim.of rfl) (A.sim.of (by rw [hw]; rfl)) | exact hcat _ rfl)); (conv => whnf))
    | (refine W.callA (rleaf_does [x.getD i 0, UInt8.ofNat i] (text2_len _ _ _)) rfl rfl rfl rfl hΓ rfl ?_; (conv => whnf); refine ⟨rfl, rfl, ?_, ?_, ?_, ?_⟩; (focus ((repeat' apply And.intro) <;> first | exact trivial | with_reducible exact rfl | exact fun _ _ => A.sim.refl _ | exact A.sim.refl _ | exact rfl | exact Nat.le_refl _ | omega | exact fun i _ => shift_sim _ _ i | exact fun _ _ => trivial | exact fun _ h => absurd h (Nat.not_lt_zero _) | exact sim2b (A.sim.of rfl) (A.sim.of (by rw [hw]; rfl)) | exact hcat _ rfl)); (focus ((repeat' apply And.intro) <;> first | exact trivial | with_reducible exact rfl | exact fun _ _ => A.sim.refl _ | exact A.sim.refl _ | exact rfl | exact Nat.le_refl _ | omega | exact fun i _ => shift_sim _ _ i | exact fun _ _ => trivial | exact fun _ h => absurd h (Nat.not_lt_zero _) | exact sim2b (A.sim.of rfl) (A.sim.of (by rw [hw]; rfl)) | exact hcat _ rfl)); (focus ((repeat' apply And.intro) <;> first | exact trivial | with_reducible exact rfl | exact fun _ _ => A.sim.refl _ | exact A.sim.refl _ | exact rfl | exact Nat.le_refl _ | omega | exact fun i _ => shift_sim _ _ i | exact fun _ _ => trivial | exact fun _ h => absurd h (Nat.not_lt_zero _) | exact sim2b (A.sim.of rfl) (A.sim.of (by rw [hw]; rfl)) | exact hcat _ rfl)); (conv => whnf))
    | (refine W.go TOK 23 hΓ 1000 rfl ?_; (conv => whnf); refine ⟨?_, ?_⟩)
    | (refine D.go TOK 23 hΓ 1000 rfl ?_; (conv => whnf); refine ⟨?_, ?_⟩)
    | (refine W.drawn rfl rfl ?_; refine D.run TOK 23 hΓ 1000 ?_; (conv => whnf); refine ⟨?_, ?_⟩)
  all_goals (repeat' apply And.intro)
  all_goals try (first
    | exact trivial
    | exact rfl
    | exact fun _ _ => A.sim.refl _
    | exact A.sim.refl _
    | exact Nat.le_refl _
    | omega
    | exact fun _ _ => trivial
    | exact fun i _ => shift_sim _ _ i
    | exact fun _ h => absurd h (Nat.not_lt_zero _)
    | exact fun i _ => isInt_byteAt _ i
    | exact hcat _ rfl
    | (obtain rfl := hend (by omega); exact Nat.le_refl _)
    | (obtain rfl := hend (by omega); exact fun _ _ => A.sim.refl _)
    | (simp only [allP, List.nil_append, List.append_nil, List.cons_append, List.append_eq, and_true, true_and, inr_i64, inr_u8, inr_u64, min_i64, max_i64, min_u64, max_u64, min_u8, max_u8, A.purePL, A.pureP, A.sureP, A.surePL, Int.toNat_natCast, addI, cHi, cLo, hiN, loN, subO, addO, hasIdx, cond_true, cond_false]; done)
    | (simp only [allP, List.nil_append, List.append_nil, List.cons_append, List.append_eq, and_true, true_and, inr_i64, inr_u8, inr_u64, min_i64, max_i64, min_u64, max_u64, min_u8, max_u8, A.purePL, A.pureP, A.sureP, A.surePL, Int.toNat_natCast, addI, cHi, cLo, hiN, loN, subO, addO, hasIdx, cond_true, cond_false]; omega)
    | (simp only [allP, List.nil_append, List.append_nil, List.cons_append, List.append_eq, and_true, true_and, inr_i64, inr_u8, inr_u64, min_i64, max_i64, min_u64, max_u64, min_u8, max_u8, A.purePL, A.pureP, A.sureP, A.surePL, Int.toNat_natCast, addI, cHi, cLo, hiN, loN, subO, addO, hasIdx, cond_true, cond_false]; (repeat' apply And.intro) <;> first | exact trivial | rfl | omega | decide)
    )

theorem pathx_does (l : List Hs) (i : Int) (h9 : l.length ≤ 1000000000) (h32 : ∀ x ∈ l, x.length = 32) : Does Try.prog 17 [sl 32 hashA l, .int .i64 i] [] [1] (Is (.tup [.own 32 1 0 (pathA l i).1.length, .bool (pathA l i).2]) [(1, some (slO (pathA l i).1))]) := by
  by_cases h : i < 0 ∨ (l.length : Int) ≤ i
  · rw [pathA_out h]
    refine Does.intro (fn := Try.f17) Try.func17 rfl rfl fun Γ hΓ => ?_
    refine W.run TOK 17 hΓ 1000 ?_
    conv => whnf
    refine ⟨?_, ?_⟩
    repeat' first
      | assumption
      | exact Bool.noConfusion hb
      | exact absurd hb (by decide)
      | (exfalso; omega)
      | (refine W.retA TOK rfl ?_; (conv => whnf); refine ⟨rfl, rfl, rfl, rfl, rfl, rfl, ?_, ?_, ?_⟩)
      | (refine W.branch rfl (fun hb => ?_) (fun hb => ?_) <;> ((try simp only [decide_eq_true_eq, decide_eq_false_iff_not, Bool.not_eq_true', Bool.not_eq_false', Int.not_lt, Int.not_le, cond_true, cond_false, reduceCtorEq, Int.toNat_natCast, addI] at hb); (try replace hb := of_decide_eq_true hb); (try replace hb := of_decide_eq_false hb)))
      | (refine D.branch rfl (fun hb => ?_) (fun hb => ?_) <;> ((try simp only [decide_eq_true_eq, decide_eq_false_iff_not, Bool.not_eq_true', Bool.not_eq_false', Int.not_lt, Int.not_le, cond_true, cond_false, reduceCtorEq, Int.toNat_natCast, addI] at hb); (try replace hb := of_decide_eq_true hb); (try replace hb := of_decide_eq_false hb)))
      | (refine W.go TOK 17 hΓ 1000 rfl ?_; (conv => whnf); refine ⟨?_, ?_⟩)
      | (refine D.go TOK 17 hΓ 1000 rfl ?_; (conv => whnf); refine ⟨?_, ?_⟩)
      | (refine W.drawn rfl rfl ?_; refine D.run TOK 17 hΓ 1000 ?_; (conv => whnf); refine ⟨?_, ?_⟩)
    all_goals (repeat' apply And.intro)
    all_goals try (first
      | exact trivial
      | exact rfl
      | exact fun _ _ => A.sim.refl _
      | exact A.sim.refl _
      | exact Nat.le_refl _
      | omega
      | exact fun _ _ => trivial
      | exact fun i _ => shift_sim _ _ i
      | exact fun _ h => absurd h (Nat.not_lt_zero _)
      | exact fun i _ => isInt_byteAt _ i
      | (simp only [allP, List.nil_append, List.append_nil, List.cons_append, List.append_eq, and_true, true_and, inr_i64, inr_u8, inr_u64, min_i64, max_i64, min_u64, max_u64, min_u8, max_u8, A.purePL, A.pureP, A.sureP, A.surePL, Int.toNat_natCast, addI, cHi, cLo, hiN, loN, subO, addO, hasIdx, cond_true, cond_false]; done)
      | (simp only [allP, List.nil_append, List.append_nil, List.cons_append, List.append_eq, and_true, true_and, inr_i64, inr_u8, inr_u64, min_i64, max_i64, min_u64, max_u64, min_u8, max_u8, A.purePL, A.pureP, A.sureP, A.surePL, Int.toNat_natCast, addI, cHi, cLo, hiN, loN, subO, addO, hasIdx, cond_true, cond_false]; omega)
      | (simp only [allP, List.nil_append, List.append_nil, List.cons_append, List.append_eq, and_true, true_and, inr_i64, inr_u8, inr_u64, min_i64, max_i64, min_u64, max_u64, min_u8, max_u8, A.purePL, A.pureP, A.sureP, A.surePL, Int.toNat_natCast, addI, cHi, cLo, hiN, loN, subO, addO, hasIdx, cond_true, cond_false]; (repeat' apply And.intro) <;> first | exact trivial | rfl | omega | decide)
      )
  obtain ⟨i, rfl⟩ : ∃ m : Nat, i = m := ⟨i.toNat, by omega⟩
  rw [pathA_in (by omega)]
  refine Does.intro (fn := Try.f17) Try.func17 rfl rfl fun Γ hΓ => ?_
  refine W.run TOK 17 hΓ 1000 ?_
  conv => whnf
  refine ⟨?_, ?_⟩
  repeat' first
    | assumption
    | exact Bool.noConfusion hb
    | exact absurd hb (by decide)
    | (exfalso; omega)
    | (refine W.retA TOK rfl ?_; (conv => whnf); refine ⟨rfl, rfl, rfl, rfl, rfl, rfl, ?_, ?_, ?_⟩)
    | (refine W.branch rfl (fun hb => ?_) (fun hb => ?_) <;> ((try simp only [decide_eq_true_eq, decide_eq_false_iff_not, Bool.not_eq_true', Bool.not_eq_false', Int.not_lt, Int.not_le, cond_true, cond_false, reduceCtorEq, Int.toNat_natCast, addI] at hb); (try replace hb := of_decide_eq_true hb); (try replace hb := of_decide_eq_false hb)))
    | (refine D.branch rfl (fun hb => ?_) (fun hb => ?_) <;> ((try simp only [decide_eq_true_eq, decide_eq_false_iff_not, Bool.not_eq_true', Bool.not_eq_false', Int.not_lt, Int.not_le, cond_true, cond_false, reduceCtorEq, Int.toNat_natCast, addI] at hb); (try replace hb := of_decide_eq_true hb); (try replace hb := of_decide_eq_false hb)))
    | (refine D.callA (path_does _ l i rfl h9 h32 (by omega)) rfl rfl rfl rfl hΓ rfl ?_; (conv => whnf); refine ⟨rfl, rfl, rfl, ?_, ?_, ?_, ?_⟩; (focus ((repeat' apply And.intro) <;> first | exact trivial | with_reducible exact rfl | exact fun _ _ => A.sim.refl _ | exact A.sim.refl _ | exact rfl | exact Nat.le_refl _ | omega | exact fun i _ => shift_sim _ _ i | exact fun _ _ => trivial | exact fun _ h => absurd h (Nat.not_lt_zero _))); (focus ((repeat' apply And.intro) <;> first | exact trivial | with_reducible exact rfl | exact fun _ _ => A.sim.refl _ | exact A.sim.refl _ | exact rfl | exact Nat.le_refl _ | omega | exact fun i _ => shift_sim _ _ i | exact fun _ _ => trivial | exact fun _ h => absurd h (Nat.not_lt_zero _))); (focus ((repeat' apply And.intro) <;> first | exact trivial | with_reducible exact rfl | exact fun _ _ => A.sim.refl _ | exact A.sim.refl _ | exact rfl | exact Nat.le_refl _ | omega | exact fun i _ => shift_sim _ _ i | exact fun _ _ => trivial | exact fun _ h => absurd h (Nat.not_lt_zero _))); (conv => whnf))
    | (refine W.callA (path_does _ l i rfl h9 h32 (by omega)) rfl rfl rfl rfl hΓ rfl ?_; (conv => whnf); refine ⟨rfl, rfl, ?_, ?_, ?_, ?_⟩; (focus ((repeat' apply And.intro) <;> first | exact trivial | with_reducible exact rfl | exact fun _ _ => A.sim.refl _ | exact A.sim.refl _ | exact rfl | exact Nat.le_refl _ | omega | exact fun i _ => shift_sim _ _ i | exact fun _ _ => trivial | exact fun _ h => absurd h (Nat.not_lt_zero _))); (focus ((repeat' apply And.intro) <;> first | exact trivial | with_reducible exact rfl | exact fun _ _ => A.sim.refl _ | exact A.sim.refl _ | exact rfl | exact Nat.le_refl _ | omega | exact fun i _ => shift_sim _ _ i | exact fun _ _ => trivial | exact fun _ h => absurd h (Nat.not_lt_zero _))); (focus ((repeat' apply And.intro) <;> first | exact trivial | with_reducible exact rfl | exact fun _ _ => A.sim.refl _ | exact A.sim.refl _ | exact rfl | exact Nat.le_refl _ | omega | exact fun i _ => shift_sim _ _ i | exact fun _ _ => trivial | exact fun _ h => absurd h (Nat.not_lt_zero _))); (conv => whnf))
    | (refine W.go TOK 17 hΓ 1000 rfl ?_; (conv => whnf); refine ⟨?_, ?_⟩)
    | (refine D.go TOK 17 hΓ 1000 rfl ?_; (conv => whnf); refine ⟨?_, ?_⟩)
    | (refine W.drawn rfl rfl ?_; refine D.run TOK 17 hΓ 1000 ?_; (conv => whnf); refine ⟨?_, ?_⟩)
  all_goals (repeat' apply And.intro)
  all_goals try (first
    | exact trivial
    | exact rfl
    | exact fun _ _ => A.sim.refl _
    | exact A.sim.refl _
    | exact Nat.le_refl _
    | omega
    | exact fun _ _ => trivial
    | exact fun i _ => shift_sim _ _ i
    | exact fun _ h => absurd h (Nat.not_lt_zero _)
    | exact fun i _ => isInt_byteAt _ i
    | (simp only [allP, List.nil_append, List.append_nil, List.cons_append, List.append_eq, and_true, true_and, inr_i64, inr_u8, inr_u64, min_i64, max_i64, min_u64, max_u64, min_u8, max_u8, A.purePL, A.pureP, A.sureP, A.surePL, Int.toNat_natCast, addI, cHi, cLo, hiN, loN, subO, addO, hasIdx, cond_true, cond_false]; done)
    | (simp only [allP, List.nil_append, List.append_nil, List.cons_append, List.append_eq, and_true, true_and, inr_i64, inr_u8, inr_u64, min_i64, max_i64, min_u64, max_u64, min_u8, max_u8, A.purePL, A.pureP, A.sureP, A.surePL, Int.toNat_natCast, addI, cHi, cLo, hiN, loN, subO, addO, hasIdx, cond_true, cond_false]; omega)
    | (simp only [allP, List.nil_append, List.append_nil, List.cons_append, List.append_eq, and_true, true_and, inr_i64, inr_u8, inr_u64, min_i64, max_i64, min_u64, max_u64, min_u8, max_u8, A.purePL, A.pureP, A.sureP, A.surePL, Int.toNat_natCast, addI, cHi, cLo, hiN, loN, subO, addO, hasIdx, cond_true, cond_false]; (repeat' apply And.intro) <;> first | exact trivial | rfl | omega | decide)
    )

theorem rpathx_does (l : List Hs) (i : Int) (h9 : l.length ≤ 1000000000) (h32 : ∀ x ∈ l, x.length = 32) : Does Try.prog 18 [sl 32 hashA l, .int .i64 i] [] [1] (Is (.tup [.own 32 1 0 (pathA l i).1.length, .bool (pathA l i).2]) [(1, some (slO (pathA l i).1))]) := by
  by_cases h : i < 0 ∨ (l.length : Int) ≤ i
  · rw [pathA_out h]
    refine Does.intro (fn := Try.f18) Try.func18 rfl rfl fun Γ hΓ => ?_
    refine W.run TOK 60 hΓ 1000 ?_
    conv => whnf
    refine ⟨?_, ?_⟩
    repeat' first
      | assumption
      | exact Bool.noConfusion hb
      | exact absurd hb (by decide)
      | (exfalso; omega)
      | (refine W.retA TOK rfl ?_; (conv => whnf); refine ⟨rfl, rfl, rfl, rfl, rfl, rfl, ?_, ?_, ?_⟩)
      | (refine W.branch rfl (fun hb => ?_) (fun hb => ?_) <;> ((try simp only [decide_eq_true_eq, decide_eq_false_iff_not, Bool.not_eq_true', Bool.not_eq_false', Int.not_lt, Int.not_le, cond_true, cond_false, reduceCtorEq, Int.toNat_natCast, addI] at hb); (try replace hb := of_decide_eq_true hb); (try replace hb := of_decide_eq_false hb)))
      | (refine D.branch rfl (fun hb => ?_) (fun hb => ?_) <;> ((try simp only [decide_eq_true_eq, decide_eq_false_iff_not, Bool.not_eq_true', Bool.not_eq_false', Int.not_lt, Int.not_le, cond_true, cond_false, reduceCtorEq, Int.toNat_natCast, addI] at hb); (try replace hb := of_decide_eq_true hb); (try replace hb := of_decide_eq_false hb)))
      | (refine W.go TOK 60 hΓ 1000 rfl ?_; (conv => whnf); refine ⟨?_, ?_⟩)
      | (refine D.go TOK 60 hΓ 1000 rfl ?_; (conv => whnf); refine ⟨?_, ?_⟩)
      | (refine W.drawn rfl rfl ?_; refine D.run TOK 60 hΓ 1000 ?_; (conv => whnf); refine ⟨?_, ?_⟩)
    all_goals (repeat' apply And.intro)
    all_goals try (first
      | exact trivial
      | exact rfl
      | exact fun _ _ => A.sim.refl _
      | exact A.sim.refl _
      | exact Nat.le_refl _
      | omega
      | exact fun _ _ => trivial
      | exact fun i _ => shift_sim _ _ i
      | exact fun _ h => absurd h (Nat.not_lt_zero _)
      | exact fun i _ => isInt_byteAt _ i
      | (simp only [allP, List.nil_append, List.append_nil, List.cons_append, List.append_eq, and_true, true_and, inr_i64, inr_u8, inr_u64, min_i64, max_i64, min_u64, max_u64, min_u8, max_u8, A.purePL, A.pureP, A.sureP, A.surePL, Int.toNat_natCast, addI, cHi, cLo, hiN, loN, subO, addO, hasIdx, cond_true, cond_false]; done)
      | (simp only [allP, List.nil_append, List.append_nil, List.cons_append, List.append_eq, and_true, true_and, inr_i64, inr_u8, inr_u64, min_i64, max_i64, min_u64, max_u64, min_u8, max_u8, A.purePL, A.pureP, A.sureP, A.surePL, Int.toNat_natCast, addI, cHi, cLo, hiN, loN, subO, addO, hasIdx, cond_true, cond_false]; omega)
      | (simp only [allP, List.nil_append, List.append_nil, List.cons_append, List.append_eq, and_true, true_and, inr_i64, inr_u8, inr_u64, min_i64, max_i64, min_u64, max_u64, min_u8, max_u8, A.purePL, A.pureP, A.sureP, A.surePL, Int.toNat_natCast, addI, cHi, cLo, hiN, loN, subO, addO, hasIdx, cond_true, cond_false]; (repeat' apply And.intro) <;> first | exact trivial | rfl | omega | decide)
      )
  obtain ⟨i, rfl⟩ : ∃ m : Nat, i = m := ⟨i.toNat, by omega⟩
  rw [pathA_in (by omega)]
  exact rpath_does _ l i rfl h9 h32 (by omega)

end Go.Proofs.Ytbogdiogmfgobaa
