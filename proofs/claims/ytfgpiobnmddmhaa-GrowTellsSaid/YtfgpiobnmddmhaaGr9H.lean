/- Walks: lists of hashes, one behind the other. -/
import Derived.Test.YtfgpiobnmddmhaaGr9G
set_option linter.unusedSimpArgs false
set_option linter.unusedVariables false
namespace Go.Proofs.Ytfgpiobnmddmhaa
open VX
set_option maxRecDepth 100000
set_option maxHeartbeats 4000000

theorem growH_does (n : Nat) (h0 : 0 < n) (h : n ≤ 1000000000) : Does Try.prog 28 [.nils, .int .i64 n] [] [1] (Is (.own 32 1 0 0) [(1, some (.arr 32 0 (fun j => hashA (([] : List Hs).getD j default))))]) := by
  have hnn : ¬ ((n : Int) < 0) := by omega
  have hnp : ¬ ((n : Int) ≤ 0) := by omega
  refine Does.intro (fn := Try.f28) Try.func28 rfl rfl fun Γ hΓ => ?_
  refine W.run TOK 27 hΓ 1000 ?_
  conv => whnf
  refine ⟨?_, ?_⟩
  repeat' first
    | assumption
    | exact Bool.noConfusion hb
    | exact absurd hb (by decide)
    | exact absurd hb hnn
    | exact absurd hb hnp
    | (refine W.capNil TOK (nt := 27) hΓ rfl rfl rfl rfl rfl rfl ?_)
    | (refine W.appZero TOK (nt := 27) hΓ rfl rfl rfl rfl rfl rfl (n := n) ?_ rfl rfl rfl ?_ (Nat.zero_lt_succ _) ?_ ?_ ?_ (nm := 700) rfl (fun j => hashA (([] : List Hs).getD j default)) ?_)
    | (refine W.retA TOK rfl ?_; (conv => whnf); refine ⟨rfl, rfl, rfl, rfl, rfl, rfl, ?_, ?_, ?_⟩)
    | (refine W.branch rfl (fun hb => ?_) (fun hb => ?_) <;> ((try simp only [decide_eq_true_eq, decide_eq_false_iff_not, Bool.not_eq_true', Bool.not_eq_false', Int.not_lt, Int.not_le, cond_true, cond_false, reduceCtorEq, Int.toNat_natCast, Int.reduceToNat, addI] at hb); (try replace hb := of_decide_eq_true hb); (try replace hb := of_decide_eq_false hb)))
    | (refine D.branch rfl (fun hb => ?_) (fun hb => ?_) <;> ((try simp only [decide_eq_true_eq, decide_eq_false_iff_not, Bool.not_eq_true', Bool.not_eq_false', Int.not_lt, Int.not_le, cond_true, cond_false, reduceCtorEq, Int.toNat_natCast, Int.reduceToNat, addI] at hb); (try replace hb := of_decide_eq_true hb); (try replace hb := of_decide_eq_false hb)))
    | (refine W.go TOK 27 hΓ 1000 rfl ?_; (conv => whnf); refine ⟨?_, ?_⟩)
    | (refine D.go TOK 27 hΓ 1000 rfl ?_; (conv => whnf); refine ⟨?_, ?_⟩)
    | (refine W.drawn rfl rfl ?_; refine D.run TOK 27 hΓ 1000 ?_; (conv => whnf); refine ⟨?_, ?_⟩)
  all_goals (repeat' apply And.intro)
  all_goals try (first
    | exact trivial
    | exact rfl
    | exact fun _ _ => A.sim.refl _
    | exact A.sim.refl _
    | exact Nat.le_refl _
    | omega
    | exact fun _ _ => trivial
    | exact fun i _ => shift_sim _ _ i
    | exact fun _ h => absurd h (Nat.not_lt_zero _)
    | exact fun i _ => isInt_byteAt _ i
    | (simp only [allP, List.nil_append, List.append_nil, List.cons_append, List.append_eq, and_true, true_and, inr_i64, inr_u8, inr_u64, min_i64, max_i64, min_u64, max_u64, min_u8, max_u8, A.purePL, A.pureP, A.sureP, A.surePL, Int.toNat_natCast, Int.reduceToNat, addI, cHi, cLo, hiN, loN, subO, addO, hasIdx, cond_true, cond_false]; done)
    | (simp only [allP, List.nil_append, List.append_nil, List.cons_append, List.append_eq, and_true, true_and, inr_i64, inr_u8, inr_u64, min_i64, max_i64, min_u64, max_u64, min_u8, max_u8, A.purePL, A.pureP, A.sureP, A.surePL, Int.toNat_natCast, Int.reduceToNat, addI, cHi, cLo, hiN, loN, subO, addO, hasIdx, cond_true, cond_false]; omega)
    | (simp only [allP, List.nil_append, List.append_nil, List.cons_append, List.append_eq, and_true, true_and, inr_i64, inr_u8, inr_u64, min_i64, max_i64, min_u64, max_u64, min_u8, max_u8, A.purePL, A.pureP, A.sureP, A.surePL, Int.toNat_natCast, Int.reduceToNat, addI, cHi, cLo, hiN, loN, subO, addO, hasIdx, cond_true, cond_false]; (repeat' apply And.intro) <;> first | exact trivial | rfl | omega | decide)
    )

theorem concatH_does (L : List (List Hs)) (hL : L.length ≤ 1000000) (h0 : 0 < L.flatten.length) (h : L.flatten.length ≤ 1000000000) : Does Try.prog 21 [sl 1 (sl 32 hashA) L] [] [1] (Is (.own 32 1 0 L.flatten.length) [(1, some (slO L.flatten))]) := by
  have hpos : ∀ a b : Nat, ¬ ((a : Int) + (b : Int) < 0) := fun a b => by omega
  refine Does.intro (fn := Try.f21) Try.func21 rfl rfl fun Γ hΓ => ?_
  refine W.run TOK 36 hΓ 1000 ?_
  conv => whnf
  refine ⟨?_, ?_⟩
  repeat' first
    | assumption
    | exact Bool.noConfusion hb
    | exact absurd hb (by decide)
    | (exfalso; omega)
    | (refine W.retA TOK rfl ?_; (conv => whnf); refine ⟨rfl, rfl, rfl, rfl, rfl, rfl, ?_, ?_, ?_⟩)
    | (refine W.branch rfl (fun hb => ?_) (fun hb => ?_) <;> ((try simp only [decide_eq_true_eq, decide_eq_false_iff_not, Bool.not_eq_true', Bool.not_eq_false', Int.not_lt, Int.not_le, cond_true, cond_false, reduceCtorEq, Int.toNat_natCast, Int.reduceToNat, addI] at hb); (try replace hb := of_decide_eq_true hb); (try replace hb := of_decide_eq_false hb)))
    | (refine D.branch rfl (fun hb => ?_) (fun hb => ?_) <;> ((try simp only [decide_eq_true_eq, decide_eq_false_iff_not, Bool.not_eq_true', Bool.not_eq_false', Int.not_lt, Int.not_le, cond_true, cond_false, reduceCtorEq, Int.toNat_natCast, Int.reduceToNat, addI] at hb); (try replace hb := of_decide_eq_true hb); (try replace hb := of_decide_eq_false hb)))
    | (refine W.go TOK 36 hΓ 1000 rfl ?_; (conv => whnf); refine ⟨?_, ?_⟩)
    | (refine D.go TOK 36 hΓ 1000 rfl ?_; (conv => whnf); refine ⟨?_, ?_⟩)
    | (refine W.drawn rfl rfl ?_; refine D.run TOK 36 hΓ 1000 ?_; (conv => whnf); refine ⟨?_, ?_⟩)
  all_goals (repeat' apply And.intro)
  all_goals try (first
    | exact trivial
    | exact rfl
    | exact fun _ _ => A.sim.refl _
    | exact A.sim.refl _
    | exact Nat.le_refl _
    | omega
    | exact fun _ _ => trivial
    | exact fun i _ => shift_sim _ _ i
    | exact fun _ h => absurd h (Nat.not_lt_zero _)
    | exact fun i _ => isInt_byteAt _ i
    | (simp only [allP, List.nil_append, List.append_nil, List.cons_append, List.append_eq, and_true, true_and, inr_i64, inr_u8, inr_u64, min_i64, max_i64, min_u64, max_u64, min_u8, max_u8, A.purePL, A.pureP, A.sureP, A.surePL, Int.toNat_natCast, Int.reduceToNat, addI, cHi, cLo, hiN, loN, subO, addO, hasIdx, cond_true, cond_false]; done)
    | (simp only [allP, List.nil_append, List.append_nil, List.cons_append, List.append_eq, and_true, true_and, inr_i64, inr_u8, inr_u64, min_i64, max_i64, min_u64, max_u64, min_u8, max_u8, A.purePL, A.pureP, A.sureP, A.surePL, Int.toNat_natCast, Int.reduceToNat, addI, cHi, cLo, hiN, loN, subO, addO, hasIdx, cond_true, cond_false]; omega)
    | (simp only [allP, List.nil_append, List.append_nil, List.cons_append, List.append_eq, and_true, true_and, inr_i64, inr_u8, inr_u64, min_i64, max_i64, min_u64, max_u64, min_u8, max_u8, A.purePL, A.pureP, A.sureP, A.surePL, Int.toNat_natCast, Int.reduceToNat, addI, cHi, cLo, hiN, loN, subO, addO, hasIdx, cond_true, cond_false]; (repeat' apply And.intro) <;> first | exact trivial | rfl | omega | decide)
    )
  refine W.loopA (Nat) (fun i => i ≤ L.length) (fun i => L.length - i) (fun i => [(3, .int .i64 (L.take i).flatten.length), (11, .int .i64 i)]) (fun i => []) [] (0) ((Nat.zero_le _)) ?_
  (conv => whnf); refine ⟨?_, ?_⟩; focus ((conv => whnf); refine ⟨rfl, rfl, rfl, rfl, rfl, rfl, ?_, ?_⟩; (focus ((repeat' apply And.intro) <;> first | exact trivial | (intro i _; rw [Nat.zero_add]; exact A.sim.refl _) | with_reducible exact rfl | exact fun _ _ => A.sim.refl _ | exact A.sim.refl _ | exact rfl | exact Nat.le_refl _ | omega | exact fun i _ => shift_sim _ _ i | exact fun _ _ => trivial | exact fun _ h => absurd h (Nat.not_lt_zero _))); (focus ((repeat' apply And.intro) <;> first | exact trivial | (intro i _; rw [Nat.zero_add]; exact A.sim.refl _) | with_reducible exact rfl | exact fun _ _ => A.sim.refl _ | exact A.sim.refl _ | exact rfl | exact Nat.le_refl _ | omega | exact fun i _ => shift_sim _ _ i | exact fun _ _ => trivial | exact fun _ h => absurd h (Nat.not_lt_zero _))))
  rintro i hi ih
  have hi : i ≤ L.length := hi
  have hlen' : i < L.length → (((L.take i).flatten.length : Nat) : Int) + ((L.getD i default).length : Int) = (((L.take (i + 1)).flatten.length : Nat) : Int) := fun hlt => by rw [← flatH_len L i hlt]; rfl
  have hle := flatH_le L i
  have hle2 := flatH_le L (i + 1)
  have hend : ¬ i < L.length → (((L.take i).flatten.length : Nat) : Int) = ((L.flatten.length : Nat) : Int) := fun hn => by rw [List.take_of_length_le (Nat.not_lt.1 hn)]
  refine W.run TOK 36 hΓ 1000 ?_
  conv => whnf
  refine ⟨?_, ?_⟩
  repeat' first
    | assumption
    | exact Bool.noConfusion hb
    | exact absurd hb (by decide)
    | (exfalso; omega)
    | exact absurd hb (hpos _ _)
    | (refine W.toA (ih (i + 1) ?_ ?_) ?_; rotate_left 2; (conv => whnf); refine ⟨rfl, rfl, rfl, rfl, rfl, rfl, ?_, ?_⟩; (focus ((repeat' apply And.intro) <;> first | exact trivial | (intro i _; rw [Nat.zero_add]; exact A.sim.refl _) | with_reducible exact rfl | exact fun _ _ => A.sim.refl _ | exact A.sim.refl _ | exact rfl | exact Nat.le_refl _ | omega | exact fun i _ => shift_sim _ _ i | exact fun _ _ => trivial | exact fun _ h => absurd h (Nat.not_lt_zero _) | exact hlen' (by omega) | exact hend (by omega))); (focus ((repeat' apply And.intro) <;> first | exact trivial | (intro i _; rw [Nat.zero_add]; exact A.sim.refl _) | with_reducible exact rfl | exact fun _ _ => A.sim.refl _ | exact A.sim.refl _ | exact rfl | exact Nat.le_refl _ | omega | exact fun i _ => shift_sim _ _ i | exact fun _ _ => trivial | exact fun _ h => absurd h (Nat.not_lt_zero _) | exact hlen' (by omega) | exact hend (by omega))))
    | (refine W.retA TOK rfl ?_; (conv => whnf); refine ⟨rfl, rfl, rfl, rfl, rfl, rfl, ?_, ?_, ?_⟩)
    | (refine W.branch rfl (fun hb => ?_) (fun hb => ?_) <;> ((try simp only [decide_eq_true_eq, decide_eq_false_iff_not, Bool.not_eq_true', Bool.not_eq_false', Int.not_lt, Int.not_le, cond_true, cond_false, reduceCtorEq, Int.toNat_natCast, Int.reduceToNat, addI] at hb); (try replace hb := of_decide_eq_true hb); (try replace hb := of_decide_eq_false hb)))
    | (refine D.branch rfl (fun hb => ?_) (fun hb => ?_) <;> ((try simp only [decide_eq_true_eq, decide_eq_false_iff_not, Bool.not_eq_true', Bool.not_eq_false', Int.not_lt, Int.not_le, cond_true, cond_false, reduceCtorEq, Int.toNat_natCast, Int.reduceToNat, addI] at hb); (try replace hb := of_decide_eq_true hb); (try replace hb := of_decide_eq_false hb)))
    | (refine D.callA (growH_does L.flatten.length h0 h) rfl rfl rfl rfl hΓ rfl ?_; (conv => whnf); refine ⟨rfl, rfl, rfl, ?_, ?_, ?_, ?_⟩; (focus ((repeat' apply And.intro) <;> first | exact trivial | (intro i _; rw [Nat.zero_add]; exact A.sim.refl _) | with_reducible exact rfl | exact fun _ _ => A.sim.refl _ | exact A.sim.refl _ | exact rfl | exact Nat.le_refl _ | omega | exact fun i _ => shift_sim _ _ i | exact fun _ _ => trivial | exact fun _ h => absurd h (Nat.not_lt_zero _) | exact hlen' (by omega) | exact hend (by omega))); (focus ((repeat' apply And.intro) <;> first | exact trivial | (intro i _; rw [Nat.zero_add]; exact A.sim.refl _) | with_reducible exact rfl | exact fun _ _ => A.sim.refl _ | exact A.sim.refl _ | exact rfl | exact Nat.le_refl _ | omega | exact fun i _ => shift_sim _ _ i | exact fun _ _ => trivial | exact fun _ h => absurd h (Nat.not_lt_zero _) | exact hlen' (by omega) | exact hend (by omega))); (focus ((repeat' apply And.intro) <;> first | exact trivial | (intro i _; rw [Nat.zero_add]; exact A.sim.refl _) | with_reducible exact rfl | exact fun _ _ => A.sim.refl _ | exact A.sim.refl _ | exact rfl | exact Nat.le_refl _ | omega | exact fun i _ => shift_sim _ _ i | exact fun _ _ => trivial | exact fun _ h => absurd h (Nat.not_lt_zero _) | exact hlen' (by omega) | exact hend (by omega))); (conv => whnf))
    | (refine W.callA (growH_does L.flatten.length h0 h) rfl rfl rfl rfl hΓ rfl ?_; (conv => whnf); refine ⟨rfl, rfl, ?_, ?_, ?_, ?_⟩; (focus ((repeat' apply And.intro) <;> first | exact trivial | (intro i _; rw [Nat.zero_add]; exact A.sim.refl _) | with_reducible exact rfl | exact fun _ _ => A.sim.refl _ | exact A.sim.refl _ | exact rfl | exact Nat.le_refl _ | omega | exact fun i _ => shift_sim _ _ i | exact fun _ _ => trivial | exact fun _ h => absurd h (Nat.not_lt_zero _) | exact hlen' (by omega) | exact hend (by omega))); (focus ((repeat' apply And.intro) <;> first | exact trivial | (intro i _; rw [Nat.zero_add]; exact A.sim.refl _) | with_reducible exact rfl | exact fun _ _ => A.sim.refl _ | exact A.sim.refl _ | exact rfl | exact Nat.le_refl _ | omega | exact fun i _ => shift_sim _ _ i | exact fun _ _ => trivial | exact fun _ h => absurd h (Nat.not_lt_zero _) | exact hlen' (by omega) | exact hend (by omega))); (focus ((repeat' apply And.intro) <;> first | exact trivial | (intro i _; rw [Nat.zero_add]; exact A.sim.refl _) | with_reducible exact rfl | exact fun _ _ => A.sim.refl _ | exact A.sim.refl _ | exact rfl | exact Nat.le_refl _ | omega | exact fun i _ => shift_sim _ _ i | exact fun _ _ => trivial | exact fun _ h => absurd h (Nat.not_lt_zero _) | exact hlen' (by omega) | exact hend (by omega))); (conv => whnf))
    | (refine W.go TOK 36 hΓ 1000 rfl ?_; (conv => whnf); refine ⟨?_, ?_⟩)
    | (refine D.go TOK 36 hΓ 1000 rfl ?_; (conv => whnf); refine ⟨?_, ?_⟩)
    | (refine W.drawn rfl rfl ?_; refine D.run TOK 36 hΓ 1000 ?_; (conv => whnf); refine ⟨?_, ?_⟩)
  all_goals (repeat' apply And.intro)
  all_goals try (first
    | exact trivial
    | exact rfl
    | exact fun _ _ => A.sim.refl _
    | exact A.sim.refl _
    | exact Nat.le_refl _
    | omega
    | exact fun _ _ => trivial
    | exact fun i _ => shift_sim _ _ i
    | exact fun _ h => absurd h (Nat.not_lt_zero _)
    | exact fun i _ => isInt_byteAt _ i
    | exact hlen' (by omega)
    | exact hend (by omega)
    | (simp only [allP, List.nil_append, List.append_nil, List.cons_append, List.append_eq, and_true, true_and, inr_i64, inr_u8, inr_u64, min_i64, max_i64, min_u64, max_u64, min_u8, max_u8, A.purePL, A.pureP, A.sureP, A.surePL, Int.toNat_natCast, Int.reduceToNat, addI, cHi, cLo, hiN, loN, subO, addO, hasIdx, cond_true, cond_false]; done)
    | (simp only [allP, List.nil_append, List.append_nil, List.cons_append, List.append_eq, and_true, true_and, inr_i64, inr_u8, inr_u64, min_i64, max_i64, min_u64, max_u64, min_u8, max_u8, A.purePL, A.pureP, A.sureP, A.surePL, Int.toNat_natCast, Int.reduceToNat, addI, cHi, cLo, hiN, loN, subO, addO, hasIdx, cond_true, cond_false]; omega)
    | (simp only [allP, List.nil_append, List.append_nil, List.cons_append, List.append_eq, and_true, true_and, inr_i64, inr_u8, inr_u64, min_i64, max_i64, min_u64, max_u64, min_u8, max_u8, A.purePL, A.pureP, A.sureP, A.surePL, Int.toNat_natCast, Int.reduceToNat, addI, cHi, cLo, hiN, loN, subO, addO, hasIdx, cond_true, cond_false]; (repeat' apply And.intro) <;> first | exact trivial | rfl | omega | decide)
    )
  refine W.loopA (Nat) (fun i => i ≤ L.length) (fun i => L.length - i) (fun i => [(6, .own 32 500 0 (L.take i).flatten.length), (27, .int .i64 i)]) (fun i => [(500, some (slO (L.take i).flatten))]) [] (0) ((Nat.zero_le _)) ?_
  (conv => whnf); refine ⟨?_, ?_⟩; focus ((conv => whnf); refine ⟨rfl, rfl, rfl, rfl, rfl, rfl, ?_, ?_⟩; (focus ((repeat' apply And.intro) <;> first | exact trivial | (intro i _; rw [Nat.zero_add]; exact A.sim.refl _) | with_reducible exact rfl | exact fun _ _ => A.sim.refl _ | exact A.sim.refl _ | exact rfl | exact Nat.le_refl _ | omega | exact fun i _ => shift_sim _ _ i | exact fun _ _ => trivial | exact fun _ h => absurd h (Nat.not_lt_zero _))); (focus ((repeat' apply And.intro) <;> first | exact trivial | (intro i _; rw [Nat.zero_add]; exact A.sim.refl _) | with_reducible exact rfl | exact fun _ _ => A.sim.refl _ | exact A.sim.refl _ | exact rfl | exact Nat.le_refl _ | omega | exact fun i _ => shift_sim _ _ i | exact fun _ _ => trivial | exact fun _ h => absurd h (Nat.not_lt_zero _))))
  rintro i2 hi2 ih2
  clear ih hlen' hle hle2 hend
  have hi2 : i2 ≤ L.length := hi2
  have hlen : i2 < L.length → (L.take i2).flatten.length + (L.getD i2 default).length = (L.take (i2 + 1)).flatten.length := fun hlt => flatH_len L i2 hlt
  have hle := flatH_le L i2
  have hle2 := flatH_le L (i2 + 1)
  have hend : ¬ i2 < L.length → i2 = L.length := fun h => by omega
  refine W.run TOK 36 hΓ 1000 ?_
  conv => whnf
  refine ⟨?_, ?_⟩
  repeat' first
    | assumption
    | exact Bool.noConfusion hb
    | exact absurd hb (by decide)
    | (exfalso; omega)
    | (refine W.toA (ih2 (i2 + 1) ?_ ?_) ?_; rotate_left 2; (conv => whnf); refine ⟨rfl, rfl, rfl, rfl, rfl, rfl, ?_, ?_⟩; (focus ((repeat' apply And.intro) <;> first | exact trivial | (intro i _; rw [Nat.zero_add]; exact A.sim.refl _) | with_reducible exact rfl | exact fun _ _ => A.sim.refl _ | exact A.sim.refl _ | exact rfl | exact Nat.le_refl _ | omega | exact fun i _ => shift_sim _ _ i | exact fun _ _ => trivial | exact fun _ h => absurd h (Nat.not_lt_zero _) | exact flatH_cat L i2 (by omega) | (exact hlen (by omega)) | (exact (hlen (by omega)).symm) | (exact Nat.le_of_eq (hlen (by omega))) | (exact Nat.le_of_eq (hlen (by omega)).symm))); (focus ((repeat' apply And.intro) <;> first | exact trivial | (intro i _; rw [Nat.zero_add]; exact A.sim.refl _) | with_reducible exact rfl | exact fun _ _ => A.sim.refl _ | exact A.sim.refl _ | exact rfl | exact Nat.le_refl _ | omega | exact fun i _ => shift_sim _ _ i | exact fun _ _ => trivial | exact fun _ h => absurd h (Nat.not_lt_zero _) | exact flatH_cat L i2 (by omega) | (exact hlen (by omega)) | (exact (hlen (by omega)).symm) | (exact Nat.le_of_eq (hlen (by omega))) | (exact Nat.le_of_eq (hlen (by omega)).symm))))
    | (refine W.retA TOK rfl ?_; (conv => whnf); refine ⟨rfl, rfl, rfl, rfl, rfl, rfl, ?_, ?_, ?_⟩)
    | (refine W.branch rfl (fun hb => ?_) (fun hb => ?_) <;> ((try simp only [decide_eq_true_eq, decide_eq_false_iff_not, Bool.not_eq_true', Bool.not_eq_false', Int.not_lt, Int.not_le, cond_true, cond_false, reduceCtorEq, Int.toNat_natCast, Int.reduceToNat, addI] at hb); (try replace hb := of_decide_eq_true hb); (try replace hb := of_decide_eq_false hb)))
    | (refine D.branch rfl (fun hb => ?_) (fun hb => ?_) <;> ((try simp only [decide_eq_true_eq, decide_eq_false_iff_not, Bool.not_eq_true', Bool.not_eq_false', Int.not_lt, Int.not_le, cond_true, cond_false, reduceCtorEq, Int.toNat_natCast, Int.reduceToNat, addI] at hb); (try replace hb := of_decide_eq_true hb); (try replace hb := of_decide_eq_false hb)))
    | (refine W.go TOK 36 hΓ 1000 rfl ?_; (conv => whnf); refine ⟨?_, ?_⟩)
    | (refine D.go TOK 36 hΓ 1000 rfl ?_; (conv => whnf); refine ⟨?_, ?_⟩)
    | (refine W.drawn rfl rfl ?_; refine D.run TOK 36 hΓ 1000 ?_; (conv => whnf); refine ⟨?_, ?_⟩)
  all_goals (repeat' apply And.intro)
  all_goals try (first
    | exact trivial
    | exact rfl
    | exact fun _ _ => A.sim.refl _
    | exact A.sim.refl _
    | exact Nat.le_refl _
    | omega
    | exact fun _ _ => trivial
    | exact fun i _ => shift_sim _ _ i
    | exact fun _ h => absurd h (Nat.not_lt_zero _)
    | exact fun i _ => isInt_byteAt _ i
    | exact flatH_cat L i2 (by omega)
    | (have hll := hlen (by omega); rw [Int.toNat_natCast]; omega)
    | (obtain rfl := hend (by omega); rw [List.take_length]; exact Nat.le_refl _)
    | (obtain rfl := hend (by omega); rw [List.take_length]; exact fun _ _ => A.sim.refl _)
    | (obtain rfl := hend (by omega); rw [List.take_length]; done)
    | (simp only [allP, List.nil_append, List.append_nil, List.cons_append, List.append_eq, and_true, true_and, inr_i64, inr_u8, inr_u64, min_i64, max_i64, min_u64, max_u64, min_u8, max_u8, A.purePL, A.pureP, A.sureP, A.surePL, Int.toNat_natCast, Int.reduceToNat, addI, cHi, cLo, hiN, loN, subO, addO, hasIdx, cond_true, cond_false]; done)
    | (simp only [allP, List.nil_append, List.append_nil, List.cons_append, List.append_eq, and_true, true_and, inr_i64, inr_u8, inr_u64, min_i64, max_i64, min_u64, max_u64, min_u8, max_u8, A.purePL, A.pureP, A.sureP, A.surePL, Int.toNat_natCast, Int.reduceToNat, addI, cHi, cLo, hiN, loN, subO, addO, hasIdx, cond_true, cond_false]; omega)
    | (simp only [allP, List.nil_append, List.append_nil, List.cons_append, List.append_eq, and_true, true_and, inr_i64, inr_u8, inr_u64, min_i64, max_i64, min_u64, max_u64, min_u8, max_u8, A.purePL, A.pureP, A.sureP, A.surePL, Int.toNat_natCast, Int.reduceToNat, addI, cHi, cLo, hiN, loN, subO, addO, hasIdx, cond_true, cond_false]; (repeat' apply And.intro) <;> first | exact trivial | rfl | omega | decide)
    )

end Go.Proofs.Ytfgpiobnmddmhaa
