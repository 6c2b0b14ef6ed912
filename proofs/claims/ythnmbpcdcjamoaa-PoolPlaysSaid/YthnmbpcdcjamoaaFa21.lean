/- Walks: who was served how often: a map from strings to numbers. -/
import Derived.Test.YthnmbpcdcjamoaaTab
import Derived.Test.YthnmbpcdcjamoaaVxI
set_option linter.unusedSimpArgs false
set_option linter.unusedVariables false
namespace Go.Proofs.Ythnmbpcdcjamoaa
open VX
set_option maxRecDepth 100000
set_option maxHeartbeats 4000000

abbrev fairM (G : List UInt8 → Int) : List UInt8 → A := fun s => .int .i64 (G s)
theorem new_does : Does Try.prog 21 [] [] [1, 2] (Is (.ptr 1 []) [(1, some (.var (.agg [.map 2]))), (2, some (.smap (.int .i64 0) [] fun _ => .int .i64 0))]) := by
  refine Does.intro (fn := Try.f21) Try.func21 rfl rfl fun Γ hΓ => ?_
  refine W.run TOK 4 hΓ 1000 ?_
  conv => whnf
  refine ⟨?_, ?_⟩
  repeat' first
    | assumption
    | exact Bool.noConfusion hb
    | exact absurd hb (by decide)
    | (refine W.makeMap (nt := 4) hΓ rfl rfl rfl rfl (nm := 700) rfl (A.int .i64 0) ?_)
    | (refine W.mapLook TOK (nt := 4) hΓ rfl rfl rfl rfl rfl rfl rfl rfl rfl rfl ?_ ?_; (focus exact trivial))
    | (refine W.mapSet TOK rfl rfl rfl rfl rfl rfl rfl rfl rfl rfl int_one ?_)
    | (refine W.retA TOK rfl ?_; (conv => whnf); refine ⟨rfl, rfl, rfl, rfl, rfl, rfl, ?_, ?_, ?_⟩)
    | (refine W.branch rfl (fun hb => ?_) (fun hb => ?_) <;> ((try simp only [decide_eq_true_eq, decide_eq_false_iff_not, Bool.not_eq_true', Bool.not_eq_false', Int.not_lt, Int.not_le, cond_true, cond_false, reduceCtorEq, Int.toNat_natCast, Int.reduceToNat, addI] at hb); (try replace hb := of_decide_eq_true hb); (try replace hb := of_decide_eq_false hb)))
    | (refine W.go TOK 4 hΓ 1000 rfl ?_; (conv => whnf); refine ⟨?_, ?_⟩)
  all_goals (repeat' apply And.intro)
  all_goals try (first
    | exact trivial
    | exact rfl
    | exact fun _ _ => A.sim.refl _
    | exact A.sim.refl _
    | exact Nat.le_refl _
    | omega
    | exact fun _ _ => trivial
    | exact fun i _ => shift_sim _ _ i
    | exact fun _ h => absurd h (Nat.not_lt_zero _)
    | exact fun i _ => isInt_byteAt _ i
    | (simp only [allP, List.nil_append, List.append_nil, List.cons_append, List.append_eq, and_true, true_and, inr_i64, inr_u8, inr_u64, min_i64, max_i64, min_u64, max_u64, min_u8, max_u8, A.purePL, A.pureP, A.sureP, A.surePL, Int.toNat_natCast, Int.reduceToNat, addI, cHi, cLo, hiN, loN, subO, addO, hasIdx, cond_true, cond_false]; first | done | omega | ((repeat' apply And.intro) <;> first | exact trivial | rfl | omega | decide))
    )
theorem served_does (s : List UInt8) (ks : List (List UInt8)) (G : List UInt8 → Int) : Does Try.prog 23 [.ptr 1000 [], .str s] [(1000, some (.var (.agg [.map 1001]))), (1001, some (.smap (.int .i64 0) ks (fairM G)))] [] (Is (.int .i64 (G s)) [(1000, some (.var (.agg [.map 1001]))), (1001, some (.smap (.int .i64 0) ks (fairM G)))]) := by
  refine Does.intro (fn := Try.f23) Try.func23 rfl rfl fun Γ hΓ => ?_
  refine W.run TOK 11 hΓ 1000 ?_
  conv => whnf
  refine ⟨?_, ?_⟩
  repeat' first
    | assumption
    | exact Bool.noConfusion hb
    | exact absurd hb (by decide)
    | (refine W.makeMap (nt := 11) hΓ rfl rfl rfl rfl (nm := 700) rfl (A.int .i64 0) ?_)
    | (refine W.mapLook TOK (nt := 11) hΓ rfl rfl rfl rfl rfl rfl rfl rfl rfl rfl ?_ ?_; (focus exact trivial))
    | (refine W.mapSet TOK rfl rfl rfl rfl rfl rfl rfl rfl rfl rfl int_one ?_)
    | (refine W.retA TOK rfl ?_; (conv => whnf); refine ⟨rfl, rfl, rfl, rfl, rfl, rfl, ?_, ?_, ?_⟩)
    | (refine W.branch rfl (fun hb => ?_) (fun hb => ?_) <;> ((try simp only [decide_eq_true_eq, decide_eq_false_iff_not, Bool.not_eq_true', Bool.not_eq_false', Int.not_lt, Int.not_le, cond_true, cond_false, reduceCtorEq, Int.toNat_natCast, Int.reduceToNat, addI] at hb); (try replace hb := of_decide_eq_true hb); (try replace hb := of_decide_eq_false hb)))
    | (refine W.go TOK 11 hΓ 1000 rfl ?_; (conv => whnf); refine ⟨?_, ?_⟩)
  all_goals (repeat' apply And.intro)
  all_goals try (first
    | exact trivial
    | exact rfl
    | exact fun _ _ => A.sim.refl _
    | exact A.sim.refl _
    | exact Nat.le_refl _
    | omega
    | exact fun _ _ => trivial
    | exact fun i _ => shift_sim _ _ i
    | exact fun _ h => absurd h (Nat.not_lt_zero _)
    | exact fun i _ => isInt_byteAt _ i
    | (simp only [allP, List.nil_append, List.append_nil, List.cons_append, List.append_eq, and_true, true_and, inr_i64, inr_u8, inr_u64, min_i64, max_i64, min_u64, max_u64, min_u8, max_u8, A.purePL, A.pureP, A.sureP, A.surePL, Int.toNat_natCast, Int.reduceToNat, addI, cHi, cLo, hiN, loN, subO, addO, hasIdx, cond_true, cond_false]; first | done | omega | ((repeat' apply And.intro) <;> first | exact trivial | rfl | omega | decide))
    )
theorem serve_does (s : List UInt8) (ks : List (List UInt8)) (G : List UInt8 → Int) (hG : 0 ≤ G s ∧ G s < 1000000000) : Does Try.prog 22 [.ptr 1000 [], .str s] [(1000, some (.var (.agg [.map 1001]))), (1001, some (.smap (.int .i64 0) ks (fairM G)))] [] (Is (.tup []) [(1000, some (.var (.agg [.map 1001]))), (1001, some (.smap (.int .i64 0) (insK s ks) (setM (fairM G) s (.int .i64 (G s + 1)))))]) := by
  have hG1 : inr .i64 (G s + 1) := inr_i64.2 (by omega)
  refine Does.intro (fn := Try.f22) Try.func22 rfl rfl fun Γ hΓ => ?_
  refine W.run TOK 11 hΓ 1000 ?_
  conv => whnf
  refine ⟨?_, ?_⟩
  repeat' first
    | assumption
    | exact Bool.noConfusion hb
    | exact absurd hb (by decide)
    | (refine W.makeMap (nt := 11) hΓ rfl rfl rfl rfl (nm := 700) rfl (A.int .i64 0) ?_)
    | (refine W.mapLook TOK (nt := 11) hΓ rfl rfl rfl rfl rfl rfl rfl rfl rfl rfl ?_ ?_; (focus exact trivial))
    | (refine W.mapSet TOK rfl rfl rfl rfl rfl rfl rfl rfl rfl rfl int_one ?_)
    | (refine W.retA TOK rfl ?_; (conv => whnf); refine ⟨rfl, rfl, rfl, rfl, rfl, rfl, ?_, ?_, ?_⟩)
    | (refine W.endA TOK rfl ?_; (conv => whnf); refine ⟨rfl, rfl, rfl, rfl, rfl, rfl, ?_, ?_, ?_⟩)
    | (refine W.branch rfl (fun hb => ?_) (fun hb => ?_) <;> ((try simp only [decide_eq_true_eq, decide_eq_false_iff_not, Bool.not_eq_true', Bool.not_eq_false', Int.not_lt, Int.not_le, cond_true, cond_false, reduceCtorEq, Int.toNat_natCast, Int.reduceToNat, addI] at hb); (try replace hb := of_decide_eq_true hb); (try replace hb := of_decide_eq_false hb)))
    | (refine W.go TOK 11 hΓ 1000 rfl ?_; (conv => whnf); refine ⟨?_, ?_⟩)
  all_goals (repeat' apply And.intro)
  all_goals try (first
    | exact trivial
    | exact rfl
    | exact fun _ _ => A.sim.refl _
    | exact A.sim.refl _
    | exact Nat.le_refl _
    | omega
    | exact fun _ _ => trivial
    | exact fun i _ => shift_sim _ _ i
    | exact fun _ h => absurd h (Nat.not_lt_zero _)
    | exact fun i _ => isInt_byteAt _ i
    | exact ⟨rfl, rfl, rfl⟩
    | exact hG1.1
    | exact hG1.2
    | (simp only [allP, List.nil_append, List.append_nil, List.cons_append, List.append_eq, and_true, true_and, inr_i64, inr_u8, inr_u64, min_i64, max_i64, min_u64, max_u64, min_u8, max_u8, A.purePL, A.pureP, A.sureP, A.surePL, Int.toNat_natCast, Int.reduceToNat, addI, cHi, cLo, hiN, loN, subO, addO, hasIdx, cond_true, cond_false]; first | done | omega | ((repeat' apply And.intro) <;> first | exact trivial | rfl | omega | decide))
    )
end Go.Proofs.Ythnmbpcdcjamoaa
