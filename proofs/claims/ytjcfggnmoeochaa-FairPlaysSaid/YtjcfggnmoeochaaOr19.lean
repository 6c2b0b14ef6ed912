/- Walks: the closure of fair.Order. -/
import Derived.Test.YtjcfggnmoeochaaCm19
set_option linter.unusedSimpArgs false
set_option linter.unusedVariables false
namespace Go.Proofs.Ytjcfggnmoeochaa
open VX
set_option maxRecDepth 100000
set_option maxHeartbeats 4000000
def lessF (G : List UInt8 → Int) (a b : List UInt8) : Int := orI (cmpI (G a) (G b)) (cmpS a b)
theorem order1_does (a b : List UInt8) (ks : List (List UInt8)) (G : List UInt8 → Int) : Does Try.prog 16 [.str a, .str b, .ptr 1002 []] [(1000, some (.var (.agg [.map 1001]))), (1001, some (.smap (.int .i64 0) ks (fairM G))), (1002, some (.var (.func (.func 9) [.ptr 1000 []] [])))] [] (Is (.int .i64 (lessF G a b)) [(1000, some (.var (.agg [.map 1001]))), (1001, some (.smap (.int .i64 0) ks (fairM G))), (1002, some (.var (.func (.func 9) [.ptr 1000 []] [])))]) := by
  refine Does.intro (fn := Try.f16) Try.func16 rfl rfl fun Γ hΓ => ?_
  refine W.run TOK 18 hΓ 1000 ?_
  conv => whnf
  refine ⟨?_, ?_⟩
  repeat' first
    | assumption
    | exact Bool.noConfusion hb
    | exact absurd hb (by decide)
    | (refine W.retA TOK rfl ?_; (conv => whnf); refine ⟨rfl, rfl, rfl, rfl, rfl, rfl, ?_, ?_, ?_⟩)
    | (refine W.branch rfl (fun hb => ?_) (fun hb => ?_) <;> ((try simp only [decide_eq_true_eq, decide_eq_false_iff_not, Bool.not_eq_true', Bool.not_eq_false', Int.not_lt, Int.not_le, cond_true, cond_false, reduceCtorEq, Int.toNat_natCast, Int.reduceToNat, addI] at hb); (try replace hb := of_decide_eq_true hb); (try replace hb := of_decide_eq_false hb)))
    | (refine D.branch rfl (fun hb => ?_) (fun hb => ?_) <;> ((try simp only [decide_eq_true_eq, decide_eq_false_iff_not, Bool.not_eq_true', Bool.not_eq_false', Int.not_lt, Int.not_le, cond_true, cond_false, reduceCtorEq, Int.toNat_natCast, Int.reduceToNat, addI] at hb); (try replace hb := of_decide_eq_true hb); (try replace hb := of_decide_eq_false hb)))
    | ((first | (refine D.callA (served_does a ks G) rfl rfl rfl rfl hΓ rfl ?_; (conv => whnf); refine ⟨rfl, rfl, rfl, ?_, ?_, ?_, ?_⟩) | (refine W.callA (served_does a ks G) rfl rfl rfl rfl hΓ rfl ?_; (conv => whnf); refine ⟨rfl, rfl, ?_, ?_, ?_, ?_⟩)); iterate 3 (focus ((repeat' apply And.intro) <;> first | exact trivial | (intro i _; rw [Nat.zero_add]; exact A.sim.refl _) | with_reducible exact rfl | exact fun _ _ => A.sim.refl _ | exact A.sim.refl _ | exact rfl | exact Nat.le_refl _ | omega | exact fun i _ => shift_sim _ _ i | exact fun _ _ => trivial | exact fun _ h => absurd h (Nat.not_lt_zero _) | (intro i hi; (match i, hi with | 0, _ => exact A.sim.refl _ | 1, _ => exact A.sim.refl _)) | exact ⟨rfl, rfl, rfl⟩)); (conv => whnf))
    | ((first | (refine D.callA (served_does b ks G) rfl rfl rfl rfl hΓ rfl ?_; (conv => whnf); refine ⟨rfl, rfl, rfl, ?_, ?_, ?_, ?_⟩) | (refine W.callA (served_does b ks G) rfl rfl rfl rfl hΓ rfl ?_; (conv => whnf); refine ⟨rfl, rfl, ?_, ?_, ?_, ?_⟩)); iterate 3 (focus ((repeat' apply And.intro) <;> first | exact trivial | (intro i _; rw [Nat.zero_add]; exact A.sim.refl _) | with_reducible exact rfl | exact fun _ _ => A.sim.refl _ | exact A.sim.refl _ | exact rfl | exact Nat.le_refl _ | omega | exact fun i _ => shift_sim _ _ i | exact fun _ _ => trivial | exact fun _ h => absurd h (Nat.not_lt_zero _) | (intro i hi; (match i, hi with | 0, _ => exact A.sim.refl _ | 1, _ => exact A.sim.refl _)) | exact ⟨rfl, rfl, rfl⟩)); (conv => whnf))
    | ((first | (refine D.callA (compare_int (G a) (G b)) rfl rfl rfl rfl hΓ rfl ?_; (conv => whnf); refine ⟨rfl, rfl, rfl, ?_, ?_, ?_, ?_⟩) | (refine W.callA (compare_int (G a) (G b)) rfl rfl rfl rfl hΓ rfl ?_; (conv => whnf); refine ⟨rfl, rfl, ?_, ?_, ?_, ?_⟩)); iterate 3 (focus ((repeat' apply And.intro) <;> first | exact trivial | (intro i _; rw [Nat.zero_add]; exact A.sim.refl _) | with_reducible exact rfl | exact fun _ _ => A.sim.refl _ | exact A.sim.refl _ | exact rfl | exact Nat.le_refl _ | omega | exact fun i _ => shift_sim _ _ i | exact fun _ _ => trivial | exact fun _ h => absurd h (Nat.not_lt_zero _) | (intro i hi; (match i, hi with | 0, _ => exact A.sim.refl _ | 1, _ => exact A.sim.refl _)) | exact ⟨rfl, rfl, rfl⟩)); (conv => whnf))
    | ((first | (refine D.callA (compare_string a b) rfl rfl rfl rfl hΓ rfl ?_; (conv => whnf); refine ⟨rfl, rfl, rfl, ?_, ?_, ?_, ?_⟩) | (refine W.callA (compare_string a b) rfl rfl rfl rfl hΓ rfl ?_; (conv => whnf); refine ⟨rfl, rfl, ?_, ?_, ?_, ?_⟩)); iterate 3 (focus ((repeat' apply And.intro) <;> first | exact trivial | (intro i _; rw [Nat.zero_add]; exact A.sim.refl _) | with_reducible exact rfl | exact fun _ _ => A.sim.refl _ | exact A.sim.refl _ | exact rfl | exact Nat.le_refl _ | omega | exact fun i _ => shift_sim _ _ i | exact fun _ _ => trivial | exact fun _ h => absurd h (Nat.not_lt_zero _) | (intro i hi; (match i, hi with | 0, _ => exact A.sim.refl _ | 1, _ => exact A.sim.refl _)) | exact ⟨rfl, rfl, rfl⟩)); (conv => whnf))
    | ((first | (refine D.callA (or_does (cmpI (G a) (G b)) (cmpS a b)) rfl rfl rfl rfl hΓ rfl ?_; (conv => whnf); refine ⟨rfl, rfl, rfl, ?_, ?_, ?_, ?_⟩) | (refine W.callA (or_does (cmpI (G a) (G b)) (cmpS a b)) rfl rfl rfl rfl hΓ rfl ?_; (conv => whnf); refine ⟨rfl, rfl, ?_, ?_, ?_, ?_⟩)); iterate 3 (focus ((repeat' apply And.intro) <;> first | exact trivial | (intro i _; rw [Nat.zero_add]; exact A.sim.refl _) | with_reducible exact rfl | exact fun _ _ => A.sim.refl _ | exact A.sim.refl _ | exact rfl | exact Nat.le_refl _ | omega | exact fun i _ => shift_sim _ _ i | exact fun _ _ => trivial | exact fun _ h => absurd h (Nat.not_lt_zero _) | (intro i hi; (match i, hi with | 0, _ => exact A.sim.refl _ | 1, _ => exact A.sim.refl _)) | exact ⟨rfl, rfl, rfl⟩)); (conv => whnf))
    | (refine W.go TOK 18 hΓ 1000 rfl ?_; (conv => whnf); refine ⟨?_, ?_⟩)
    | (refine D.go TOK 18 hΓ 1000 rfl ?_; (conv => whnf); refine ⟨?_, ?_⟩)
    | (refine W.drawn rfl rfl ?_; refine D.run TOK 18 hΓ 1000 ?_; (conv => whnf); refine ⟨?_, ?_⟩)
  all_goals (repeat' apply And.intro)
  all_goals try (first
    | exact trivial
    | exact rfl
    | exact fun _ _ => A.sim.refl _
    | exact A.sim.refl _
    | exact Nat.le_refl _
    | omega
    | exact fun _ _ => trivial
    | exact fun i _ => shift_sim _ _ i
    | exact fun _ h => absurd h (Nat.not_lt_zero _)
    | exact fun i _ => isInt_byteAt _ i
    | exact ⟨rfl, rfl, rfl⟩
    | (simp only [allP, List.nil_append, List.append_nil, List.cons_append, List.append_eq, and_true, true_and, inr_i64, inr_u8, inr_u64, min_i64, max_i64, min_u64, max_u64, min_u8, max_u8, A.purePL, A.pureP, A.sureP, A.surePL, Int.toNat_natCast, Int.reduceToNat, addI, cHi, cLo, hiN, loN, subO, addO, hasIdx, cond_true, cond_false]; first | done | omega | ((repeat' apply And.intro) <;> first | exact trivial | rfl | omega | decide))
    )
end Go.Proofs.Ytjcfggnmoeochaa
