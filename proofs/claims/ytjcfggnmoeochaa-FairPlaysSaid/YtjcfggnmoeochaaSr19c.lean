/- Walks: sorting names in place. -/
import Derived.Test.YtjcfggnmoeochaaSr19b
import Derived.Test.YtjcfggnmoeochaaSrSta
import Derived.Test.YtjcfggnmoeochaaVxI
import Derived.Test.YtjcfggnmoeochaaLsL
import Derived.Test.YtjcfggnmoeochaaOrdL
set_option linter.unusedSimpArgs false
set_option linter.unusedVariables false
namespace Go.Proofs.Ytjcfggnmoeochaa
open VX
set_option maxRecDepth 100000
set_option maxHeartbeats 4000000

theorem stab_does (ks : List (List UInt8)) (G : List UInt8 → Int) (d : List (List UInt8)) (h9 : d.length ≤ 1000000) : Does Try.prog 20 [.own 1 1003 0 (d).length, .int .i64 (d.length : Nat), .func (.func 16) [] [.ptr 1002 []]] ((1003, some (.arr 1 (d).length (lsA A.str (d)))) :: [(1000, some (.var (.agg [.map 1001]))), (1001, some (.smap (.int .i64 0) ks (fairM G))), (1002, some (.var (.func (.func 9) [.ptr 1000 []] [])))]) [] (Is (.tup []) ((1003, some (.arr 1 (HP.srt (lessN G) d).length (lsA A.str (HP.srt (lessN G) d)))) :: [(1000, some (.var (.agg [.map 1001]))), (1001, some (.smap (.int .i64 0) ks (fairM G))), (1002, some (.var (.func (.func 9) [.ptr 1000 []] [])))])) := by
  refine Does.intro (fn := Try.f20) Try.func20 rfl rfl fun Γ hΓ => ?_
  refine W.run TOK 63 hΓ 1000 ?_
  conv => whnf
  refine ⟨?_, ?_⟩
  repeat' first
    | assumption
    | exact Bool.noConfusion hb
    | exact absurd hb (by decide)
    | (refine W.branch rfl (fun hb => ?_) (fun hb => ?_) <;> ((try simp only [decide_eq_true_eq, decide_eq_false_iff_not, Bool.not_eq_true', Bool.not_eq_false', Int.not_lt, Int.not_le, cond_true, cond_false, reduceCtorEq, Int.toNat_natCast, Int.reduceToNat, addI] at hb); (try replace hb := of_decide_eq_true hb); (try replace hb := of_decide_eq_false hb)))
    | (refine D.branch rfl (fun hb => ?_) (fun hb => ?_) <;> ((try simp only [decide_eq_true_eq, decide_eq_false_iff_not, Bool.not_eq_true', Bool.not_eq_false', Int.not_lt, Int.not_le, cond_true, cond_false, reduceCtorEq, Int.toNat_natCast, Int.reduceToNat, addI] at hb); (try replace hb := of_decide_eq_true hb); (try replace hb := of_decide_eq_false hb)))
    | (refine W.go TOK 63 hΓ 1000 rfl ?_; (conv => whnf); refine ⟨?_, ?_⟩)
    | (refine D.go TOK 63 hΓ 1000 rfl ?_; (conv => whnf); refine ⟨?_, ?_⟩)
    | (refine W.drawn rfl rfl ?_; refine D.run TOK 63 hΓ 1000 ?_; (conv => whnf); refine ⟨?_, ?_⟩)
  all_goals (repeat' apply And.intro)
  all_goals try (first
    | exact trivial
    | exact rfl
    | exact fun _ _ => A.sim.refl _
    | exact A.sim.refl _
    | exact Nat.le_refl _
    | omega
    | exact fun _ _ => trivial
    | exact fun i _ => shift_sim _ _ i
    | exact fun _ h => absurd h (Nat.not_lt_zero _)
    | exact fun i _ => isInt_byteAt _ i
    | (simp only [allP, List.nil_append, List.append_nil, List.cons_append, List.append_eq, and_true, true_and, inr_i64, inr_u8, inr_u64, min_i64, max_i64, min_u64, max_u64, min_u8, max_u8, A.purePL, A.pureP, A.sureP, A.surePL, Int.toNat_natCast, Int.reduceToNat, addI, cHi, cLo, hiN, loN, subO, addO, hasIdx, cond_true, cond_false]; first | done | omega | ((repeat' apply And.intro) <;> first | exact trivial | rfl | omega | decide))
    )
  refine W.loopA (List (List UInt8) × Nat) (HP.StaJ (lessN G) d) (fun x => d.length - x.2) (fun x => [(0, .own 1 1003 0 x.1.length), (7, .int .i64 (x.2 : Nat)), (8, .int .i64 ((x.2 + 20 : Nat) : Int))]) (fun x => [(1003, some (.arr 1 (x.1).length (lsA A.str (x.1))))]) [] ((d, 0)) (HP.StaJ.start d) ?_
  (conv => whnf); refine ⟨?_, ?_⟩; focus ((conv => whnf); refine ⟨rfl, rfl, rfl, rfl, rfl, rfl, ?_, ?_⟩; iterate 2 (focus ((repeat' apply And.intro) <;> first | exact trivial | (intro i _; rw [Nat.zero_add]; exact A.sim.refl _) | with_reducible exact rfl | exact fun _ _ => A.sim.refl _ | exact A.sim.refl _ | exact rfl | exact Nat.le_refl _ | omega | exact fun i _ => shift_sim _ _ i | exact fun _ _ => trivial | exact fun _ h => absurd h (Nat.not_lt_zero _))))
  rintro ⟨e, a⟩ hJ ih
  have hlen : e.length = d.length := hJ.len
  have hlo : a ≤ d.length := hJ.lo
  by_cases hab : a + 20 ≤ d.length
  · have hsl := HP.sortSeg_len (lt := (lessN G)) e (show a ≤ a + 20 by omega) (show a + 20 ≤ e.length by omega)
    have cs := isort_does ks G e a (a + 20) (by omega) (by omega) (by omega)
    have ih2 := ih (HP.sortSeg (lessN G) e a (a + 20), a + 20) (hJ.step (lessN_ord G) hab) (by simp only; omega)
    repeat' first
      | assumption
      | exact Bool.noConfusion hb
      | exact absurd hb (by decide)
      | (exfalso; omega)
      | (exfalso; simp at hb; done)
      | (refine W.toA (ih2) ?_; rotate_left 0; (conv => whnf); refine ⟨rfl, rfl, rfl, rfl, rfl, rfl, ?_, ?_⟩; iterate 2 (focus ((repeat' apply And.intro) <;> first | exact trivial | (intro i _; rw [Nat.zero_add]; exact A.sim.refl _) | with_reducible exact rfl | exact fun _ _ => A.sim.refl _ | exact A.sim.refl _ | exact rfl | exact Nat.le_refl _ | omega | exact fun i _ => shift_sim _ _ i | exact fun _ _ => trivial | exact fun _ h => absurd h (Nat.not_lt_zero _) | exact hsl | exact hsl.symm | exact Nat.le_of_eq hsl | exact Nat.le_of_eq hsl.symm | exact ⟨rfl, rfl, rfl, rfl⟩ | exact ⟨rfl, rfl, rfl⟩ | exact ⟨rfl, rfl⟩ | exact hsl2 | exact hsl2.symm | exact Nat.le_of_eq hsl2 | exact Nat.le_of_eq hsl2.symm | (show (a : Int) + 20 = ((a + 20 : Nat) : Int); omega) | (show ((a + 20 : Nat) : Int) + 20 = ((a + 20 + 20 : Nat) : Int); omega) | (show (a : Int) + (s : Int) = ((a + s : Nat) : Int); omega) | (show (2 : Int) * (s : Int) = ((2 * s : Nat) : Int); omega) | (show (s : Int) * 2 = ((2 * s : Nat) : Int); omega) | (show (2 : Int) * (s : Int) = ((0 + 2 * s : Nat) : Int); omega) | (show ((a + 2 * s : Nat) : Int) + 2 * (s : Int) = ((a + 2 * s + 2 * s : Nat) : Int); omega))))
      | (refine W.branch rfl (fun hb => ?_) (fun hb => ?_) <;> ((try simp only [decide_eq_true_eq, decide_eq_false_iff_not, Bool.not_eq_true', Bool.not_eq_false', Int.not_lt, Int.not_le, cond_true, cond_false, reduceCtorEq, Int.toNat_natCast, Int.reduceToNat, addI] at hb); (try replace hb := of_decide_eq_true hb); (try replace hb := of_decide_eq_false hb)))
      | (refine D.branch rfl (fun hb => ?_) (fun hb => ?_) <;> ((try simp only [decide_eq_true_eq, decide_eq_false_iff_not, Bool.not_eq_true', Bool.not_eq_false', Int.not_lt, Int.not_le, cond_true, cond_false, reduceCtorEq, Int.toNat_natCast, Int.reduceToNat, addI] at hb); (try replace hb := of_decide_eq_true hb); (try replace hb := of_decide_eq_false hb)))
      | ((first | (refine D.callA (cs) rfl rfl rfl rfl hΓ rfl ?_; (conv => whnf); refine ⟨rfl, rfl, rfl, ?_, ?_, ?_, ?_⟩) | (refine W.callA (cs) rfl rfl rfl rfl hΓ rfl ?_; (conv => whnf); refine ⟨rfl, rfl, ?_, ?_, ?_, ?_⟩)); iterate 3 (focus ((repeat' apply And.intro) <;> first | exact trivial | (intro i _; rw [Nat.zero_add]; exact A.sim.refl _) | with_reducible exact rfl | exact fun _ _ => A.sim.refl _ | exact A.sim.refl _ | exact rfl | exact Nat.le_refl _ | omega | exact fun i _ => shift_sim _ _ i | exact fun _ _ => trivial | exact fun _ h => absurd h (Nat.not_lt_zero _) | exact hsl | exact hsl.symm | exact Nat.le_of_eq hsl | exact Nat.le_of_eq hsl.symm | exact ⟨rfl, rfl, rfl, rfl⟩ | exact ⟨rfl, rfl, rfl⟩ | exact ⟨rfl, rfl⟩ | exact hsl2 | exact hsl2.symm | exact Nat.le_of_eq hsl2 | exact Nat.le_of_eq hsl2.symm | (show (a : Int) + 20 = ((a + 20 : Nat) : Int); omega) | (show ((a + 20 : Nat) : Int) + 20 = ((a + 20 + 20 : Nat) : Int); omega) | (show (a : Int) + (s : Int) = ((a + s : Nat) : Int); omega) | (show (2 : Int) * (s : Int) = ((2 * s : Nat) : Int); omega) | (show (s : Int) * 2 = ((2 * s : Nat) : Int); omega) | (show (2 : Int) * (s : Int) = ((0 + 2 * s : Nat) : Int); omega) | (show ((a + 2 * s : Nat) : Int) + 2 * (s : Int) = ((a + 2 * s + 2 * s : Nat) : Int); omega))); (conv => whnf))
      | (refine W.go TOK 63 hΓ 1000 rfl ?_; (conv => whnf); refine ⟨?_, ?_⟩)
      | (refine D.go TOK 63 hΓ 1000 rfl ?_; (conv => whnf); refine ⟨?_, ?_⟩)
      | (refine W.drawn rfl rfl ?_; refine D.run TOK 63 hΓ 1000 ?_; (conv => whnf); refine ⟨?_, ?_⟩)
    all_goals (repeat' apply And.intro)
    all_goals try (first
      | exact trivial
      | exact rfl
      | exact fun _ _ => A.sim.refl _
      | exact A.sim.refl _
      | exact Nat.le_refl _
      | omega
      | exact fun _ _ => trivial
      | exact fun i _ => shift_sim _ _ i
      | exact fun _ h => absurd h (Nat.not_lt_zero _)
      | exact fun i _ => isInt_byteAt _ i
      | exact hsl
      | exact hsl.symm
      | exact Nat.le_of_eq hsl
      | exact Nat.le_of_eq hsl.symm
      | exact ⟨rfl, rfl, rfl, rfl⟩
      | exact ⟨rfl, rfl, rfl⟩
      | exact ⟨rfl, rfl⟩
      | exact hsl2
      | exact hsl2.symm
      | exact Nat.le_of_eq hsl2
      | exact Nat.le_of_eq hsl2.symm
      | (show (a : Int) + 20 = ((a + 20 : Nat) : Int); omega)
      | (show ((a + 20 : Nat) : Int) + 20 = ((a + 20 + 20 : Nat) : Int); omega)
      | (show (a : Int) + (s : Int) = ((a + s : Nat) : Int); omega)
      | (show (2 : Int) * (s : Int) = ((2 * s : Nat) : Int); omega)
      | (show (s : Int) * 2 = ((2 * s : Nat) : Int); omega)
      | (show (2 : Int) * (s : Int) = ((0 + 2 * s : Nat) : Int); omega)
      | (show ((a + 2 * s : Nat) : Int) + 2 * (s : Int) = ((a + 2 * s + 2 * s : Nat) : Int); omega)
      | (simp only [allP, List.nil_append, List.append_nil, List.cons_append, List.append_eq, and_true, true_and, inr_i64, inr_u8, inr_u64, min_i64, max_i64, min_u64, max_u64, min_u8, max_u8, A.purePL, A.pureP, A.sureP, A.surePL, Int.toNat_natCast, Int.reduceToNat, addI, cHi, cLo, hiN, loN, subO, addO, hasIdx, cond_true, cond_false]; first | done | omega | ((repeat' apply And.intro) <;> first | exact trivial | rfl | omega | decide))
      )
  clear ih
  have hO := hJ.done (lessN_ord G) hab
  have hsl := HP.sortSeg_len (lt := (lessN G)) e (show a ≤ d.length by omega) (show d.length ≤ e.length by omega)
  have cs := isort_does ks G e a d.length (by omega) (by omega) (by omega)
  repeat' first
    | assumption
    | exact Bool.noConfusion hb
    | exact absurd hb (by decide)
    | (exfalso; omega)
    | (exfalso; simp at hb; done)
    | (refine W.branch rfl (fun hb => ?_) (fun hb => ?_) <;> ((try simp only [decide_eq_true_eq, decide_eq_false_iff_not, Bool.not_eq_true', Bool.not_eq_false', Int.not_lt, Int.not_le, cond_true, cond_false, reduceCtorEq, Int.toNat_natCast, Int.reduceToNat, addI] at hb); (try replace hb := of_decide_eq_true hb); (try replace hb := of_decide_eq_false hb)))
    | (refine D.branch rfl (fun hb => ?_) (fun hb => ?_) <;> ((try simp only [decide_eq_true_eq, decide_eq_false_iff_not, Bool.not_eq_true', Bool.not_eq_false', Int.not_lt, Int.not_le, cond_true, cond_false, reduceCtorEq, Int.toNat_natCast, Int.reduceToNat, addI] at hb); (try replace hb := of_decide_eq_true hb); (try replace hb := of_decide_eq_false hb)))
    | ((first | (refine D.callA (cs) rfl rfl rfl rfl hΓ rfl ?_; (conv => whnf); refine ⟨rfl, rfl, rfl, ?_, ?_, ?_, ?_⟩) | (refine W.callA (cs) rfl rfl rfl rfl hΓ rfl ?_; (conv => whnf); refine ⟨rfl, rfl, ?_, ?_, ?_, ?_⟩)); iterate 3 (focus ((repeat' apply And.intro) <;> first | exact trivial | (intro i _; rw [Nat.zero_add]; exact A.sim.refl _) | with_reducible exact rfl | exact fun _ _ => A.sim.refl _ | exact A.sim.refl _ | exact rfl | exact Nat.le_refl _ | omega | exact fun i _ => shift_sim _ _ i | exact fun _ _ => trivial | exact fun _ h => absurd h (Nat.not_lt_zero _) | exact hsl | exact hsl.symm | exact Nat.le_of_eq hsl | exact Nat.le_of_eq hsl.symm | exact ⟨rfl, rfl, rfl, rfl⟩ | exact ⟨rfl, rfl, rfl⟩ | exact ⟨rfl, rfl⟩ | exact hsl2 | exact hsl2.symm | exact Nat.le_of_eq hsl2 | exact Nat.le_of_eq hsl2.symm | (show (a : Int) + 20 = ((a + 20 : Nat) : Int); omega) | (show ((a + 20 : Nat) : Int) + 20 = ((a + 20 + 20 : Nat) : Int); omega) | (show (a : Int) + (s : Int) = ((a + s : Nat) : Int); omega) | (show (2 : Int) * (s : Int) = ((2 * s : Nat) : Int); omega) | (show (s : Int) * 2 = ((2 * s : Nat) : Int); omega) | (show (2 : Int) * (s : Int) = ((0 + 2 * s : Nat) : Int); omega) | (show ((a + 2 * s : Nat) : Int) + 2 * (s : Int) = ((a + 2 * s + 2 * s : Nat) : Int); omega))); (conv => whnf))
    | (refine W.go TOK 63 hΓ 1000 rfl ?_; (conv => whnf); refine ⟨?_, ?_⟩)
    | (refine D.go TOK 63 hΓ 1000 rfl ?_; (conv => whnf); refine ⟨?_, ?_⟩)
    | (refine W.drawn rfl rfl ?_; refine D.run TOK 63 hΓ 1000 ?_; (conv => whnf); refine ⟨?_, ?_⟩)
  all_goals (repeat' apply And.intro)
  all_goals try (first
    | exact trivial
    | exact rfl
    | exact fun _ _ => A.sim.refl _
    | exact A.sim.refl _
    | exact Nat.le_refl _
    | omega
    | exact fun _ _ => trivial
    | exact fun i _ => shift_sim _ _ i
    | exact fun _ h => absurd h (Nat.not_lt_zero _)
    | exact fun i _ => isInt_byteAt _ i
    | exact hsl
    | exact hsl.symm
    | exact Nat.le_of_eq hsl
    | exact Nat.le_of_eq hsl.symm
    | exact ⟨rfl, rfl, rfl, rfl⟩
    | exact ⟨rfl, rfl, rfl⟩
    | exact ⟨rfl, rfl⟩
    | exact hsl2
    | exact hsl2.symm
    | exact Nat.le_of_eq hsl2
    | exact Nat.le_of_eq hsl2.symm
    | (show (a : Int) + 20 = ((a + 20 : Nat) : Int); omega)
    | (show ((a + 20 : Nat) : Int) + 20 = ((a + 20 + 20 : Nat) : Int); omega)
    | (show (a : Int) + (s : Int) = ((a + s : Nat) : Int); omega)
    | (show (2 : Int) * (s : Int) = ((2 * s : Nat) : Int); omega)
    | (show (s : Int) * 2 = ((2 * s : Nat) : Int); omega)
    | (show (2 : Int) * (s : Int) = ((0 + 2 * s : Nat) : Int); omega)
    | (show ((a + 2 * s : Nat) : Int) + 2 * (s : Int) = ((a + 2 * s + 2 * s : Nat) : Int); omega)
    | (simp only [allP, List.nil_append, List.append_nil, List.cons_append, List.append_eq, and_true, true_and, inr_i64, inr_u8, inr_u64, min_i64, max_i64, min_u64, max_u64, min_u8, max_u8, A.purePL, A.pureP, A.sureP, A.surePL, Int.toNat_natCast, Int.reduceToNat, addI, cHi, cLo, hiN, loN, subO, addO, hasIdx, cond_true, cond_false]; first | done | omega | ((repeat' apply And.intro) <;> first | exact trivial | rfl | omega | decide))
    )
  clear cs
  revert hO hsl
  generalize HP.sortSeg (lessN G) e a d.length = e0
  intro hO hsl
  clear hJ hlo hab
  refine W.cutA [0, 1, 2, 6] [] ?_
  (conv => whnf); refine ⟨?_, ?_⟩; focus ((conv => whnf); refine ⟨rfl, rfl, rfl, rfl, rfl, rfl, ?_, ?_⟩; iterate 2 (focus ((repeat' apply And.intro) <;> first | exact trivial | (intro i _; rw [Nat.zero_add]; exact A.sim.refl _) | with_reducible exact rfl | exact fun _ _ => A.sim.refl _ | exact A.sim.refl _ | exact rfl | exact Nat.le_refl _ | omega | exact fun i _ => shift_sim _ _ i | exact fun _ _ => trivial | exact fun _ h => absurd h (Nat.not_lt_zero _) | exact hsl | exact hsl.symm | exact Nat.le_of_eq hsl | exact Nat.le_of_eq hsl.symm | exact ⟨rfl, rfl, rfl, rfl⟩ | exact ⟨rfl, rfl, rfl⟩ | exact ⟨rfl, rfl⟩ | exact hsl2 | exact hsl2.symm | exact Nat.le_of_eq hsl2 | exact Nat.le_of_eq hsl2.symm | (show (a : Int) + 20 = ((a + 20 : Nat) : Int); omega) | (show ((a + 20 : Nat) : Int) + 20 = ((a + 20 + 20 : Nat) : Int); omega) | (show (a : Int) + (s : Int) = ((a + s : Nat) : Int); omega) | (show (2 : Int) * (s : Int) = ((2 * s : Nat) : Int); omega) | (show (s : Int) * 2 = ((2 * s : Nat) : Int); omega) | (show (2 : Int) * (s : Int) = ((0 + 2 * s : Nat) : Int); omega) | (show ((a + 2 * s : Nat) : Int) + 2 * (s : Int) = ((a + 2 * s + 2 * s : Nat) : Int); omega))))
  refine W.loopA (List (List UInt8) × Nat) (HP.StaO (lessN G) d) (fun x => 20 + 2 * d.length - x.2) (fun x => [(0, .own 1 1003 0 x.1.length), (6, .int .i64 (x.2 : Nat))]) (fun x => [(1003, some (.arr 1 (x.1).length (lsA A.str (x.1))))]) [] ((e0, 20)) (hO) ?_
  (conv => whnf); refine ⟨?_, ?_⟩; focus ((conv => whnf); refine ⟨rfl, rfl, rfl, rfl, rfl, rfl, ?_, ?_⟩; iterate 2 (focus ((repeat' apply And.intro) <;> first | exact trivial | (intro i _; rw [Nat.zero_add]; exact A.sim.refl _) | with_reducible exact rfl | exact fun _ _ => A.sim.refl _ | exact A.sim.refl _ | exact rfl | exact Nat.le_refl _ | omega | exact fun i _ => shift_sim _ _ i | exact fun _ _ => trivial | exact fun _ h => absurd h (Nat.not_lt_zero _) | exact hsl | exact hsl.symm | exact Nat.le_of_eq hsl | exact Nat.le_of_eq hsl.symm | exact ⟨rfl, rfl, rfl, rfl⟩ | exact ⟨rfl, rfl, rfl⟩ | exact ⟨rfl, rfl⟩ | exact hsl2 | exact hsl2.symm | exact Nat.le_of_eq hsl2 | exact Nat.le_of_eq hsl2.symm | (show (a : Int) + 20 = ((a + 20 : Nat) : Int); omega) | (show ((a + 20 : Nat) : Int) + 20 = ((a + 20 + 20 : Nat) : Int); omega) | (show (a : Int) + (s : Int) = ((a + s : Nat) : Int); omega) | (show (2 : Int) * (s : Int) = ((2 * s : Nat) : Int); omega) | (show (s : Int) * 2 = ((2 * s : Nat) : Int); omega) | (show (2 : Int) * (s : Int) = ((0 + 2 * s : Nat) : Int); omega) | (show ((a + 2 * s : Nat) : Int) + 2 * (s : Int) = ((a + 2 * s + 2 * s : Nat) : Int); omega))))
  rintro ⟨e1, s⟩ hO ih
  have hlen1 : e1.length = d.length := hO.len
  have hs0 : 0 < s := hO.pos
  have hs9 : s ≤ 20 + 2 * d.length := hO.hi
  by_cases hsn : s < d.length
  rotate_left
  · have hfin := hO.fin (lessN_ord G) hsn
    rw [← hfin]
    repeat' first
      | assumption
      | exact Bool.noConfusion hb
      | exact absurd hb (by decide)
      | (exfalso; omega)
      | (exfalso; simp at hb; done)
      | (refine W.endA TOK rfl ?_; (conv => whnf); refine ⟨rfl, rfl, rfl, rfl, rfl, rfl, ?_, ?_, ?_⟩)
      | (refine W.branch rfl (fun hb => ?_) (fun hb => ?_) <;> ((try simp only [decide_eq_true_eq, decide_eq_false_iff_not, Bool.not_eq_true', Bool.not_eq_false', Int.not_lt, Int.not_le, cond_true, cond_false, reduceCtorEq, Int.toNat_natCast, Int.reduceToNat, addI] at hb); (try replace hb := of_decide_eq_true hb); (try replace hb := of_decide_eq_false hb)))
      | (refine D.branch rfl (fun hb => ?_) (fun hb => ?_) <;> ((try simp only [decide_eq_true_eq, decide_eq_false_iff_not, Bool.not_eq_true', Bool.not_eq_false', Int.not_lt, Int.not_le, cond_true, cond_false, reduceCtorEq, Int.toNat_natCast, Int.reduceToNat, addI] at hb); (try replace hb := of_decide_eq_true hb); (try replace hb := of_decide_eq_false hb)))
      | (refine W.go TOK 63 hΓ 1000 rfl ?_; (conv => whnf); refine ⟨?_, ?_⟩)
      | (refine D.go TOK 63 hΓ 1000 rfl ?_; (conv => whnf); refine ⟨?_, ?_⟩)
      | (refine W.drawn rfl rfl ?_; refine D.run TOK 63 hΓ 1000 ?_; (conv => whnf); refine ⟨?_, ?_⟩)
    all_goals (repeat' apply And.intro)
    all_goals try (first
      | exact trivial
      | exact rfl
      | exact fun _ _ => A.sim.refl _
      | exact A.sim.refl _
      | exact Nat.le_refl _
      | omega
      | exact fun _ _ => trivial
      | exact fun i _ => shift_sim _ _ i
      | exact fun _ h => absurd h (Nat.not_lt_zero _)
      | exact fun i _ => isInt_byteAt _ i
      | exact hsl
      | exact hsl.symm
      | exact Nat.le_of_eq hsl
      | exact Nat.le_of_eq hsl.symm
      | exact ⟨rfl, rfl, rfl, rfl⟩
      | exact ⟨rfl, rfl, rfl⟩
      | exact ⟨rfl, rfl⟩
      | exact hsl2
      | exact hsl2.symm
      | exact Nat.le_of_eq hsl2
      | exact Nat.le_of_eq hsl2.symm
      | (show (a : Int) + 20 = ((a + 20 : Nat) : Int); omega)
      | (show ((a + 20 : Nat) : Int) + 20 = ((a + 20 + 20 : Nat) : Int); omega)
      | (show (a : Int) + (s : Int) = ((a + s : Nat) : Int); omega)
      | (show (2 : Int) * (s : Int) = ((2 * s : Nat) : Int); omega)
      | (show (s : Int) * 2 = ((2 * s : Nat) : Int); omega)
      | (show (2 : Int) * (s : Int) = ((0 + 2 * s : Nat) : Int); omega)
      | (show ((a + 2 * s : Nat) : Int) + 2 * (s : Int) = ((a + 2 * s + 2 * s : Nat) : Int); omega)
      | exact hlen1
      | exact hlen1.symm
      | (simp only [allP, List.nil_append, List.append_nil, List.cons_append, List.append_eq, and_true, true_and, inr_i64, inr_u8, inr_u64, min_i64, max_i64, min_u64, max_u64, min_u8, max_u8, A.purePL, A.pureP, A.sureP, A.surePL, Int.toNat_natCast, Int.reduceToNat, addI, cHi, cLo, hiN, loN, subO, addO, hasIdx, cond_true, cond_false]; first | done | omega | ((repeat' apply And.intro) <;> first | exact trivial | rfl | omega | decide))
      )
  repeat' first
    | assumption
    | exact Bool.noConfusion hb
    | exact absurd hb (by decide)
    | (exfalso; omega)
    | (exfalso; simp at hb; done)
    | (refine W.branch rfl (fun hb => ?_) (fun hb => ?_) <;> ((try simp only [decide_eq_true_eq, decide_eq_false_iff_not, Bool.not_eq_true', Bool.not_eq_false', Int.not_lt, Int.not_le, cond_true, cond_false, reduceCtorEq, Int.toNat_natCast, Int.reduceToNat, addI] at hb); (try replace hb := of_decide_eq_true hb); (try replace hb := of_decide_eq_false hb)))
    | (refine D.branch rfl (fun hb => ?_) (fun hb => ?_) <;> ((try simp only [decide_eq_true_eq, decide_eq_false_iff_not, Bool.not_eq_true', Bool.not_eq_false', Int.not_lt, Int.not_le, cond_true, cond_false, reduceCtorEq, Int.toNat_natCast, Int.reduceToNat, addI] at hb); (try replace hb := of_decide_eq_true hb); (try replace hb := of_decide_eq_false hb)))
    | (refine W.go TOK 63 hΓ 1000 rfl ?_; (conv => whnf); refine ⟨?_, ?_⟩)
    | (refine D.go TOK 63 hΓ 1000 rfl ?_; (conv => whnf); refine ⟨?_, ?_⟩)
    | (refine W.drawn rfl rfl ?_; refine D.run TOK 63 hΓ 1000 ?_; (conv => whnf); refine ⟨?_, ?_⟩)
  all_goals (repeat' apply And.intro)
  all_goals try (first
    | exact trivial
    | exact rfl
    | exact fun _ _ => A.sim.refl _
    | exact A.sim.refl _
    | exact Nat.le_refl _
    | omega
    | exact fun _ _ => trivial
    | exact fun i _ => shift_sim _ _ i
    | exact fun _ h => absurd h (Nat.not_lt_zero _)
    | exact fun i _ => isInt_byteAt _ i
    | exact hsl
    | exact hsl.symm
    | exact Nat.le_of_eq hsl
    | exact Nat.le_of_eq hsl.symm
    | exact ⟨rfl, rfl, rfl, rfl⟩
    | exact ⟨rfl, rfl, rfl⟩
    | exact ⟨rfl, rfl⟩
    | exact hsl2
    | exact hsl2.symm
    | exact Nat.le_of_eq hsl2
    | exact Nat.le_of_eq hsl2.symm
    | (show (a : Int) + 20 = ((a + 20 : Nat) : Int); omega)
    | (show ((a + 20 : Nat) : Int) + 20 = ((a + 20 + 20 : Nat) : Int); omega)
    | (show (a : Int) + (s : Int) = ((a + s : Nat) : Int); omega)
    | (show (2 : Int) * (s : Int) = ((2 * s : Nat) : Int); omega)
    | (show (s : Int) * 2 = ((2 * s : Nat) : Int); omega)
    | (show (2 : Int) * (s : Int) = ((0 + 2 * s : Nat) : Int); omega)
    | (show ((a + 2 * s : Nat) : Int) + 2 * (s : Int) = ((a + 2 * s + 2 * s : Nat) : Int); omega)
    | (simp only [allP, List.nil_append, List.append_nil, List.cons_append, List.append_eq, and_true, true_and, inr_i64, inr_u8, inr_u64, min_i64, max_i64, min_u64, max_u64, min_u8, max_u8, A.purePL, A.pureP, A.sureP, A.surePL, Int.toNat_natCast, Int.reduceToNat, addI, cHi, cLo, hiN, loN, subO, addO, hasIdx, cond_true, cond_false]; first | done | omega | ((repeat' apply And.intro) <;> first | exact trivial | rfl | omega | decide))
    )
  refine W.loopA (List (List UInt8) × Nat) (HP.StaP (lessN G) d s) (fun x => d.length - x.2) (fun x => [(0, .own 1 1003 0 x.1.length), (7, .int .i64 (x.2 : Nat)), (8, .int .i64 ((x.2 + 2 * s : Nat) : Int))]) (fun x => [(1003, some (.arr 1 (x.1).length (lsA A.str (x.1))))]) [] ((e1, 0)) (hO.start) ?_
  (conv => whnf); refine ⟨?_, ?_⟩; focus ((conv => whnf); refine ⟨rfl, rfl, rfl, rfl, rfl, rfl, ?_, ?_⟩; iterate 2 (focus ((repeat' apply And.intro) <;> first | exact trivial | (intro i _; rw [Nat.zero_add]; exact A.sim.refl _) | with_reducible exact rfl | exact fun _ _ => A.sim.refl _ | exact A.sim.refl _ | exact rfl | exact Nat.le_refl _ | omega | exact fun i _ => shift_sim _ _ i | exact fun _ _ => trivial | exact fun _ h => absurd h (Nat.not_lt_zero _) | exact hsl | exact hsl.symm | exact Nat.le_of_eq hsl | exact Nat.le_of_eq hsl.symm | exact ⟨rfl, rfl, rfl, rfl⟩ | exact ⟨rfl, rfl, rfl⟩ | exact ⟨rfl, rfl⟩ | exact hsl2 | exact hsl2.symm | exact Nat.le_of_eq hsl2 | exact Nat.le_of_eq hsl2.symm | (show (a : Int) + 20 = ((a + 20 : Nat) : Int); omega) | (show ((a + 20 : Nat) : Int) + 20 = ((a + 20 + 20 : Nat) : Int); omega) | (show (a : Int) + (s : Int) = ((a + s : Nat) : Int); omega) | (show (2 : Int) * (s : Int) = ((2 * s : Nat) : Int); omega) | (show (s : Int) * 2 = ((2 * s : Nat) : Int); omega) | (show (2 : Int) * (s : Int) = ((0 + 2 * s : Nat) : Int); omega) | (show ((a + 2 * s : Nat) : Int) + 2 * (s : Int) = ((a + 2 * s + 2 * s : Nat) : Int); omega))))
  rintro ⟨e2, a⟩ hP ih3
  have hlen2 : e2.length = d.length := hP.len
  have hlo2 : a ≤ d.length := hP.lo
  by_cases hab : a + 2 * s ≤ d.length
  · have hsl := HP.sortSeg_len (lt := (lessN G)) e2 (show a ≤ a + 2 * s by omega) (show a + 2 * s ≤ e2.length by omega)
    have hh := hP.halves hab
    have cs := merge_does ks G _ e2 a (a + s) (a + 2 * s) rfl (by omega) (by omega) (by omega) (by omega) hh.1 hh.2
    have ih4 := ih3 (HP.sortSeg (lessN G) e2 a (a + 2 * s), a + 2 * s) (hP.step (lessN_ord G) hab) (by simp only; omega)
    repeat' first
      | assumption
      | exact Bool.noConfusion hb
      | exact absurd hb (by decide)
      | (exfalso; omega)
      | (exfalso; simp at hb; done)
      | (refine W.toA (ih4) ?_; rotate_left 0; (conv => whnf); refine ⟨rfl, rfl, rfl, rfl, rfl, rfl, ?_, ?_⟩; iterate 2 (focus ((repeat' apply And.intro) <;> first | exact trivial | (intro i _; rw [Nat.zero_add]; exact A.sim.refl _) | with_reducible exact rfl | exact fun _ _ => A.sim.refl _ | exact A.sim.refl _ | exact rfl | exact Nat.le_refl _ | omega | exact fun i _ => shift_sim _ _ i | exact fun _ _ => trivial | exact fun _ h => absurd h (Nat.not_lt_zero _) | exact hsl | exact hsl.symm | exact Nat.le_of_eq hsl | exact Nat.le_of_eq hsl.symm | exact ⟨rfl, rfl, rfl, rfl⟩ | exact ⟨rfl, rfl, rfl⟩ | exact ⟨rfl, rfl⟩ | exact hsl2 | exact hsl2.symm | exact Nat.le_of_eq hsl2 | exact Nat.le_of_eq hsl2.symm | (show (a : Int) + 20 = ((a + 20 : Nat) : Int); omega) | (show ((a + 20 : Nat) : Int) + 20 = ((a + 20 + 20 : Nat) : Int); omega) | (show (a : Int) + (s : Int) = ((a + s : Nat) : Int); omega) | (show (2 : Int) * (s : Int) = ((2 * s : Nat) : Int); omega) | (show (s : Int) * 2 = ((2 * s : Nat) : Int); omega) | (show (2 : Int) * (s : Int) = ((0 + 2 * s : Nat) : Int); omega) | (show ((a + 2 * s : Nat) : Int) + 2 * (s : Int) = ((a + 2 * s + 2 * s : Nat) : Int); omega))))
      | (refine W.branch rfl (fun hb => ?_) (fun hb => ?_) <;> ((try simp only [decide_eq_true_eq, decide_eq_false_iff_not, Bool.not_eq_true', Bool.not_eq_false', Int.not_lt, Int.not_le, cond_true, cond_false, reduceCtorEq, Int.toNat_natCast, Int.reduceToNat, addI] at hb); (try replace hb := of_decide_eq_true hb); (try replace hb := of_decide_eq_false hb)))
      | (refine D.branch rfl (fun hb => ?_) (fun hb => ?_) <;> ((try simp only [decide_eq_true_eq, decide_eq_false_iff_not, Bool.not_eq_true', Bool.not_eq_false', Int.not_lt, Int.not_le, cond_true, cond_false, reduceCtorEq, Int.toNat_natCast, Int.reduceToNat, addI] at hb); (try replace hb := of_decide_eq_true hb); (try replace hb := of_decide_eq_false hb)))
      | ((first | (refine D.callA (cs) rfl rfl rfl rfl hΓ rfl ?_; (conv => whnf); refine ⟨rfl, rfl, rfl, ?_, ?_, ?_, ?_⟩) | (refine W.callA (cs) rfl rfl rfl rfl hΓ rfl ?_; (conv => whnf); refine ⟨rfl, rfl, ?_, ?_, ?_, ?_⟩)); iterate 3 (focus ((repeat' apply And.intro) <;> first | exact trivial | (intro i _; rw [Nat.zero_add]; exact A.sim.refl _) | with_reducible exact rfl | exact fun _ _ => A.sim.refl _ | exact A.sim.refl _ | exact rfl | exact Nat.le_refl _ | omega | exact fun i _ => shift_sim _ _ i | exact fun _ _ => trivial | exact fun _ h => absurd h (Nat.not_lt_zero _) | exact hsl | exact hsl.symm | exact Nat.le_of_eq hsl | exact Nat.le_of_eq hsl.symm | exact ⟨rfl, rfl, rfl, rfl⟩ | exact ⟨rfl, rfl, rfl⟩ | exact ⟨rfl, rfl⟩ | exact hsl2 | exact hsl2.symm | exact Nat.le_of_eq hsl2 | exact Nat.le_of_eq hsl2.symm | (show (a : Int) + 20 = ((a + 20 : Nat) : Int); omega) | (show ((a + 20 : Nat) : Int) + 20 = ((a + 20 + 20 : Nat) : Int); omega) | (show (a : Int) + (s : Int) = ((a + s : Nat) : Int); omega) | (show (2 : Int) * (s : Int) = ((2 * s : Nat) : Int); omega) | (show (s : Int) * 2 = ((2 * s : Nat) : Int); omega) | (show (2 : Int) * (s : Int) = ((0 + 2 * s : Nat) : Int); omega) | (show ((a + 2 * s : Nat) : Int) + 2 * (s : Int) = ((a + 2 * s + 2 * s : Nat) : Int); omega))); (conv => whnf))
      | (refine W.go TOK 63 hΓ 1000 rfl ?_; (conv => whnf); refine ⟨?_, ?_⟩)
      | (refine D.go TOK 63 hΓ 1000 rfl ?_; (conv => whnf); refine ⟨?_, ?_⟩)
      | (refine W.drawn rfl rfl ?_; refine D.run TOK 63 hΓ 1000 ?_; (conv => whnf); refine ⟨?_, ?_⟩)
    all_goals (repeat' apply And.intro)
    all_goals try (first
      | exact trivial
      | exact rfl
      | exact fun _ _ => A.sim.refl _
      | exact A.sim.refl _
      | exact Nat.le_refl _
      | omega
      | exact fun _ _ => trivial
      | exact fun i _ => shift_sim _ _ i
      | exact fun _ h => absurd h (Nat.not_lt_zero _)
      | exact fun i _ => isInt_byteAt _ i
      | exact hsl
      | exact hsl.symm
      | exact Nat.le_of_eq hsl
      | exact Nat.le_of_eq hsl.symm
      | exact ⟨rfl, rfl, rfl, rfl⟩
      | exact ⟨rfl, rfl, rfl⟩
      | exact ⟨rfl, rfl⟩
      | exact hsl2
      | exact hsl2.symm
      | exact Nat.le_of_eq hsl2
      | exact Nat.le_of_eq hsl2.symm
      | (show (a : Int) + 20 = ((a + 20 : Nat) : Int); omega)
      | (show ((a + 20 : Nat) : Int) + 20 = ((a + 20 + 20 : Nat) : Int); omega)
      | (show (a : Int) + (s : Int) = ((a + s : Nat) : Int); omega)
      | (show (2 : Int) * (s : Int) = ((2 * s : Nat) : Int); omega)
      | (show (s : Int) * 2 = ((2 * s : Nat) : Int); omega)
      | (show (2 : Int) * (s : Int) = ((0 + 2 * s : Nat) : Int); omega)
      | (show ((a + 2 * s : Nat) : Int) + 2 * (s : Int) = ((a + 2 * s + 2 * s : Nat) : Int); omega)
      | (simp only [allP, List.nil_append, List.append_nil, List.cons_append, List.append_eq, and_true, true_and, inr_i64, inr_u8, inr_u64, min_i64, max_i64, min_u64, max_u64, min_u8, max_u8, A.purePL, A.pureP, A.sureP, A.surePL, Int.toNat_natCast, Int.reduceToNat, addI, cHi, cLo, hiN, loN, subO, addO, hasIdx, cond_true, cond_false]; first | done | omega | ((repeat' apply And.intro) <;> first | exact trivial | rfl | omega | decide))
      )
  clear ih3
  by_cases has : a + s < d.length
  · have hsl := HP.sortSeg_len (lt := (lessN G)) e2 (show a ≤ d.length by omega) (show d.length ≤ e2.length by omega)
    have hh := hP.rest hab has
    have cs := merge_does ks G _ e2 a (a + s) d.length rfl (by omega) (by omega) (by omega) (by omega) hh.1 hh.2
    have ih2 := ih (HP.sortSeg (lessN G) e2 a d.length, 2 * s) (hP.last (lessN_ord G) hs0 hsn hab) (by simp only; omega)
    repeat' first
      | assumption
      | exact Bool.noConfusion hb
      | exact absurd hb (by decide)
      | (exfalso; omega)
      | (exfalso; simp at hb; done)
      | (refine W.toA (ih2) ?_; rotate_left 0; (conv => whnf); refine ⟨rfl, rfl, rfl, rfl, rfl, rfl, ?_, ?_⟩; iterate 2 (focus ((repeat' apply And.intro) <;> first | exact trivial | (intro i _; rw [Nat.zero_add]; exact A.sim.refl _) | with_reducible exact rfl | exact fun _ _ => A.sim.refl _ | exact A.sim.refl _ | exact rfl | exact Nat.le_refl _ | omega | exact fun i _ => shift_sim _ _ i | exact fun _ _ => trivial | exact fun _ h => absurd h (Nat.not_lt_zero _) | exact hsl | exact hsl.symm | exact Nat.le_of_eq hsl | exact Nat.le_of_eq hsl.symm | exact ⟨rfl, rfl, rfl, rfl⟩ | exact ⟨rfl, rfl, rfl⟩ | exact ⟨rfl, rfl⟩ | exact hsl2 | exact hsl2.symm | exact Nat.le_of_eq hsl2 | exact Nat.le_of_eq hsl2.symm | (show (a : Int) + 20 = ((a + 20 : Nat) : Int); omega) | (show ((a + 20 : Nat) : Int) + 20 = ((a + 20 + 20 : Nat) : Int); omega) | (show (a : Int) + (s : Int) = ((a + s : Nat) : Int); omega) | (show (2 : Int) * (s : Int) = ((2 * s : Nat) : Int); omega) | (show (s : Int) * 2 = ((2 * s : Nat) : Int); omega) | (show (2 : Int) * (s : Int) = ((0 + 2 * s : Nat) : Int); omega) | (show ((a + 2 * s : Nat) : Int) + 2 * (s : Int) = ((a + 2 * s + 2 * s : Nat) : Int); omega))))
      | (refine W.branch rfl (fun hb => ?_) (fun hb => ?_) <;> ((try simp only [decide_eq_true_eq, decide_eq_false_iff_not, Bool.not_eq_true', Bool.not_eq_false', Int.not_lt, Int.not_le, cond_true, cond_false, reduceCtorEq, Int.toNat_natCast, Int.reduceToNat, addI] at hb); (try replace hb := of_decide_eq_true hb); (try replace hb := of_decide_eq_false hb)))
      | (refine D.branch rfl (fun hb => ?_) (fun hb => ?_) <;> ((try simp only [decide_eq_true_eq, decide_eq_false_iff_not, Bool.not_eq_true', Bool.not_eq_false', Int.not_lt, Int.not_le, cond_true, cond_false, reduceCtorEq, Int.toNat_natCast, Int.reduceToNat, addI] at hb); (try replace hb := of_decide_eq_true hb); (try replace hb := of_decide_eq_false hb)))
      | ((first | (refine D.callA (cs) rfl rfl rfl rfl hΓ rfl ?_; (conv => whnf); refine ⟨rfl, rfl, rfl, ?_, ?_, ?_, ?_⟩) | (refine W.callA (cs) rfl rfl rfl rfl hΓ rfl ?_; (conv => whnf); refine ⟨rfl, rfl, ?_, ?_, ?_, ?_⟩)); iterate 3 (focus ((repeat' apply And.intro) <;> first | exact trivial | (intro i _; rw [Nat.zero_add]; exact A.sim.refl _) | with_reducible exact rfl | exact fun _ _ => A.sim.refl _ | exact A.sim.refl _ | exact rfl | exact Nat.le_refl _ | omega | exact fun i _ => shift_sim _ _ i | exact fun _ _ => trivial | exact fun _ h => absurd h (Nat.not_lt_zero _) | exact hsl | exact hsl.symm | exact Nat.le_of_eq hsl | exact Nat.le_of_eq hsl.symm | exact ⟨rfl, rfl, rfl, rfl⟩ | exact ⟨rfl, rfl, rfl⟩ | exact ⟨rfl, rfl⟩ | exact hsl2 | exact hsl2.symm | exact Nat.le_of_eq hsl2 | exact Nat.le_of_eq hsl2.symm | (show (a : Int) + 20 = ((a + 20 : Nat) : Int); omega) | (show ((a + 20 : Nat) : Int) + 20 = ((a + 20 + 20 : Nat) : Int); omega) | (show (a : Int) + (s : Int) = ((a + s : Nat) : Int); omega) | (show (2 : Int) * (s : Int) = ((2 * s : Nat) : Int); omega) | (show (s : Int) * 2 = ((2 * s : Nat) : Int); omega) | (show (2 : Int) * (s : Int) = ((0 + 2 * s : Nat) : Int); omega) | (show ((a + 2 * s : Nat) : Int) + 2 * (s : Int) = ((a + 2 * s + 2 * s : Nat) : Int); omega))); (conv => whnf))
      | (refine W.go TOK 63 hΓ 1000 rfl ?_; (conv => whnf); refine ⟨?_, ?_⟩)
      | (refine D.go TOK 63 hΓ 1000 rfl ?_; (conv => whnf); refine ⟨?_, ?_⟩)
      | (refine W.drawn rfl rfl ?_; refine D.run TOK 63 hΓ 1000 ?_; (conv => whnf); refine ⟨?_, ?_⟩)
    all_goals (repeat' apply And.intro)
    all_goals try (first
      | exact trivial
      | exact rfl
      | exact fun _ _ => A.sim.refl _
      | exact A.sim.refl _
      | exact Nat.le_refl _
      | omega
      | exact fun _ _ => trivial
      | exact fun i _ => shift_sim _ _ i
      | exact fun _ h => absurd h (Nat.not_lt_zero _)
      | exact fun i _ => isInt_byteAt _ i
      | exact hsl
      | exact hsl.symm
      | exact Nat.le_of_eq hsl
      | exact Nat.le_of_eq hsl.symm
      | exact ⟨rfl, rfl, rfl, rfl⟩
      | exact ⟨rfl, rfl, rfl⟩
      | exact ⟨rfl, rfl⟩
      | exact hsl2
      | exact hsl2.symm
      | exact Nat.le_of_eq hsl2
      | exact Nat.le_of_eq hsl2.symm
      | (show (a : Int) + 20 = ((a + 20 : Nat) : Int); omega)
      | (show ((a + 20 : Nat) : Int) + 20 = ((a + 20 + 20 : Nat) : Int); omega)
      | (show (a : Int) + (s : Int) = ((a + s : Nat) : Int); omega)
      | (show (2 : Int) * (s : Int) = ((2 * s : Nat) : Int); omega)
      | (show (s : Int) * 2 = ((2 * s : Nat) : Int); omega)
      | (show (2 : Int) * (s : Int) = ((0 + 2 * s : Nat) : Int); omega)
      | (show ((a + 2 * s : Nat) : Int) + 2 * (s : Int) = ((a + 2 * s + 2 * s : Nat) : Int); omega)
      | (simp only [allP, List.nil_append, List.append_nil, List.cons_append, List.append_eq, and_true, true_and, inr_i64, inr_u8, inr_u64, min_i64, max_i64, min_u64, max_u64, min_u8, max_u8, A.purePL, A.pureP, A.sureP, A.surePL, Int.toNat_natCast, Int.reduceToNat, addI, cHi, cLo, hiN, loN, subO, addO, hasIdx, cond_true, cond_false]; first | done | omega | ((repeat' apply And.intro) <;> first | exact trivial | rfl | omega | decide))
      )
  · have ih2 := ih (e2, 2 * s) (hP.idle hs0 hsn hab has) (by simp only; omega)
    repeat' first
      | assumption
      | exact Bool.noConfusion hb
      | exact absurd hb (by decide)
      | (exfalso; omega)
      | (exfalso; simp at hb; done)
      | (refine W.toA (ih2) ?_; rotate_left 0; (conv => whnf); refine ⟨rfl, rfl, rfl, rfl, rfl, rfl, ?_, ?_⟩; iterate 2 (focus ((repeat' apply And.intro) <;> first | exact trivial | (intro i _; rw [Nat.zero_add]; exact A.sim.refl _) | with_reducible exact rfl | exact fun _ _ => A.sim.refl _ | exact A.sim.refl _ | exact rfl | exact Nat.le_refl _ | omega | exact fun i _ => shift_sim _ _ i | exact fun _ _ => trivial | exact fun _ h => absurd h (Nat.not_lt_zero _) | exact hsl | exact hsl.symm | exact Nat.le_of_eq hsl | exact Nat.le_of_eq hsl.symm | exact ⟨rfl, rfl, rfl, rfl⟩ | exact ⟨rfl, rfl, rfl⟩ | exact ⟨rfl, rfl⟩ | exact hsl2 | exact hsl2.symm | exact Nat.le_of_eq hsl2 | exact Nat.le_of_eq hsl2.symm | (show (a : Int) + 20 = ((a + 20 : Nat) : Int); omega) | (show ((a + 20 : Nat) : Int) + 20 = ((a + 20 + 20 : Nat) : Int); omega) | (show (a : Int) + (s : Int) = ((a + s : Nat) : Int); omega) | (show (2 : Int) * (s : Int) = ((2 * s : Nat) : Int); omega) | (show (s : Int) * 2 = ((2 * s : Nat) : Int); omega) | (show (2 : Int) * (s : Int) = ((0 + 2 * s : Nat) : Int); omega) | (show ((a + 2 * s : Nat) : Int) + 2 * (s : Int) = ((a + 2 * s + 2 * s : Nat) : Int); omega))))
      | (refine W.branch rfl (fun hb => ?_) (fun hb => ?_) <;> ((try simp only [decide_eq_true_eq, decide_eq_false_iff_not, Bool.not_eq_true', Bool.not_eq_false', Int.not_lt, Int.not_le, cond_true, cond_false, reduceCtorEq, Int.toNat_natCast, Int.reduceToNat, addI] at hb); (try replace hb := of_decide_eq_true hb); (try replace hb := of_decide_eq_false hb)))
      | (refine D.branch rfl (fun hb => ?_) (fun hb => ?_) <;> ((try simp only [decide_eq_true_eq, decide_eq_false_iff_not, Bool.not_eq_true', Bool.not_eq_false', Int.not_lt, Int.not_le, cond_true, cond_false, reduceCtorEq, Int.toNat_natCast, Int.reduceToNat, addI] at hb); (try replace hb := of_decide_eq_true hb); (try replace hb := of_decide_eq_false hb)))
      | (refine W.go TOK 63 hΓ 1000 rfl ?_; (conv => whnf); refine ⟨?_, ?_⟩)
      | (refine D.go TOK 63 hΓ 1000 rfl ?_; (conv => whnf); refine ⟨?_, ?_⟩)
      | (refine W.drawn rfl rfl ?_; refine D.run TOK 63 hΓ 1000 ?_; (conv => whnf); refine ⟨?_, ?_⟩)
    all_goals (repeat' apply And.intro)
    all_goals try (first
      | exact trivial
      | exact rfl
      | exact fun _ _ => A.sim.refl _
      | exact A.sim.refl _
      | exact Nat.le_refl _
      | omega
      | exact fun _ _ => trivial
      | exact fun i _ => shift_sim _ _ i
      | exact fun _ h => absurd h (Nat.not_lt_zero _)
      | exact fun i _ => isInt_byteAt _ i
      | exact hsl
      | exact hsl.symm
      | exact Nat.le_of_eq hsl
      | exact Nat.le_of_eq hsl.symm
      | exact ⟨rfl, rfl, rfl, rfl⟩
      | exact ⟨rfl, rfl, rfl⟩
      | exact ⟨rfl, rfl⟩
      | exact hsl2
      | exact hsl2.symm
      | exact Nat.le_of_eq hsl2
      | exact Nat.le_of_eq hsl2.symm
      | (show (a : Int) + 20 = ((a + 20 : Nat) : Int); omega)
      | (show ((a + 20 : Nat) : Int) + 20 = ((a + 20 + 20 : Nat) : Int); omega)
      | (show (a : Int) + (s : Int) = ((a + s : Nat) : Int); omega)
      | (show (2 : Int) * (s : Int) = ((2 * s : Nat) : Int); omega)
      | (show (s : Int) * 2 = ((2 * s : Nat) : Int); omega)
      | (show (2 : Int) * (s : Int) = ((0 + 2 * s : Nat) : Int); omega)
      | (show ((a + 2 * s : Nat) : Int) + 2 * (s : Int) = ((a + 2 * s + 2 * s : Nat) : Int); omega)
      | (simp only [allP, List.nil_append, List.append_nil, List.cons_append, List.append_eq, and_true, true_and, inr_i64, inr_u8, inr_u64, min_i64, max_i64, min_u64, max_u64, min_u8, max_u8, A.purePL, A.pureP, A.sureP, A.surePL, Int.toNat_natCast, Int.reduceToNat, addI, cHi, cLo, hiN, loN, subO, addO, hasIdx, cond_true, cond_false]; first | done | omega | ((repeat' apply And.intro) <;> first | exact trivial | rfl | omega | decide))
      )
theorem sortst_does (ks : List (List UInt8)) (G : List UInt8 → Int) (d : List (List UInt8)) (h9 : d.length ≤ 1000000) : Does Try.prog 15 [.own 1 1003 0 (d).length, .func (.func 16) [] [.ptr 1002 []]] ((1003, some (.arr 1 (d).length (lsA A.str (d)))) :: [(1000, some (.var (.agg [.map 1001]))), (1001, some (.smap (.int .i64 0) ks (fairM G))), (1002, some (.var (.func (.func 9) [.ptr 1000 []] [])))]) [] (Is (.tup []) ((1003, some (.arr 1 (HP.srt (lessN G) d).length (lsA A.str (HP.srt (lessN G) d)))) :: [(1000, some (.var (.agg [.map 1001]))), (1001, some (.smap (.int .i64 0) ks (fairM G))), (1002, some (.var (.func (.func 9) [.ptr 1000 []] [])))])) := by
  have cs := stab_does ks G d h9
  have hsl := HP.srt_len (lt := (lessN G)) d
  refine Does.intro (fn := Try.f15) Try.func15 rfl rfl fun Γ hΓ => ?_
  refine W.run TOK 9 hΓ 1000 ?_
  conv => whnf
  refine ⟨?_, ?_⟩
  repeat' first
    | assumption
    | exact Bool.noConfusion hb
    | exact absurd hb (by decide)
    | (exfalso; omega)
    | (exfalso; simp at hb; done)
    | (refine W.endA TOK rfl ?_; (conv => whnf); refine ⟨rfl, rfl, rfl, rfl, rfl, rfl, ?_, ?_, ?_⟩)
    | (refine W.branch rfl (fun hb => ?_) (fun hb => ?_) <;> ((try simp only [decide_eq_true_eq, decide_eq_false_iff_not, Bool.not_eq_true', Bool.not_eq_false', Int.not_lt, Int.not_le, cond_true, cond_false, reduceCtorEq, Int.toNat_natCast, Int.reduceToNat, addI] at hb); (try replace hb := of_decide_eq_true hb); (try replace hb := of_decide_eq_false hb)))
    | (refine D.branch rfl (fun hb => ?_) (fun hb => ?_) <;> ((try simp only [decide_eq_true_eq, decide_eq_false_iff_not, Bool.not_eq_true', Bool.not_eq_false', Int.not_lt, Int.not_le, cond_true, cond_false, reduceCtorEq, Int.toNat_natCast, Int.reduceToNat, addI] at hb); (try replace hb := of_decide_eq_true hb); (try replace hb := of_decide_eq_false hb)))
    | ((first | (refine D.callA (cs) rfl rfl rfl rfl hΓ rfl ?_; (conv => whnf); refine ⟨rfl, rfl, rfl, ?_, ?_, ?_, ?_⟩) | (refine W.callA (cs) rfl rfl rfl rfl hΓ rfl ?_; (conv => whnf); refine ⟨rfl, rfl, ?_, ?_, ?_, ?_⟩)); iterate 3 (focus ((repeat' apply And.intro) <;> first | exact trivial | (intro i _; rw [Nat.zero_add]; exact A.sim.refl _) | with_reducible exact rfl | exact fun _ _ => A.sim.refl _ | exact A.sim.refl _ | exact rfl | exact Nat.le_refl _ | omega | exact fun i _ => shift_sim _ _ i | exact fun _ _ => trivial | exact fun _ h => absurd h (Nat.not_lt_zero _) | exact hsl | exact hsl.symm | exact Nat.le_of_eq hsl | exact Nat.le_of_eq hsl.symm | exact ⟨rfl, rfl, rfl, rfl⟩ | exact ⟨rfl, rfl, rfl⟩ | exact ⟨rfl, rfl⟩ | exact hsl2 | exact hsl2.symm | exact Nat.le_of_eq hsl2 | exact Nat.le_of_eq hsl2.symm | (show (a : Int) + 20 = ((a + 20 : Nat) : Int); omega) | (show ((a + 20 : Nat) : Int) + 20 = ((a + 20 + 20 : Nat) : Int); omega) | (show (a : Int) + (s : Int) = ((a + s : Nat) : Int); omega) | (show (2 : Int) * (s : Int) = ((2 * s : Nat) : Int); omega) | (show (s : Int) * 2 = ((2 * s : Nat) : Int); omega) | (show (2 : Int) * (s : Int) = ((0 + 2 * s : Nat) : Int); omega) | (show ((a + 2 * s : Nat) : Int) + 2 * (s : Int) = ((a + 2 * s + 2 * s : Nat) : Int); omega))); (conv => whnf))
    | (refine W.go TOK 9 hΓ 1000 rfl ?_; (conv => whnf); refine ⟨?_, ?_⟩)
    | (refine D.go TOK 9 hΓ 1000 rfl ?_; (conv => whnf); refine ⟨?_, ?_⟩)
    | (refine W.drawn rfl rfl ?_; refine D.run TOK 9 hΓ 1000 ?_; (conv => whnf); refine ⟨?_, ?_⟩)
  all_goals (repeat' apply And.intro)
  all_goals try (first
    | exact trivial
    | exact rfl
    | exact fun _ _ => A.sim.refl _
    | exact A.sim.refl _
    | exact Nat.le_refl _
    | omega
    | exact fun _ _ => trivial
    | exact fun i _ => shift_sim _ _ i
    | exact fun _ h => absurd h (Nat.not_lt_zero _)
    | exact fun i _ => isInt_byteAt _ i
    | exact hsl
    | exact hsl.symm
    | exact Nat.le_of_eq hsl
    | exact Nat.le_of_eq hsl.symm
    | exact ⟨rfl, rfl, rfl, rfl⟩
    | exact ⟨rfl, rfl, rfl⟩
    | exact ⟨rfl, rfl⟩
    | exact hsl2
    | exact hsl2.symm
    | exact Nat.le_of_eq hsl2
    | exact Nat.le_of_eq hsl2.symm
    | (show (a : Int) + 20 = ((a + 20 : Nat) : Int); omega)
    | (show ((a + 20 : Nat) : Int) + 20 = ((a + 20 + 20 : Nat) : Int); omega)
    | (show (a : Int) + (s : Int) = ((a + s : Nat) : Int); omega)
    | (show (2 : Int) * (s : Int) = ((2 * s : Nat) : Int); omega)
    | (show (s : Int) * 2 = ((2 * s : Nat) : Int); omega)
    | (show (2 : Int) * (s : Int) = ((0 + 2 * s : Nat) : Int); omega)
    | (show ((a + 2 * s : Nat) : Int) + 2 * (s : Int) = ((a + 2 * s + 2 * s : Nat) : Int); omega)
    | (simp only [allP, List.nil_append, List.append_nil, List.cons_append, List.append_eq, and_true, true_and, inr_i64, inr_u8, inr_u64, min_i64, max_i64, min_u64, max_u64, min_u8, max_u8, A.purePL, A.pureP, A.sureP, A.surePL, Int.toNat_natCast, Int.reduceToNat, addI, cHi, cLo, hiN, loN, subO, addO, hasIdx, cond_true, cond_false]; first | done | omega | ((repeat' apply And.intro) <;> first | exact trivial | rfl | omega | decide))
    )

theorem clone_does (n : Nat) (g : Nat → A) (h : n ≤ 1000000000) : Does Try.prog 14 [.ro 1 n g] [] [1] (Is (.own 1 1 0 n) [(1, some (.arr 1 n g))]) := by
  refine Does.intro (fn := Try.f14) Try.func14 rfl rfl fun Γ hΓ => ?_
  refine W.run TOK 8 hΓ 1000 ?_
  conv => whnf
  refine ⟨trivial, ?_⟩
  refine W.isNil TOK (nt := 8) hΓ rfl rfl rfl rfl (fun b hb0 => ?_)
  cases b with
  | true =>
    have h0 := hb0 rfl
    subst h0
    clear hb0
    repeat' first
      | assumption
      | exact Bool.noConfusion hb
      | exact absurd hb (by decide)
      | exact Bool.noConfusion hb
      | exact absurd rfl hb
      | (exfalso; simp at hb; done)
      | (refine W.retA TOK rfl ?_; (conv => whnf); refine ⟨rfl, rfl, rfl, rfl, rfl, rfl, ?_, ?_, ?_⟩)
      | (refine W.branch rfl (fun hb => ?_) (fun hb => ?_) <;> ((try simp only [decide_eq_true_eq, decide_eq_false_iff_not, Bool.not_eq_true', Bool.not_eq_false', Int.not_lt, Int.not_le, cond_true, cond_false, reduceCtorEq, Int.toNat_natCast, Int.reduceToNat, addI] at hb); (try replace hb := of_decide_eq_true hb); (try replace hb := of_decide_eq_false hb)))
      | (refine D.branch rfl (fun hb => ?_) (fun hb => ?_) <;> ((try simp only [decide_eq_true_eq, decide_eq_false_iff_not, Bool.not_eq_true', Bool.not_eq_false', Int.not_lt, Int.not_le, cond_true, cond_false, reduceCtorEq, Int.toNat_natCast, Int.reduceToNat, addI] at hb); (try replace hb := of_decide_eq_true hb); (try replace hb := of_decide_eq_false hb)))
      | (refine W.go TOK 8 hΓ 1000 rfl ?_; (conv => whnf); refine ⟨?_, ?_⟩)
      | (refine D.go TOK 8 hΓ 1000 rfl ?_; (conv => whnf); refine ⟨?_, ?_⟩)
      | (refine W.drawn rfl rfl ?_; refine D.run TOK 8 hΓ 1000 ?_; (conv => whnf); refine ⟨?_, ?_⟩)
    all_goals (repeat' apply And.intro)
    all_goals try (first
      | exact trivial
      | exact rfl
      | exact fun _ _ => A.sim.refl _
      | exact A.sim.refl _
      | exact Nat.le_refl _
      | omega
      | exact fun _ _ => trivial
      | exact fun i _ => shift_sim _ _ i
      | exact fun _ h => absurd h (Nat.not_lt_zero _)
      | exact fun i _ => isInt_byteAt _ i
      | exact cat0 _ _
      | exact Nat.le_of_eq (Nat.zero_add _)
      | exact Nat.le_of_eq (Nat.zero_add _).symm
      | exact Nat.zero_add _
      | exact (Nat.zero_add _).symm
      | (simp only [allP, List.nil_append, List.append_nil, List.cons_append, List.append_eq, and_true, true_and, inr_i64, inr_u8, inr_u64, min_i64, max_i64, min_u64, max_u64, min_u8, max_u8, A.purePL, A.pureP, A.sureP, A.surePL, Int.toNat_natCast, Int.reduceToNat, addI, cHi, cLo, hiN, loN, subO, addO, hasIdx, cond_true, cond_false]; first | done | omega | ((repeat' apply And.intro) <;> first | exact trivial | rfl | omega | decide))
      )
  | false =>
    clear hb0
    repeat' first
      | assumption
      | exact Bool.noConfusion hb
      | exact absurd hb (by decide)
      | exact Bool.noConfusion hb
      | (exfalso; simp at hb; done)
      | (refine W.retA TOK rfl ?_; (conv => whnf); refine ⟨rfl, rfl, rfl, rfl, rfl, rfl, ?_, ?_, ?_⟩)
      | (refine W.branch rfl (fun hb => ?_) (fun hb => ?_) <;> ((try simp only [decide_eq_true_eq, decide_eq_false_iff_not, Bool.not_eq_true', Bool.not_eq_false', Int.not_lt, Int.not_le, cond_true, cond_false, reduceCtorEq, Int.toNat_natCast, Int.reduceToNat, addI] at hb); (try replace hb := of_decide_eq_true hb); (try replace hb := of_decide_eq_false hb)))
      | (refine D.branch rfl (fun hb => ?_) (fun hb => ?_) <;> ((try simp only [decide_eq_true_eq, decide_eq_false_iff_not, Bool.not_eq_true', Bool.not_eq_false', Int.not_lt, Int.not_le, cond_true, cond_false, reduceCtorEq, Int.toNat_natCast, Int.reduceToNat, addI] at hb); (try replace hb := of_decide_eq_true hb); (try replace hb := of_decide_eq_false hb)))
      | (refine W.go TOK 8 hΓ 1000 rfl ?_; (conv => whnf); refine ⟨?_, ?_⟩)
      | (refine D.go TOK 8 hΓ 1000 rfl ?_; (conv => whnf); refine ⟨?_, ?_⟩)
      | (refine W.drawn rfl rfl ?_; refine D.run TOK 8 hΓ 1000 ?_; (conv => whnf); refine ⟨?_, ?_⟩)
    all_goals (repeat' apply And.intro)
    all_goals try (first
      | exact trivial
      | exact rfl
      | exact fun _ _ => A.sim.refl _
      | exact A.sim.refl _
      | exact Nat.le_refl _
      | omega
      | exact fun _ _ => trivial
      | exact fun i _ => shift_sim _ _ i
      | exact fun _ h => absurd h (Nat.not_lt_zero _)
      | exact fun i _ => isInt_byteAt _ i
      | exact cat0 _ _
      | exact Nat.le_of_eq (Nat.zero_add _)
      | exact Nat.le_of_eq (Nat.zero_add _).symm
      | exact Nat.zero_add _
      | exact (Nat.zero_add _).symm
      | (simp only [allP, List.nil_append, List.append_nil, List.cons_append, List.append_eq, and_true, true_and, inr_i64, inr_u8, inr_u64, min_i64, max_i64, min_u64, max_u64, min_u8, max_u8, A.purePL, A.pureP, A.sureP, A.surePL, Int.toNat_natCast, Int.reduceToNat, addI, cHi, cLo, hiN, loN, subO, addO, hasIdx, cond_true, cond_false]; first | done | omega | ((repeat' apply And.intro) <;> first | exact trivial | rfl | omega | decide))
      )

theorem forder_does (ks : List (List UInt8)) (G : List UInt8 → Int) (l : List (List UInt8)) (h9 : l.length ≤ 1000000) : Does Try.prog 11 [.ptr 1000 [], .ro 1 l.length (lsA A.str l)] [(1000, some (.var (.agg [.map 1001]))), (1001, some (.smap (.int .i64 0) ks (fairM G)))] [1] (Is (.own 1 1 0 (HP.srt (lessN G) l).length) [(1, some (.arr 1 (HP.srt (lessN G) l).length (lsA A.str (HP.srt (lessN G) l)))), (1000, some (.var (.agg [.map 1001]))), (1001, some (.smap (.int .i64 0) ks (fairM G)))]) := by
  have cc := clone_does l.length (lsA A.str l) (by omega)
  have cs := sortst_does ks G l h9
  have hsl := HP.srt_len (lt := lessN G) l
  refine Does.intro (fn := Try.f11) Try.func11 rfl rfl fun Γ hΓ => ?_
  refine W.run TOK 15 hΓ 1000 ?_
  conv => whnf
  refine ⟨?_, ?_⟩
  repeat' first
    | assumption
    | exact Bool.noConfusion hb
    | exact absurd hb (by decide)
    | (exfalso; omega)
    | (refine W.retA TOK rfl ?_; (conv => whnf); refine ⟨rfl, rfl, rfl, rfl, rfl, rfl, ?_, ?_, ?_⟩)
    | (refine W.branch rfl (fun hb => ?_) (fun hb => ?_) <;> ((try simp only [decide_eq_true_eq, decide_eq_false_iff_not, Bool.not_eq_true', Bool.not_eq_false', Int.not_lt, Int.not_le, cond_true, cond_false, reduceCtorEq, Int.toNat_natCast, Int.reduceToNat, addI] at hb); (try replace hb := of_decide_eq_true hb); (try replace hb := of_decide_eq_false hb)))
    | (refine D.branch rfl (fun hb => ?_) (fun hb => ?_) <;> ((try simp only [decide_eq_true_eq, decide_eq_false_iff_not, Bool.not_eq_true', Bool.not_eq_false', Int.not_lt, Int.not_le, cond_true, cond_false, reduceCtorEq, Int.toNat_natCast, Int.reduceToNat, addI] at hb); (try replace hb := of_decide_eq_true hb); (try replace hb := of_decide_eq_false hb)))
    | ((first | (refine D.callA (cc) rfl rfl rfl rfl hΓ rfl ?_; (conv => whnf); refine ⟨rfl, rfl, rfl, ?_, ?_, ?_, ?_⟩) | (refine W.callA (cc) rfl rfl rfl rfl hΓ rfl ?_; (conv => whnf); refine ⟨rfl, rfl, ?_, ?_, ?_, ?_⟩)); iterate 3 (focus ((repeat' apply And.intro) <;> first | exact trivial | (intro i _; rw [Nat.zero_add]; exact A.sim.refl _) | with_reducible exact rfl | exact fun _ _ => A.sim.refl _ | exact A.sim.refl _ | exact rfl | exact Nat.le_refl _ | omega | exact fun i _ => shift_sim _ _ i | exact fun _ _ => trivial | exact fun _ h => absurd h (Nat.not_lt_zero _) | exact hsl | exact hsl.symm)); (conv => whnf))
    | ((first | (refine D.callA (cs) rfl rfl rfl rfl hΓ rfl ?_; (conv => whnf); refine ⟨rfl, rfl, rfl, ?_, ?_, ?_, ?_⟩) | (refine W.callA (cs) rfl rfl rfl rfl hΓ rfl ?_; (conv => whnf); refine ⟨rfl, rfl, ?_, ?_, ?_, ?_⟩)); iterate 3 (focus ((repeat' apply And.intro) <;> first | exact trivial | (intro i _; rw [Nat.zero_add]; exact A.sim.refl _) | with_reducible exact rfl | exact fun _ _ => A.sim.refl _ | exact A.sim.refl _ | exact rfl | exact Nat.le_refl _ | omega | exact fun i _ => shift_sim _ _ i | exact fun _ _ => trivial | exact fun _ h => absurd h (Nat.not_lt_zero _) | exact hsl | exact hsl.symm)); (conv => whnf))
    | (refine W.go TOK 15 hΓ 1000 rfl ?_; (conv => whnf); refine ⟨?_, ?_⟩)
    | (refine D.go TOK 15 hΓ 1000 rfl ?_; (conv => whnf); refine ⟨?_, ?_⟩)
    | (refine W.drawn rfl rfl ?_; refine D.run TOK 15 hΓ 1000 ?_; (conv => whnf); refine ⟨?_, ?_⟩)
  all_goals (repeat' apply And.intro)
  all_goals try (first
    | exact trivial
    | exact rfl
    | exact fun _ _ => A.sim.refl _
    | exact A.sim.refl _
    | exact Nat.le_refl _
    | omega
    | exact fun _ _ => trivial
    | exact fun i _ => shift_sim _ _ i
    | exact fun _ h => absurd h (Nat.not_lt_zero _)
    | exact fun i _ => isInt_byteAt _ i
    | exact hsl
    | exact hsl.symm
    | exact Nat.le_of_eq hsl
    | exact Nat.le_of_eq hsl.symm
    | (simp only [allP, List.nil_append, List.append_nil, List.cons_append, List.append_eq, and_true, true_and, inr_i64, inr_u8, inr_u64, min_i64, max_i64, min_u64, max_u64, min_u8, max_u8, A.purePL, A.pureP, A.sureP, A.surePL, Int.toNat_natCast, Int.reduceToNat, addI, cHi, cLo, hiN, loN, subO, addO, hasIdx, cond_true, cond_false]; first | done | omega | ((repeat' apply And.intro) <;> first | exact trivial | rfl | omega | decide))
    )

end Go.Proofs.Ytjcfggnmoeochaa
