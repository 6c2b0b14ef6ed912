/- Walks: sorting names in place. -/
import Derived.Test.YtjcfggnmoeochaaSr19
import Derived.Test.YtjcfggnmoeochaaSrSta
import Derived.Test.YtjcfggnmoeochaaVxI
import Derived.Test.YtjcfggnmoeochaaLsL
import Derived.Test.YtjcfggnmoeochaaOrdL
set_option linter.unusedSimpArgs false
set_option linter.unusedVariables false
namespace Go.Proofs.Ytjcfggnmoeochaa
open VX
set_option maxRecDepth 100000
set_option maxHeartbeats 4000000

theorem half_ok {i j : Nat} (h : i + j ≤ 4000000) : IntKind.i64.wrap (shrI .u64 (IntKind.u64.wrap ((i : Int) + (j : Int))) 1) = (((i + j) / 2 : Nat) : Int) := by
  have e1 : IntKind.u64.wrap ((i : Int) + (j : Int)) = ((i + j : Nat) : Int) := wrap_inr (inr_u64.2 (by omega))
  rw [e1]
  have e2 : shrI .u64 ((i + j : Nat) : Int) 1 = (((i + j) / 2 : Nat) : Int) := by
    show ((i + j : Nat) : Int).fdiv 2 = _
    rw [Int.fdiv_eq_ediv_of_nonneg _ (by decide)]
    omega
  rw [e2]
  exact wrap_i64_in (by omega) (by omega)
def Tm5 : Tab := { l := tabL, stop := [5] }
theorem Tm5OK : TabOK Try.prog Tm5.l := tabOK
def Tm17 : Tab := { l := tabL, stop := [17] }
theorem Tm17OK : TabOK Try.prog Tm17.l := tabOK
def Tm25 : Tab := { l := tabL, stop := [25] }
theorem Tm25OK : TabOK Try.prog Tm25.l := tabOK
def Tm35 : Tab := { l := tabL, stop := [35] }
theorem Tm35OK : TabOK Try.prog Tm35.l := tabOK
theorem merge_does (ks : List (List UInt8)) (G : List UInt8 → Int) : ∀ (c : Nat) (d : List (List UInt8)) (a m b : Nat), b - a = c → a < m → m < b → b ≤ d.length → d.length ≤ 1000000 → HP.Srt (lessN G) d a m → HP.Srt (lessN G) d m b → Does Try.prog 24 [.own 1 1003 0 (d).length, .int .i64 (a : Nat), .int .i64 (m : Nat), .int .i64 (b : Nat), .func (.func 16) [] [.ptr 1002 []]] ((1003, some (.arr 1 (d).length (lsA A.str (d)))) :: [(1000, some (.var (.agg [.map 1001]))), (1001, some (.smap (.int .i64 0) ks (fairM G))), (1002, some (.var (.func (.func 9) [.ptr 1000 []] [])))]) [] (Is (.tup []) ((1003, some (.arr 1 (HP.sortSeg (lessN G) d a b).length (lsA A.str (HP.sortSeg (lessN G) d a b)))) :: [(1000, some (.var (.agg [.map 1001]))), (1001, some (.smap (.int .i64 0) ks (fairM G))), (1002, some (.var (.func (.func 9) [.ptr 1000 []] [])))])) := by
  intro c
  induction c using Nat.strongRecOn with
  | _ c IH =>
  intro d a m b hc ham hmb hbl h9 hs1 hs2
  by_cases hA : m - a = 1
  · have hA1 : m = a + 1 := by omega
    have hA2 : (m : Int) - (a : Int) = 1 := by omega
    refine Does.intro (fn := Try.f24) Try.func24 rfl rfl fun Γ hΓ => ?_
    refine W.run TOK 220 hΓ 1000 ?_
    conv => whnf
    refine ⟨?_, ?_⟩
    repeat' first
      | assumption
      | exact Bool.noConfusion hb
      | exact absurd hb (by decide)
      | (exfalso; omega)
      | (exfalso; simp at hb; done)
      | (refine W.branch rfl (fun hb => ?_) (fun hb => ?_) <;> ((try simp only [decide_eq_true_eq, decide_eq_false_iff_not, Bool.not_eq_true', Bool.not_eq_false', Int.not_lt, Int.not_le, cond_true, cond_false, reduceCtorEq, Int.toNat_natCast, Int.reduceToNat, addI] at hb); (try replace hb := of_decide_eq_true hb); (try replace hb := of_decide_eq_false hb)))
      | (refine D.branch rfl (fun hb => ?_) (fun hb => ?_) <;> ((try simp only [decide_eq_true_eq, decide_eq_false_iff_not, Bool.not_eq_true', Bool.not_eq_false', Int.not_lt, Int.not_le, cond_true, cond_false, reduceCtorEq, Int.toNat_natCast, Int.reduceToNat, addI] at hb); (try replace hb := of_decide_eq_true hb); (try replace hb := of_decide_eq_false hb)))
      | (refine W.go TOK 220 hΓ 1000 rfl ?_; (conv => whnf); refine ⟨?_, ?_⟩)
      | (refine D.go TOK 220 hΓ 1000 rfl ?_; (conv => whnf); refine ⟨?_, ?_⟩)
      | (refine W.drawn rfl rfl ?_; refine D.run TOK 220 hΓ 1000 ?_; (conv => whnf); refine ⟨?_, ?_⟩)
    all_goals (repeat' apply And.intro)
    all_goals try (first
      | exact trivial
      | exact rfl
      | exact fun _ _ => A.sim.refl _
      | exact A.sim.refl _
      | exact Nat.le_refl _
      | omega
      | exact fun _ _ => trivial
      | exact fun i _ => shift_sim _ _ i
      | exact fun _ h => absurd h (Nat.not_lt_zero _)
      | exact fun i _ => isInt_byteAt _ i
      | (simp only [allP, List.nil_append, List.append_nil, List.cons_append, List.append_eq, and_true, true_and, inr_i64, inr_u8, inr_u64, min_i64, max_i64, min_u64, max_u64, min_u8, max_u8, A.purePL, A.pureP, A.sureP, A.surePL, Int.toNat_natCast, Int.reduceToNat, addI, cHi, cLo, hiN, loN, subO, addO, hasIdx, cond_true, cond_false]; first | done | omega | ((repeat' apply And.intro) <;> first | exact trivial | rfl | omega | decide))
      )
    refine W.loopA (Nat × Nat) (fun x => m ≤ x.1 ∧ x.1 ≤ x.2 ∧ x.2 ≤ b ∧ (x.1 = m ∨ (lessN G) (HP.at_ d (x.1 - 1)) (HP.at_ d a) = true) ∧ (x.2 = b ∨ (lessN G) (HP.at_ d x.2) (HP.at_ d a) = false)) (fun x => x.2 - x.1) (fun x => [(10, .int .i64 (x.1 : Nat)), (11, .int .i64 (x.2 : Nat))]) (fun _ => []) [] ((m, b)) (⟨Nat.le_refl _, by simp only; omega, Nat.le_refl _, .inl rfl, .inl rfl⟩) ?_
    (conv => whnf); refine ⟨?_, ?_⟩; focus ((conv => whnf); refine ⟨rfl, rfl, rfl, rfl, rfl, rfl, ?_, ?_⟩; iterate 2 (focus ((repeat' apply And.intro) <;> first | exact trivial | (intro i _; rw [Nat.zero_add]; exact A.sim.refl _) | with_reducible exact rfl | exact fun _ _ => A.sim.refl _ | exact A.sim.refl _ | exact rfl | exact Nat.le_refl _ | omega | exact fun i _ => shift_sim _ _ i | exact fun _ _ => trivial | exact fun _ h => absurd h (Nat.not_lt_zero _))))
    rintro ⟨i, j⟩ ⟨j1, j2, j3, j4, j5⟩ ih
    simp only at j1 j2 j3 j4 j5
    by_cases hij : i < j
    · have hh : (i + j) / 2 < j ∧ i ≤ (i + j) / 2 := by omega
      repeat' first
        | assumption
        | exact Bool.noConfusion hb
        | exact absurd hb (by decide)
        | (exfalso; omega)
        | (exfalso; simp at hb; done)
        | (refine W.branch rfl (fun hb => ?_) (fun hb => ?_) <;> ((try simp only [decide_eq_true_eq, decide_eq_false_iff_not, Bool.not_eq_true', Bool.not_eq_false', Int.not_lt, Int.not_le, cond_true, cond_false, reduceCtorEq, Int.toNat_natCast, Int.reduceToNat, addI] at hb); (try replace hb := of_decide_eq_true hb); (try replace hb := of_decide_eq_false hb)))
        | (refine W.go Tm5OK 220 hΓ 1000 rfl ?_; (conv => whnf); refine ⟨?_, ?_⟩)
      all_goals (repeat' apply And.intro)
      all_goals try (first
        | exact trivial
        | exact rfl
        | exact fun _ _ => A.sim.refl _
        | exact A.sim.refl _
        | exact Nat.le_refl _
        | omega
        | exact fun _ _ => trivial
        | exact fun i _ => shift_sim _ _ i
        | exact fun _ h => absurd h (Nat.not_lt_zero _)
        | exact fun i _ => isInt_byteAt _ i
        | (simp only [allP, List.nil_append, List.append_nil, List.cons_append, List.append_eq, and_true, true_and, inr_i64, inr_u8, inr_u64, min_i64, max_i64, min_u64, max_u64, min_u8, max_u8, A.purePL, A.pureP, A.sureP, A.surePL, Int.toNat_natCast, Int.reduceToNat, addI, cHi, cLo, hiN, loN, subO, addO, hasIdx, cond_true, cond_false]; first | done | omega | ((repeat' apply And.intro) <;> first | exact trivial | rfl | omega | decide))
        )
      refine W.seeA ([(12, .int .i64 (((i + j) / 2 : Nat) : Int))]) ([(1003, some (.arr 1 (d).length (lsA A.str (d))))]) [] ?_
      (conv => whnf); refine ⟨?_, ?_⟩; focus ((conv => whnf); refine ⟨rfl, rfl, rfl, rfl, rfl, rfl, ?_, ?_⟩; iterate 2 (focus ((repeat' apply And.intro) <;> first | exact trivial | (intro i _; rw [Nat.zero_add]; exact A.sim.refl _) | with_reducible exact rfl | exact fun _ _ => A.sim.refl _ | exact A.sim.refl _ | exact rfl | exact Nat.le_refl _ | omega | exact fun i _ => shift_sim _ _ i | exact fun _ _ => trivial | exact fun _ h => absurd h (Nat.not_lt_zero _) | exact half_ok (by omega))))
      obtain ⟨h, hhe⟩ : ∃ h, h = (i + j) / 2 := ⟨_, rfl⟩
      rw [← hhe] at hh ⊢
      cases ht : (lessN G) (HP.at_ d h) (HP.at_ d a) with
      | true =>
        have hneg : lessF G (HP.at_ d h) (HP.at_ d a) < 0 := of_decide_eq_true ht
        repeat' first
          | assumption
          | exact Bool.noConfusion hb
          | exact absurd hb (by decide)
          | (exfalso; omega)
          | (exfalso; simp at hb; done)
          | exact absurd hneg hb
          | (refine W.toA (ih (h + 1, j) ?_ ?_) ?_; rotate_left 2; (conv => whnf); refine ⟨rfl, rfl, rfl, rfl, rfl, rfl, ?_, ?_⟩; iterate 2 (focus ((repeat' apply And.intro) <;> first | exact trivial | (intro i _; rw [Nat.zero_add]; exact A.sim.refl _) | with_reducible exact rfl | exact fun _ _ => A.sim.refl _ | exact A.sim.refl _ | exact rfl | exact Nat.le_refl _ | omega | exact fun i _ => shift_sim _ _ i | exact fun _ _ => trivial | exact fun _ h => absurd h (Nat.not_lt_zero _) | exact hsl | exact hsl.symm | exact Nat.le_of_eq hsl | exact Nat.le_of_eq hsl.symm | exact ⟨rfl, rfl, rfl, rfl⟩ | exact ⟨rfl, rfl, rfl⟩ | exact ⟨rfl, rfl⟩)))
          | (refine W.branch rfl (fun hb => ?_) (fun hb => ?_) <;> ((try simp only [decide_eq_true_eq, decide_eq_false_iff_not, Bool.not_eq_true', Bool.not_eq_false', Int.not_lt, Int.not_le, cond_true, cond_false, reduceCtorEq, Int.toNat_natCast, Int.reduceToNat, addI] at hb); (try replace hb := of_decide_eq_true hb); (try replace hb := of_decide_eq_false hb)))
          | (refine D.branch rfl (fun hb => ?_) (fun hb => ?_) <;> ((try simp only [decide_eq_true_eq, decide_eq_false_iff_not, Bool.not_eq_true', Bool.not_eq_false', Int.not_lt, Int.not_le, cond_true, cond_false, reduceCtorEq, Int.toNat_natCast, Int.reduceToNat, addI] at hb); (try replace hb := of_decide_eq_true hb); (try replace hb := of_decide_eq_false hb)))
          | (refine D.callAR (order1_does (HP.at_ d h) (HP.at_ d a) ks G) rfl rfl rfl rfl hΓ rfl ?_; (conv => whnf); refine ⟨rfl, rfl, rfl, rfl, ?_, ?_, ?_, ?_, ?_⟩; iterate 4 (focus ((repeat' apply And.intro) <;> first | exact trivial | (intro i _; rw [Nat.zero_add]; exact A.sim.refl _) | with_reducible exact rfl | exact fun _ _ => A.sim.refl _ | exact A.sim.refl _ | exact rfl | exact Nat.le_refl _ | omega | exact fun i _ => shift_sim _ _ i | exact fun _ _ => trivial | exact fun _ h => absurd h (Nat.not_lt_zero _) | exact hsl | exact hsl.symm | exact Nat.le_of_eq hsl | exact Nat.le_of_eq hsl.symm | exact ⟨rfl, rfl, rfl, rfl⟩ | exact ⟨rfl, rfl, rfl⟩ | exact ⟨rfl, rfl⟩)); (conv => whnf))
          | (refine W.callA (order1_does (HP.at_ d h) (HP.at_ d a) ks G) rfl rfl rfl rfl hΓ rfl ?_; (conv => whnf); refine ⟨rfl, rfl, ?_, ?_, ?_, ?_⟩; iterate 3 (focus ((repeat' apply And.intro) <;> first | exact trivial | (intro i _; rw [Nat.zero_add]; exact A.sim.refl _) | with_reducible exact rfl | exact fun _ _ => A.sim.refl _ | exact A.sim.refl _ | exact rfl | exact Nat.le_refl _ | omega | exact fun i _ => shift_sim _ _ i | exact fun _ _ => trivial | exact fun _ h => absurd h (Nat.not_lt_zero _) | exact hsl | exact hsl.symm | exact Nat.le_of_eq hsl | exact Nat.le_of_eq hsl.symm | exact ⟨rfl, rfl, rfl, rfl⟩ | exact ⟨rfl, rfl, rfl⟩ | exact ⟨rfl, rfl⟩)); (conv => whnf))
          | (refine W.go TOK 220 hΓ 1000 rfl ?_; (conv => whnf); refine ⟨?_, ?_⟩)
          | (refine D.go TOK 220 hΓ 1000 rfl ?_; (conv => whnf); refine ⟨?_, ?_⟩)
          | (refine W.drawn rfl rfl ?_; refine D.run TOK 220 hΓ 1000 ?_; (conv => whnf); refine ⟨?_, ?_⟩)
        all_goals (repeat' apply And.intro)
        all_goals try (first
          | exact trivial
          | exact rfl
          | exact fun _ _ => A.sim.refl _
          | exact A.sim.refl _
          | exact Nat.le_refl _
          | omega
          | exact fun _ _ => trivial
          | exact fun i _ => shift_sim _ _ i
          | exact fun _ h => absurd h (Nat.not_lt_zero _)
          | exact fun i _ => isInt_byteAt _ i
          | exact ⟨by simp only; omega, by simp only; omega, j3, .inr ht, j5⟩
          | (simp only [allP, List.nil_append, List.append_nil, List.cons_append, List.append_eq, and_true, true_and, inr_i64, inr_u8, inr_u64, min_i64, max_i64, min_u64, max_u64, min_u8, max_u8, A.purePL, A.pureP, A.sureP, A.surePL, Int.toNat_natCast, Int.reduceToNat, addI, cHi, cLo, hiN, loN, subO, addO, hasIdx, cond_true, cond_false]; first | done | omega | ((repeat' apply And.intro) <;> first | exact trivial | rfl | omega | decide))
          | exact .inr ht
          | (refine .inr ?_; simp only; rw [hq, Nat.add_sub_cancel]; exact ht)
          | (simp only; omega)
          )
      | false =>
        have hneg : ¬ lessF G (HP.at_ d h) (HP.at_ d a) < 0 := of_decide_eq_false ht
        repeat' first
          | assumption
          | exact Bool.noConfusion hb
          | exact absurd hb (by decide)
          | (exfalso; omega)
          | (exfalso; simp at hb; done)
          | exact absurd hb hneg
          | (refine W.toA (ih (i, h) ?_ ?_) ?_; rotate_left 2; (conv => whnf); refine ⟨rfl, rfl, rfl, rfl, rfl, rfl, ?_, ?_⟩; iterate 2 (focus ((repeat' apply And.intro) <;> first | exact trivial | (intro i _; rw [Nat.zero_add]; exact A.sim.refl _) | with_reducible exact rfl | exact fun _ _ => A.sim.refl _ | exact A.sim.refl _ | exact rfl | exact Nat.le_refl _ | omega | exact fun i _ => shift_sim _ _ i | exact fun _ _ => trivial | exact fun _ h => absurd h (Nat.not_lt_zero _) | exact hsl | exact hsl.symm | exact Nat.le_of_eq hsl | exact Nat.le_of_eq hsl.symm | exact ⟨rfl, rfl, rfl, rfl⟩ | exact ⟨rfl, rfl, rfl⟩ | exact ⟨rfl, rfl⟩)))
          | (refine W.branch rfl (fun hb => ?_) (fun hb => ?_) <;> ((try simp only [decide_eq_true_eq, decide_eq_false_iff_not, Bool.not_eq_true', Bool.not_eq_false', Int.not_lt, Int.not_le, cond_true, cond_false, reduceCtorEq, Int.toNat_natCast, Int.reduceToNat, addI] at hb); (try replace hb := of_decide_eq_true hb); (try replace hb := of_decide_eq_false hb)))
          | (refine D.branch rfl (fun hb => ?_) (fun hb => ?_) <;> ((try simp only [decide_eq_true_eq, decide_eq_false_iff_not, Bool.not_eq_true', Bool.not_eq_false', Int.not_lt, Int.not_le, cond_true, cond_false, reduceCtorEq, Int.toNat_natCast, Int.reduceToNat, addI] at hb); (try replace hb := of_decide_eq_true hb); (try replace hb := of_decide_eq_false hb)))
          | (refine D.callAR (order1_does (HP.at_ d h) (HP.at_ d a) ks G) rfl rfl rfl rfl hΓ rfl ?_; (conv => whnf); refine ⟨rfl, rfl, rfl, rfl, ?_, ?_, ?_, ?_, ?_⟩; iterate 4 (focus ((repeat' apply And.intro) <;> first | exact trivial | (intro i _; rw [Nat.zero_add]; exact A.sim.refl _) | with_reducible exact rfl | exact fun _ _ => A.sim.refl _ | exact A.sim.refl _ | exact rfl | exact Nat.le_refl _ | omega | exact fun i _ => shift_sim _ _ i | exact fun _ _ => trivial | exact fun _ h => absurd h (Nat.not_lt_zero _) | exact hsl | exact hsl.symm | exact Nat.le_of_eq hsl | exact Nat.le_of_eq hsl.symm | exact ⟨rfl, rfl, rfl, rfl⟩ | exact ⟨rfl, rfl, rfl⟩ | exact ⟨rfl, rfl⟩)); (conv => whnf))
          | (refine W.callA (order1_does (HP.at_ d h) (HP.at_ d a) ks G) rfl rfl rfl rfl hΓ rfl ?_; (conv => whnf); refine ⟨rfl, rfl, ?_, ?_, ?_, ?_⟩; iterate 3 (focus ((repeat' apply And.intro) <;> first | exact trivial | (intro i _; rw [Nat.zero_add]; exact A.sim.refl _) | with_reducible exact rfl | exact fun _ _ => A.sim.refl _ | exact A.sim.refl _ | exact rfl | exact Nat.le_refl _ | omega | exact fun i _ => shift_sim _ _ i | exact fun _ _ => trivial | exact fun _ h => absurd h (Nat.not_lt_zero _) | exact hsl | exact hsl.symm | exact Nat.le_of_eq hsl | exact Nat.le_of_eq hsl.symm | exact ⟨rfl, rfl, rfl, rfl⟩ | exact ⟨rfl, rfl, rfl⟩ | exact ⟨rfl, rfl⟩)); (conv => whnf))
          | (refine W.go TOK 220 hΓ 1000 rfl ?_; (conv => whnf); refine ⟨?_, ?_⟩)
          | (refine D.go TOK 220 hΓ 1000 rfl ?_; (conv => whnf); refine ⟨?_, ?_⟩)
          | (refine W.drawn rfl rfl ?_; refine D.run TOK 220 hΓ 1000 ?_; (conv => whnf); refine ⟨?_, ?_⟩)
        all_goals (repeat' apply And.intro)
        all_goals try (first
          | exact trivial
          | exact rfl
          | exact fun _ _ => A.sim.refl _
          | exact A.sim.refl _
          | exact Nat.le_refl _
          | omega
          | exact fun _ _ => trivial
          | exact fun i _ => shift_sim _ _ i
          | exact fun _ h => absurd h (Nat.not_lt_zero _)
          | exact fun i _ => isInt_byteAt _ i
          | exact ⟨j1, by simp only; omega, by simp only; omega, j4, .inr ht⟩
          | (simp only [allP, List.nil_append, List.append_nil, List.cons_append, List.append_eq, and_true, true_and, inr_i64, inr_u8, inr_u64, min_i64, max_i64, min_u64, max_u64, min_u8, max_u8, A.purePL, A.pureP, A.sureP, A.surePL, Int.toNat_natCast, Int.reduceToNat, addI, cHi, cLo, hiN, loN, subO, addO, hasIdx, cond_true, cond_false]; first | done | omega | ((repeat' apply And.intro) <;> first | exact trivial | rfl | omega | decide))
          | exact .inr ht
          | (refine .inr ?_; simp only; rw [hq, Nat.add_sub_cancel]; exact ht)
          | (simp only; omega)
          )
    · have hije : j = i := by omega
      subst hije
      clear ih
      repeat' first
        | assumption
        | exact Bool.noConfusion hb
        | exact absurd hb (by decide)
        | (exfalso; omega)
        | (exfalso; simp at hb; done)
        | (refine W.branch rfl (fun hb => ?_) (fun hb => ?_) <;> ((try simp only [decide_eq_true_eq, decide_eq_false_iff_not, Bool.not_eq_true', Bool.not_eq_false', Int.not_lt, Int.not_le, cond_true, cond_false, reduceCtorEq, Int.toNat_natCast, Int.reduceToNat, addI] at hb); (try replace hb := of_decide_eq_true hb); (try replace hb := of_decide_eq_false hb)))
        | (refine D.branch rfl (fun hb => ?_) (fun hb => ?_) <;> ((try simp only [decide_eq_true_eq, decide_eq_false_iff_not, Bool.not_eq_true', Bool.not_eq_false', Int.not_lt, Int.not_le, cond_true, cond_false, reduceCtorEq, Int.toNat_natCast, Int.reduceToNat, addI] at hb); (try replace hb := of_decide_eq_true hb); (try replace hb := of_decide_eq_false hb)))
        | (refine W.go TOK 220 hΓ 1000 rfl ?_; (conv => whnf); refine ⟨?_, ?_⟩)
        | (refine D.go TOK 220 hΓ 1000 rfl ?_; (conv => whnf); refine ⟨?_, ?_⟩)
        | (refine W.drawn rfl rfl ?_; refine D.run TOK 220 hΓ 1000 ?_; (conv => whnf); refine ⟨?_, ?_⟩)
      all_goals (repeat' apply And.intro)
      all_goals try (first
        | exact trivial
        | exact rfl
        | exact fun _ _ => A.sim.refl _
        | exact A.sim.refl _
        | exact Nat.le_refl _
        | omega
        | exact fun _ _ => trivial
        | exact fun i _ => shift_sim _ _ i
        | exact fun _ h => absurd h (Nat.not_lt_zero _)
        | exact fun i _ => isInt_byteAt _ i
        | (simp only [allP, List.nil_append, List.append_nil, List.cons_append, List.append_eq, and_true, true_and, inr_i64, inr_u8, inr_u64, min_i64, max_i64, min_u64, max_u64, min_u8, max_u8, A.purePL, A.pureP, A.sureP, A.surePL, Int.toNat_natCast, Int.reduceToNat, addI, cHi, cLo, hiN, loN, subO, addO, hasIdx, cond_true, cond_false]; first | done | omega | ((repeat' apply And.intro) <;> first | exact trivial | rfl | omega | decide))
        )
      refine W.loopA (Nat) (fun k => a ≤ k ∧ k + 1 ≤ j) (fun k => j - k) (fun k => [(0, .own 1 1003 0 (HP.rotS d a (a + 1) (k + 1)).length), (13, .int .i64 (k : Nat))]) (fun k => [(1003, some (.arr 1 ((HP.rotS d a (a + 1) (k + 1))).length (lsA A.str ((HP.rotS d a (a + 1) (k + 1))))))]) [] (a) (⟨Nat.le_refl _, by omega⟩) ?_
      (conv => whnf); refine ⟨?_, ?_⟩; focus ((conv => whnf); refine ⟨rfl, rfl, rfl, rfl, rfl, rfl, ?_, ?_⟩; iterate 2 (focus ((repeat' apply And.intro) <;> first | exact trivial | (intro i _; rw [Nat.zero_add]; exact A.sim.refl _) | with_reducible exact rfl | exact fun _ _ => A.sim.refl _ | exact A.sim.refl _ | exact rfl | exact Nat.le_refl _ | omega | exact fun i _ => shift_sim _ _ i | exact fun _ _ => trivial | exact fun _ h => absurd h (Nat.not_lt_zero _) | exact (congrArg List.length (HP.rot_id d a (a + 1))).symm | exact Nat.le_of_eq (congrArg List.length (HP.rot_id d a (a + 1))) | exact fun k _ => A.sim.of (by rw [HP.rot_id]))))
      rintro k ⟨k1, k2⟩ ih
      have hl := HP.rot_len d a (a + 1) (k + 1)
      by_cases hkj : k + 1 < j
      · have hsl : (HP.rotS d a (a + 1) (k + 1)).length = (HP.rotS d a (a + 1) (k + 2)).length := by rw [HP.rot_len, HP.rot_len]
        have hsw := ls_swap (f := A.str) (a := (HP.rotS d a (a + 1) (k + 1))) (i := k) (j := k + 1) (by omega) (by omega) (m := (HP.rotS d a (a + 1) (k + 2)).length)
        rw [HP.rot_up k1 (by omega)] at hsw
        repeat' first
          | assumption
          | exact Bool.noConfusion hb
          | exact absurd hb (by decide)
          | (exfalso; omega)
          | (exfalso; simp at hb; done)
          | (refine W.toA (ih (k + 1) ?_ ?_) ?_; rotate_left 2; (conv => whnf); refine ⟨rfl, rfl, rfl, rfl, rfl, rfl, ?_, ?_⟩; iterate 2 (focus ((repeat' apply And.intro) <;> first | exact trivial | (intro i _; rw [Nat.zero_add]; exact A.sim.refl _) | with_reducible exact rfl | exact fun _ _ => A.sim.refl _ | exact A.sim.refl _ | exact rfl | exact Nat.le_refl _ | omega | exact fun i _ => shift_sim _ _ i | exact fun _ _ => trivial | exact fun _ h => absurd h (Nat.not_lt_zero _) | exact hsl | exact hsl.symm | exact Nat.le_of_eq hsl | exact Nat.le_of_eq hsl.symm | exact ⟨rfl, rfl, rfl, rfl⟩ | exact ⟨rfl, rfl, rfl⟩ | exact ⟨rfl, rfl⟩ | exact hsw)))
          | (refine W.branch rfl (fun hb => ?_) (fun hb => ?_) <;> ((try simp only [decide_eq_true_eq, decide_eq_false_iff_not, Bool.not_eq_true', Bool.not_eq_false', Int.not_lt, Int.not_le, cond_true, cond_false, reduceCtorEq, Int.toNat_natCast, Int.reduceToNat, addI] at hb); (try replace hb := of_decide_eq_true hb); (try replace hb := of_decide_eq_false hb)))
          | (refine D.branch rfl (fun hb => ?_) (fun hb => ?_) <;> ((try simp only [decide_eq_true_eq, decide_eq_false_iff_not, Bool.not_eq_true', Bool.not_eq_false', Int.not_lt, Int.not_le, cond_true, cond_false, reduceCtorEq, Int.toNat_natCast, Int.reduceToNat, addI] at hb); (try replace hb := of_decide_eq_true hb); (try replace hb := of_decide_eq_false hb)))
          | (refine W.go TOK 220 hΓ 1000 rfl ?_; (conv => whnf); refine ⟨?_, ?_⟩)
          | (refine D.go TOK 220 hΓ 1000 rfl ?_; (conv => whnf); refine ⟨?_, ?_⟩)
          | (refine W.drawn rfl rfl ?_; refine D.run TOK 220 hΓ 1000 ?_; (conv => whnf); refine ⟨?_, ?_⟩)
        all_goals (repeat' apply And.intro)
        all_goals try (first
          | exact trivial
          | exact rfl
          | exact fun _ _ => A.sim.refl _
          | exact A.sim.refl _
          | exact Nat.le_refl _
          | omega
          | exact fun _ _ => trivial
          | exact fun i _ => shift_sim _ _ i
          | exact fun _ h => absurd h (Nat.not_lt_zero _)
          | exact fun i _ => isInt_byteAt _ i
          | exact ⟨by omega, by omega⟩
          | (simp only [allP, List.nil_append, List.append_nil, List.cons_append, List.append_eq, and_true, true_and, inr_i64, inr_u8, inr_u64, min_i64, max_i64, min_u64, max_u64, min_u8, max_u8, A.purePL, A.pureP, A.sureP, A.surePL, Int.toNat_natCast, Int.reduceToNat, addI, cHi, cLo, hiN, loN, subO, addO, hasIdx, cond_true, cond_false]; first | done | omega | ((repeat' apply And.intro) <;> first | exact trivial | rfl | omega | decide))
          )
      · have hke : k + 1 = j := by omega
        have hfin : HP.sortSeg (lessN G) d a b = HP.rotS d a (a + 1) (k + 1) := (HP.sortSeg_of (lessN_ord G) (by omega) hbl ((HP.rot_mv (Nat.le_succ a) (by omega) (by omega)).mono (Nat.le_refl _) (by omega)) (HP.up_srt (lessN_ord G) (by rw [← hA1]; exact hs2) (by omega) (by omega) hbl (by rw [hke]; rcases j4 with h | h; exact .inl (by omega); exact .inr h) (by rw [hke]; exact j5))).symm
        rw [hfin]
        repeat' first
          | assumption
          | exact Bool.noConfusion hb
          | exact absurd hb (by decide)
          | (exfalso; omega)
          | (exfalso; simp at hb; done)
          | (refine W.retA TOK rfl ?_; (conv => whnf); refine ⟨rfl, rfl, rfl, rfl, rfl, rfl, ?_, ?_, ?_⟩)
          | (refine W.endA TOK rfl ?_; (conv => whnf); refine ⟨rfl, rfl, rfl, rfl, rfl, rfl, ?_, ?_, ?_⟩)
          | (refine W.branch rfl (fun hb => ?_) (fun hb => ?_) <;> ((try simp only [decide_eq_true_eq, decide_eq_false_iff_not, Bool.not_eq_true', Bool.not_eq_false', Int.not_lt, Int.not_le, cond_true, cond_false, reduceCtorEq, Int.toNat_natCast, Int.reduceToNat, addI] at hb); (try replace hb := of_decide_eq_true hb); (try replace hb := of_decide_eq_false hb)))
          | (refine D.branch rfl (fun hb => ?_) (fun hb => ?_) <;> ((try simp only [decide_eq_true_eq, decide_eq_false_iff_not, Bool.not_eq_true', Bool.not_eq_false', Int.not_lt, Int.not_le, cond_true, cond_false, reduceCtorEq, Int.toNat_natCast, Int.reduceToNat, addI] at hb); (try replace hb := of_decide_eq_true hb); (try replace hb := of_decide_eq_false hb)))
          | (refine W.go TOK 220 hΓ 1000 rfl ?_; (conv => whnf); refine ⟨?_, ?_⟩)
          | (refine D.go TOK 220 hΓ 1000 rfl ?_; (conv => whnf); refine ⟨?_, ?_⟩)
          | (refine W.drawn rfl rfl ?_; refine D.run TOK 220 hΓ 1000 ?_; (conv => whnf); refine ⟨?_, ?_⟩)
        all_goals (repeat' apply And.intro)
        all_goals try (first
          | exact trivial
          | exact rfl
          | exact fun _ _ => A.sim.refl _
          | exact A.sim.refl _
          | exact Nat.le_refl _
          | omega
          | exact fun _ _ => trivial
          | exact fun i _ => shift_sim _ _ i
          | exact fun _ h => absurd h (Nat.not_lt_zero _)
          | exact fun i _ => isInt_byteAt _ i
          | exact hsl
          | exact hsl.symm
          | exact Nat.le_of_eq hsl
          | exact Nat.le_of_eq hsl.symm
          | exact ⟨rfl, rfl, rfl, rfl⟩
          | exact ⟨rfl, rfl, rfl⟩
          | exact ⟨rfl, rfl⟩
          | (simp only [allP, List.nil_append, List.append_nil, List.cons_append, List.append_eq, and_true, true_and, inr_i64, inr_u8, inr_u64, min_i64, max_i64, min_u64, max_u64, min_u8, max_u8, A.purePL, A.pureP, A.sureP, A.surePL, Int.toNat_natCast, Int.reduceToNat, addI, cHi, cLo, hiN, loN, subO, addO, hasIdx, cond_true, cond_false]; first | done | omega | ((repeat' apply And.intro) <;> first | exact trivial | rfl | omega | decide))
          )
  by_cases hB : b - m = 1
  · have hB1 : b = m + 1 := by omega
    have hB2 : (b : Int) - (m : Int) = 1 := by omega
    have hA3 : ¬ (m : Int) - (a : Int) = 1 := by omega
    refine Does.intro (fn := Try.f24) Try.func24 rfl rfl fun Γ hΓ => ?_
    refine W.run TOK 220 hΓ 1000 ?_
    conv => whnf
    refine ⟨?_, ?_⟩
    repeat' first
      | assumption
      | exact Bool.noConfusion hb
      | exact absurd hb (by decide)
      | (exfalso; omega)
      | (exfalso; simp at hb; done)
      | (refine W.branch rfl (fun hb => ?_) (fun hb => ?_) <;> ((try simp only [decide_eq_true_eq, decide_eq_false_iff_not, Bool.not_eq_true', Bool.not_eq_false', Int.not_lt, Int.not_le, cond_true, cond_false, reduceCtorEq, Int.toNat_natCast, Int.reduceToNat, addI] at hb); (try replace hb := of_decide_eq_true hb); (try replace hb := of_decide_eq_false hb)))
      | (refine D.branch rfl (fun hb => ?_) (fun hb => ?_) <;> ((try simp only [decide_eq_true_eq, decide_eq_false_iff_not, Bool.not_eq_true', Bool.not_eq_false', Int.not_lt, Int.not_le, cond_true, cond_false, reduceCtorEq, Int.toNat_natCast, Int.reduceToNat, addI] at hb); (try replace hb := of_decide_eq_true hb); (try replace hb := of_decide_eq_false hb)))
      | (refine W.go TOK 220 hΓ 1000 rfl ?_; (conv => whnf); refine ⟨?_, ?_⟩)
      | (refine D.go TOK 220 hΓ 1000 rfl ?_; (conv => whnf); refine ⟨?_, ?_⟩)
      | (refine W.drawn rfl rfl ?_; refine D.run TOK 220 hΓ 1000 ?_; (conv => whnf); refine ⟨?_, ?_⟩)
    all_goals (repeat' apply And.intro)
    all_goals try (first
      | exact trivial
      | exact rfl
      | exact fun _ _ => A.sim.refl _
      | exact A.sim.refl _
      | exact Nat.le_refl _
      | omega
      | exact fun _ _ => trivial
      | exact fun i _ => shift_sim _ _ i
      | exact fun _ h => absurd h (Nat.not_lt_zero _)
      | exact fun i _ => isInt_byteAt _ i
      | (simp only [allP, List.nil_append, List.append_nil, List.cons_append, List.append_eq, and_true, true_and, inr_i64, inr_u8, inr_u64, min_i64, max_i64, min_u64, max_u64, min_u8, max_u8, A.purePL, A.pureP, A.sureP, A.surePL, Int.toNat_natCast, Int.reduceToNat, addI, cHi, cLo, hiN, loN, subO, addO, hasIdx, cond_true, cond_false]; first | done | omega | ((repeat' apply And.intro) <;> first | exact trivial | rfl | omega | decide))
      )
    refine W.loopA (Nat × Nat) (fun x => a ≤ x.1 ∧ x.1 ≤ x.2 ∧ x.2 ≤ m ∧ (x.1 = a ∨ (lessN G) (HP.at_ d m) (HP.at_ d (x.1 - 1)) = false) ∧ (x.2 = m ∨ (lessN G) (HP.at_ d m) (HP.at_ d x.2) = true)) (fun x => x.2 - x.1) (fun x => [(14, .int .i64 (x.1 : Nat)), (15, .int .i64 (x.2 : Nat))]) (fun _ => []) [] ((a, m)) (⟨Nat.le_refl _, by simp only; omega, Nat.le_refl _, .inl rfl, .inl rfl⟩) ?_
    (conv => whnf); refine ⟨?_, ?_⟩; focus ((conv => whnf); refine ⟨rfl, rfl, rfl, rfl, rfl, rfl, ?_, ?_⟩; iterate 2 (focus ((repeat' apply And.intro) <;> first | exact trivial | (intro i _; rw [Nat.zero_add]; exact A.sim.refl _) | with_reducible exact rfl | exact fun _ _ => A.sim.refl _ | exact A.sim.refl _ | exact rfl | exact Nat.le_refl _ | omega | exact fun i _ => shift_sim _ _ i | exact fun _ _ => trivial | exact fun _ h => absurd h (Nat.not_lt_zero _))))
    rintro ⟨i, j⟩ ⟨j1, j2, j3, j4, j5⟩ ih
    simp only at j1 j2 j3 j4 j5
    by_cases hij : i < j
    · have hh : (i + j) / 2 < j ∧ i ≤ (i + j) / 2 := by omega
      repeat' first
        | assumption
        | exact Bool.noConfusion hb
        | exact absurd hb (by decide)
        | (exfalso; omega)
        | (exfalso; simp at hb; done)
        | (refine W.branch rfl (fun hb => ?_) (fun hb => ?_) <;> ((try simp only [decide_eq_true_eq, decide_eq_false_iff_not, Bool.not_eq_true', Bool.not_eq_false', Int.not_lt, Int.not_le, cond_true, cond_false, reduceCtorEq, Int.toNat_natCast, Int.reduceToNat, addI] at hb); (try replace hb := of_decide_eq_true hb); (try replace hb := of_decide_eq_false hb)))
        | (refine W.go Tm17OK 220 hΓ 1000 rfl ?_; (conv => whnf); refine ⟨?_, ?_⟩)
      all_goals (repeat' apply And.intro)
      all_goals try (first
        | exact trivial
        | exact rfl
        | exact fun _ _ => A.sim.refl _
        | exact A.sim.refl _
        | exact Nat.le_refl _
        | omega
        | exact fun _ _ => trivial
        | exact fun i _ => shift_sim _ _ i
        | exact fun _ h => absurd h (Nat.not_lt_zero _)
        | exact fun i _ => isInt_byteAt _ i
        | (simp only [allP, List.nil_append, List.append_nil, List.cons_append, List.append_eq, and_true, true_and, inr_i64, inr_u8, inr_u64, min_i64, max_i64, min_u64, max_u64, min_u8, max_u8, A.purePL, A.pureP, A.sureP, A.surePL, Int.toNat_natCast, Int.reduceToNat, addI, cHi, cLo, hiN, loN, subO, addO, hasIdx, cond_true, cond_false]; first | done | omega | ((repeat' apply And.intro) <;> first | exact trivial | rfl | omega | decide))
        )
      refine W.seeA ([(16, .int .i64 (((i + j) / 2 : Nat) : Int))]) ([(1003, some (.arr 1 (d).length (lsA A.str (d))))]) [] ?_
      (conv => whnf); refine ⟨?_, ?_⟩; focus ((conv => whnf); refine ⟨rfl, rfl, rfl, rfl, rfl, rfl, ?_, ?_⟩; iterate 2 (focus ((repeat' apply And.intro) <;> first | exact trivial | (intro i _; rw [Nat.zero_add]; exact A.sim.refl _) | with_reducible exact rfl | exact fun _ _ => A.sim.refl _ | exact A.sim.refl _ | exact rfl | exact Nat.le_refl _ | omega | exact fun i _ => shift_sim _ _ i | exact fun _ _ => trivial | exact fun _ h => absurd h (Nat.not_lt_zero _) | exact half_ok (by omega))))
      obtain ⟨h, hhe⟩ : ∃ h, h = (i + j) / 2 := ⟨_, rfl⟩
      rw [← hhe] at hh ⊢
      cases ht : (lessN G) (HP.at_ d m) (HP.at_ d h) with
      | true =>
        have hneg : lessF G (HP.at_ d m) (HP.at_ d h) < 0 := of_decide_eq_true ht
        repeat' first
          | assumption
          | exact Bool.noConfusion hb
          | exact absurd hb (by decide)
          | (exfalso; omega)
          | (exfalso; simp at hb; done)
          | exact absurd hneg hb
          | (refine W.toA (ih (i, h) ?_ ?_) ?_; rotate_left 2; (conv => whnf); refine ⟨rfl, rfl, rfl, rfl, rfl, rfl, ?_, ?_⟩; iterate 2 (focus ((repeat' apply And.intro) <;> first | exact trivial | (intro i _; rw [Nat.zero_add]; exact A.sim.refl _) | with_reducible exact rfl | exact fun _ _ => A.sim.refl _ | exact A.sim.refl _ | exact rfl | exact Nat.le_refl _ | omega | exact fun i _ => shift_sim _ _ i | exact fun _ _ => trivial | exact fun _ h => absurd h (Nat.not_lt_zero _) | exact hsl | exact hsl.symm | exact Nat.le_of_eq hsl | exact Nat.le_of_eq hsl.symm | exact ⟨rfl, rfl, rfl, rfl⟩ | exact ⟨rfl, rfl, rfl⟩ | exact ⟨rfl, rfl⟩)))
          | (refine W.branch rfl (fun hb => ?_) (fun hb => ?_) <;> ((try simp only [decide_eq_true_eq, decide_eq_false_iff_not, Bool.not_eq_true', Bool.not_eq_false', Int.not_lt, Int.not_le, cond_true, cond_false, reduceCtorEq, Int.toNat_natCast, Int.reduceToNat, addI] at hb); (try replace hb := of_decide_eq_true hb); (try replace hb := of_decide_eq_false hb)))
          | (refine D.branch rfl (fun hb => ?_) (fun hb => ?_) <;> ((try simp only [decide_eq_true_eq, decide_eq_false_iff_not, Bool.not_eq_true', Bool.not_eq_false', Int.not_lt, Int.not_le, cond_true, cond_false, reduceCtorEq, Int.toNat_natCast, Int.reduceToNat, addI] at hb); (try replace hb := of_decide_eq_true hb); (try replace hb := of_decide_eq_false hb)))
          | (refine D.callAR (order1_does (HP.at_ d m) (HP.at_ d h) ks G) rfl rfl rfl rfl hΓ rfl ?_; (conv => whnf); refine ⟨rfl, rfl, rfl, rfl, ?_, ?_, ?_, ?_, ?_⟩; iterate 4 (focus ((repeat' apply And.intro) <;> first | exact trivial | (intro i _; rw [Nat.zero_add]; exact A.sim.refl _) | with_reducible exact rfl | exact fun _ _ => A.sim.refl _ | exact A.sim.refl _ | exact rfl | exact Nat.le_refl _ | omega | exact fun i _ => shift_sim _ _ i | exact fun _ _ => trivial | exact fun _ h => absurd h (Nat.not_lt_zero _) | exact hsl | exact hsl.symm | exact Nat.le_of_eq hsl | exact Nat.le_of_eq hsl.symm | exact ⟨rfl, rfl, rfl, rfl⟩ | exact ⟨rfl, rfl, rfl⟩ | exact ⟨rfl, rfl⟩)); (conv => whnf))
          | (refine W.callA (order1_does (HP.at_ d m) (HP.at_ d h) ks G) rfl rfl rfl rfl hΓ rfl ?_; (conv => whnf); refine ⟨rfl, rfl, ?_, ?_, ?_, ?_⟩; iterate 3 (focus ((repeat' apply And.intro) <;> first | exact trivial | (intro i _; rw [Nat.zero_add]; exact A.sim.refl _) | with_reducible exact rfl | exact fun _ _ => A.sim.refl _ | exact A.sim.refl _ | exact rfl | exact Nat.le_refl _ | omega | exact fun i _ => shift_sim _ _ i | exact fun _ _ => trivial | exact fun _ h => absurd h (Nat.not_lt_zero _) | exact hsl | exact hsl.symm | exact Nat.le_of_eq hsl | exact Nat.le_of_eq hsl.symm | exact ⟨rfl, rfl, rfl, rfl⟩ | exact ⟨rfl, rfl, rfl⟩ | exact ⟨rfl, rfl⟩)); (conv => whnf))
          | (refine W.go TOK 220 hΓ 1000 rfl ?_; (conv => whnf); refine ⟨?_, ?_⟩)
          | (refine D.go TOK 220 hΓ 1000 rfl ?_; (conv => whnf); refine ⟨?_, ?_⟩)
          | (refine W.drawn rfl rfl ?_; refine D.run TOK 220 hΓ 1000 ?_; (conv => whnf); refine ⟨?_, ?_⟩)
        all_goals (repeat' apply And.intro)
        all_goals try (first
          | exact trivial
          | exact rfl
          | exact fun _ _ => A.sim.refl _
          | exact A.sim.refl _
          | exact Nat.le_refl _
          | omega
          | exact fun _ _ => trivial
          | exact fun i _ => shift_sim _ _ i
          | exact fun _ h => absurd h (Nat.not_lt_zero _)
          | exact fun i _ => isInt_byteAt _ i
          | exact ⟨j1, by simp only; omega, by simp only; omega, j4, .inr ht⟩
          | (simp only [allP, List.nil_append, List.append_nil, List.cons_append, List.append_eq, and_true, true_and, inr_i64, inr_u8, inr_u64, min_i64, max_i64, min_u64, max_u64, min_u8, max_u8, A.purePL, A.pureP, A.sureP, A.surePL, Int.toNat_natCast, Int.reduceToNat, addI, cHi, cLo, hiN, loN, subO, addO, hasIdx, cond_true, cond_false]; first | done | omega | ((repeat' apply And.intro) <;> first | exact trivial | rfl | omega | decide))
          | exact .inr ht
          | (refine .inr ?_; simp only; rw [hq, Nat.add_sub_cancel]; exact ht)
          | (simp only; omega)
          )
      | false =>
        have hneg : ¬ lessF G (HP.at_ d m) (HP.at_ d h) < 0 := of_decide_eq_false ht
        repeat' first
          | assumption
          | exact Bool.noConfusion hb
          | exact absurd hb (by decide)
          | (exfalso; omega)
          | (exfalso; simp at hb; done)
          | exact absurd hb hneg
          | (refine W.toA (ih (h + 1, j) ?_ ?_) ?_; rotate_left 2; (conv => whnf); refine ⟨rfl, rfl, rfl, rfl, rfl, rfl, ?_, ?_⟩; iterate 2 (focus ((repeat' apply And.intro) <;> first | exact trivial | (intro i _; rw [Nat.zero_add]; exact A.sim.refl _) | with_reducible exact rfl | exact fun _ _ => A.sim.refl _ | exact A.sim.refl _ | exact rfl | exact Nat.le_refl _ | omega | exact fun i _ => shift_sim _ _ i | exact fun _ _ => trivial | exact fun _ h => absurd h (Nat.not_lt_zero _) | exact hsl | exact hsl.symm | exact Nat.le_of_eq hsl | exact Nat.le_of_eq hsl.symm | exact ⟨rfl, rfl, rfl, rfl⟩ | exact ⟨rfl, rfl, rfl⟩ | exact ⟨rfl, rfl⟩)))
          | (refine W.branch rfl (fun hb => ?_) (fun hb => ?_) <;> ((try simp only [decide_eq_true_eq, decide_eq_false_iff_not, Bool.not_eq_true', Bool.not_eq_false', Int.not_lt, Int.not_le, cond_true, cond_false, reduceCtorEq, Int.toNat_natCast, Int.reduceToNat, addI] at hb); (try replace hb := of_decide_eq_true hb); (try replace hb := of_decide_eq_false hb)))
          | (refine D.branch rfl (fun hb => ?_) (fun hb => ?_) <;> ((try simp only [decide_eq_true_eq, decide_eq_false_iff_not, Bool.not_eq_true', Bool.not_eq_false', Int.not_lt, Int.not_le, cond_true, cond_false, reduceCtorEq, Int.toNat_natCast, Int.reduceToNat, addI] at hb); (try replace hb := of_decide_eq_true hb); (try replace hb := of_decide_eq_false hb)))
          | (refine D.callAR (order1_does (HP.at_ d m) (HP.at_ d h) ks G) rfl rfl rfl rfl hΓ rfl ?_; (conv => whnf); refine ⟨rfl, rfl, rfl, rfl, ?_, ?_, ?_, ?_, ?_⟩; iterate 4 (focus ((repeat' apply And.intro) <;> first | exact trivial | (intro i _; rw [Nat.zero_add]; exact A.sim.refl _) | with_reducible exact rfl | exact fun _ _ => A.sim.refl _ | exact A.sim.refl _ | exact rfl | exact Nat.le_refl _ | omega | exact fun i _ => shift_sim _ _ i | exact fun _ _ => trivial | exact fun _ h => absurd h (Nat.not_lt_zero _) | exact hsl | exact hsl.symm | exact Nat.le_of_eq hsl | exact Nat.le_of_eq hsl.symm | exact ⟨rfl, rfl, rfl, rfl⟩ | exact ⟨rfl, rfl, rfl⟩ | exact ⟨rfl, rfl⟩)); (conv => whnf))
          | (refine W.callA (order1_does (HP.at_ d m) (HP.at_ d h) ks G) rfl rfl rfl rfl hΓ rfl ?_; (conv => whnf); refine ⟨rfl, rfl, ?_, ?_, ?_, ?_⟩; iterate 3 (focus ((repeat' apply And.intro) <;> first | exact trivial | (intro i _; rw [Nat.zero_add]; exact A.sim.refl _) | with_reducible exact rfl | exact fun _ _ => A.sim.refl _ | exact A.sim.refl _ | exact rfl | exact Nat.le_refl _ | omega | exact fun i _ => shift_sim _ _ i | exact fun _ _ => trivial | exact fun _ h => absurd h (Nat.not_lt_zero _) | exact hsl | exact hsl.symm | exact Nat.le_of_eq hsl | exact Nat.le_of_eq hsl.symm | exact ⟨rfl, rfl, rfl, rfl⟩ | exact ⟨rfl, rfl, rfl⟩ | exact ⟨rfl, rfl⟩)); (conv => whnf))
          | (refine W.go TOK 220 hΓ 1000 rfl ?_; (conv => whnf); refine ⟨?_, ?_⟩)
          | (refine D.go TOK 220 hΓ 1000 rfl ?_; (conv => whnf); refine ⟨?_, ?_⟩)
          | (refine W.drawn rfl rfl ?_; refine D.run TOK 220 hΓ 1000 ?_; (conv => whnf); refine ⟨?_, ?_⟩)
        all_goals (repeat' apply And.intro)
        all_goals try (first
          | exact trivial
          | exact rfl
          | exact fun _ _ => A.sim.refl _
          | exact A.sim.refl _
          | exact Nat.le_refl _
          | omega
          | exact fun _ _ => trivial
          | exact fun i _ => shift_sim _ _ i
          | exact fun _ h => absurd h (Nat.not_lt_zero _)
          | exact fun i _ => isInt_byteAt _ i
          | exact ⟨by simp only; omega, by simp only; omega, j3, .inr ht, j5⟩
          | (simp only [allP, List.nil_append, List.append_nil, List.cons_append, List.append_eq, and_true, true_and, inr_i64, inr_u8, inr_u64, min_i64, max_i64, min_u64, max_u64, min_u8, max_u8, A.purePL, A.pureP, A.sureP, A.surePL, Int.toNat_natCast, Int.reduceToNat, addI, cHi, cLo, hiN, loN, subO, addO, hasIdx, cond_true, cond_false]; first | done | omega | ((repeat' apply And.intro) <;> first | exact trivial | rfl | omega | decide))
          | exact .inr ht
          | (refine .inr ?_; simp only; rw [hq, Nat.add_sub_cancel]; exact ht)
          | (simp only; omega)
          )
    · have hije : j = i := by omega
      subst hije
      clear ih
      repeat' first
        | assumption
        | exact Bool.noConfusion hb
        | exact absurd hb (by decide)
        | (exfalso; omega)
        | (exfalso; simp at hb; done)
        | (refine W.branch rfl (fun hb => ?_) (fun hb => ?_) <;> ((try simp only [decide_eq_true_eq, decide_eq_false_iff_not, Bool.not_eq_true', Bool.not_eq_false', Int.not_lt, Int.not_le, cond_true, cond_false, reduceCtorEq, Int.toNat_natCast, Int.reduceToNat, addI] at hb); (try replace hb := of_decide_eq_true hb); (try replace hb := of_decide_eq_false hb)))
        | (refine D.branch rfl (fun hb => ?_) (fun hb => ?_) <;> ((try simp only [decide_eq_true_eq, decide_eq_false_iff_not, Bool.not_eq_true', Bool.not_eq_false', Int.not_lt, Int.not_le, cond_true, cond_false, reduceCtorEq, Int.toNat_natCast, Int.reduceToNat, addI] at hb); (try replace hb := of_decide_eq_true hb); (try replace hb := of_decide_eq_false hb)))
        | (refine W.go TOK 220 hΓ 1000 rfl ?_; (conv => whnf); refine ⟨?_, ?_⟩)
        | (refine D.go TOK 220 hΓ 1000 rfl ?_; (conv => whnf); refine ⟨?_, ?_⟩)
        | (refine W.drawn rfl rfl ?_; refine D.run TOK 220 hΓ 1000 ?_; (conv => whnf); refine ⟨?_, ?_⟩)
      all_goals (repeat' apply And.intro)
      all_goals try (first
        | exact trivial
        | exact rfl
        | exact fun _ _ => A.sim.refl _
        | exact A.sim.refl _
        | exact Nat.le_refl _
        | omega
        | exact fun _ _ => trivial
        | exact fun i _ => shift_sim _ _ i
        | exact fun _ h => absurd h (Nat.not_lt_zero _)
        | exact fun i _ => isInt_byteAt _ i
        | (simp only [allP, List.nil_append, List.append_nil, List.cons_append, List.append_eq, and_true, true_and, inr_i64, inr_u8, inr_u64, min_i64, max_i64, min_u64, max_u64, min_u8, max_u8, A.purePL, A.pureP, A.sureP, A.surePL, Int.toNat_natCast, Int.reduceToNat, addI, cHi, cLo, hiN, loN, subO, addO, hasIdx, cond_true, cond_false]; first | done | omega | ((repeat' apply And.intro) <;> first | exact trivial | rfl | omega | decide))
        )
      refine W.loopA (Nat) (fun k => j ≤ k ∧ k ≤ m) (fun k => k) (fun k => [(0, .own 1 1003 0 (HP.rotS d k m (m + 1)).length), (17, .int .i64 (k : Nat))]) (fun k => [(1003, some (.arr 1 ((HP.rotS d k m (m + 1))).length (lsA A.str ((HP.rotS d k m (m + 1))))))]) [] (m) (⟨j3, Nat.le_refl _⟩) ?_
      (conv => whnf); refine ⟨?_, ?_⟩; focus ((conv => whnf); refine ⟨rfl, rfl, rfl, rfl, rfl, rfl, ?_, ?_⟩; iterate 2 (focus ((repeat' apply And.intro) <;> first | exact trivial | (intro i _; rw [Nat.zero_add]; exact A.sim.refl _) | with_reducible exact rfl | exact fun _ _ => A.sim.refl _ | exact A.sim.refl _ | exact rfl | exact Nat.le_refl _ | omega | exact fun i _ => shift_sim _ _ i | exact fun _ _ => trivial | exact fun _ h => absurd h (Nat.not_lt_zero _) | exact (congrArg List.length (HP.rot_id2 d m (m + 1))).symm | exact Nat.le_of_eq (congrArg List.length (HP.rot_id2 d m (m + 1))) | exact fun k _ => A.sim.of (by rw [HP.rot_id2]))))
      rintro k ⟨k1, k2⟩ ih
      have hl := HP.rot_len d k m (m + 1)
      by_cases hkj : j < k
      · have hi9 : (k : Int) - 1 = ((k - 1 : Nat) : Int) := by omega
        have hx : (HP.rotS d k m (m + 1)).getD (addI 0 ((k : Int) - 1)) default = HP.at_ (HP.rotS d k m (m + 1)) (k - 1) := by show (HP.rotS d k m (m + 1)).getD ((k : Int) - 1).toNat default = _; rw [show ((k : Int) - 1).toNat = k - 1 by omega]
        have hsl : (HP.rotS d k m (m + 1)).length = (HP.rotS d (k - 1) m (m + 1)).length := by rw [HP.rot_len, HP.rot_len]
        have hsw := ls_swap (f := A.str) (a := (HP.rotS d k m (m + 1))) (i := k) (j := k - 1) (by omega) (by omega) (m := (HP.rotS d (k - 1) m (m + 1)).length)
        rw [HP.rot_down (by omega) k2 (by omega)] at hsw
        have hsw2 : ∀ q, q < (HP.rotS d (k - 1) m (m + 1)).length → (setF (setF (lsA A.str (HP.rotS d k m (m + 1))) (addI 0 (k : Int)) (A.str ((HP.rotS d k m (m + 1)).getD (addI 0 ((k : Int) - 1)) default))) (addI 0 ((k : Int) - 1)) (A.str (HP.at_ (HP.rotS d k m (m + 1)) k)) q).sim (lsA A.str (HP.rotS d (k - 1) m (m + 1)) q) := by
          rw [hx, show addI 0 ((k : Int) - 1) = k - 1 by show ((k : Int) - 1).toNat = _; omega]
          exact hsw
        repeat' first
          | assumption
          | exact Bool.noConfusion hb
          | exact absurd hb (by decide)
          | (exfalso; omega)
          | (exfalso; simp at hb; done)
          | (refine W.toA (ih (k - 1) ?_ ?_) ?_; rotate_left 2; (conv => whnf); refine ⟨rfl, rfl, rfl, rfl, rfl, rfl, ?_, ?_⟩; iterate 2 (focus ((repeat' apply And.intro) <;> first | exact trivial | (intro i _; rw [Nat.zero_add]; exact A.sim.refl _) | with_reducible exact rfl | exact fun _ _ => A.sim.refl _ | exact A.sim.refl _ | exact rfl | exact Nat.le_refl _ | omega | exact fun i _ => shift_sim _ _ i | exact fun _ _ => trivial | exact fun _ h => absurd h (Nat.not_lt_zero _) | exact hsl | exact hsl.symm | exact Nat.le_of_eq hsl | exact Nat.le_of_eq hsl.symm | exact ⟨rfl, rfl, rfl, rfl⟩ | exact ⟨rfl, rfl, rfl⟩ | exact ⟨rfl, rfl⟩ | exact hi9 | exact hi9.symm | exact hsw2)))
          | (refine W.branch rfl (fun hb => ?_) (fun hb => ?_) <;> ((try simp only [decide_eq_true_eq, decide_eq_false_iff_not, Bool.not_eq_true', Bool.not_eq_false', Int.not_lt, Int.not_le, cond_true, cond_false, reduceCtorEq, Int.toNat_natCast, Int.reduceToNat, addI] at hb); (try replace hb := of_decide_eq_true hb); (try replace hb := of_decide_eq_false hb)))
          | (refine D.branch rfl (fun hb => ?_) (fun hb => ?_) <;> ((try simp only [decide_eq_true_eq, decide_eq_false_iff_not, Bool.not_eq_true', Bool.not_eq_false', Int.not_lt, Int.not_le, cond_true, cond_false, reduceCtorEq, Int.toNat_natCast, Int.reduceToNat, addI] at hb); (try replace hb := of_decide_eq_true hb); (try replace hb := of_decide_eq_false hb)))
          | (refine W.go TOK 220 hΓ 1000 rfl ?_; (conv => whnf); refine ⟨?_, ?_⟩)
          | (refine D.go TOK 220 hΓ 1000 rfl ?_; (conv => whnf); refine ⟨?_, ?_⟩)
          | (refine W.drawn rfl rfl ?_; refine D.run TOK 220 hΓ 1000 ?_; (conv => whnf); refine ⟨?_, ?_⟩)
        all_goals (repeat' apply And.intro)
        all_goals try (first
          | exact trivial
          | exact rfl
          | exact fun _ _ => A.sim.refl _
          | exact A.sim.refl _
          | exact Nat.le_refl _
          | omega
          | exact fun _ _ => trivial
          | exact fun i _ => shift_sim _ _ i
          | exact fun _ h => absurd h (Nat.not_lt_zero _)
          | exact fun i _ => isInt_byteAt _ i
          | exact ⟨by omega, by omega⟩
          | (simp only [allP, List.nil_append, List.append_nil, List.cons_append, List.append_eq, and_true, true_and, inr_i64, inr_u8, inr_u64, min_i64, max_i64, min_u64, max_u64, min_u8, max_u8, A.purePL, A.pureP, A.sureP, A.surePL, Int.toNat_natCast, Int.reduceToNat, addI, cHi, cLo, hiN, loN, subO, addO, hasIdx, cond_true, cond_false]; first | done | omega | ((repeat' apply And.intro) <;> first | exact trivial | rfl | omega | decide))
          )
      · have hke : k = j := by omega
        subst hke
        have hfin : HP.sortSeg (lessN G) d a b = HP.rotS d k m (m + 1) := by
          subst hB1
          exact (HP.sortSeg_of (lessN_ord G) (by omega) hbl ((HP.rot_mv j3 (Nat.le_succ m) (by omega)).mono j1 (Nat.le_refl _)) (HP.down_srt (lessN_ord G) hs1 j1 j3 (by omega) j4 j5)).symm
        rw [hfin]
        repeat' first
          | assumption
          | exact Bool.noConfusion hb
          | exact absurd hb (by decide)
          | (exfalso; omega)
          | (exfalso; simp at hb; done)
          | (refine W.retA TOK rfl ?_; (conv => whnf); refine ⟨rfl, rfl, rfl, rfl, rfl, rfl, ?_, ?_, ?_⟩)
          | (refine W.endA TOK rfl ?_; (conv => whnf); refine ⟨rfl, rfl, rfl, rfl, rfl, rfl, ?_, ?_, ?_⟩)
          | (refine W.branch rfl (fun hb => ?_) (fun hb => ?_) <;> ((try simp only [decide_eq_true_eq, decide_eq_false_iff_not, Bool.not_eq_true', Bool.not_eq_false', Int.not_lt, Int.not_le, cond_true, cond_false, reduceCtorEq, Int.toNat_natCast, Int.reduceToNat, addI] at hb); (try replace hb := of_decide_eq_true hb); (try replace hb := of_decide_eq_false hb)))
          | (refine D.branch rfl (fun hb => ?_) (fun hb => ?_) <;> ((try simp only [decide_eq_true_eq, decide_eq_false_iff_not, Bool.not_eq_true', Bool.not_eq_false', Int.not_lt, Int.not_le, cond_true, cond_false, reduceCtorEq, Int.toNat_natCast, Int.reduceToNat, addI] at hb); (try replace hb := of_decide_eq_true hb); (try replace hb := of_decide_eq_false hb)))
          | (refine W.go TOK 220 hΓ 1000 rfl ?_; (conv => whnf); refine ⟨?_, ?_⟩)
          | (refine D.go TOK 220 hΓ 1000 rfl ?_; (conv => whnf); refine ⟨?_, ?_⟩)
          | (refine W.drawn rfl rfl ?_; refine D.run TOK 220 hΓ 1000 ?_; (conv => whnf); refine ⟨?_, ?_⟩)
        all_goals (repeat' apply And.intro)
        all_goals try (first
          | exact trivial
          | exact rfl
          | exact fun _ _ => A.sim.refl _
          | exact A.sim.refl _
          | exact Nat.le_refl _
          | omega
          | exact fun _ _ => trivial
          | exact fun i _ => shift_sim _ _ i
          | exact fun _ h => absurd h (Nat.not_lt_zero _)
          | exact fun i _ => isInt_byteAt _ i
          | exact hsl
          | exact hsl.symm
          | exact Nat.le_of_eq hsl
          | exact Nat.le_of_eq hsl.symm
          | exact ⟨rfl, rfl, rfl, rfl⟩
          | exact ⟨rfl, rfl, rfl⟩
          | exact ⟨rfl, rfl⟩
          | (simp only [allP, List.nil_append, List.append_nil, List.cons_append, List.append_eq, and_true, true_and, inr_i64, inr_u8, inr_u64, min_i64, max_i64, min_u64, max_u64, min_u8, max_u8, A.purePL, A.pureP, A.sureP, A.surePL, Int.toNat_natCast, Int.reduceToNat, addI, cHi, cLo, hiN, loN, subO, addO, hasIdx, cond_true, cond_false]; first | done | omega | ((repeat' apply And.intro) <;> first | exact trivial | rfl | omega | decide))
          )
  have hA3 : ¬ (m : Int) - (a : Int) = 1 := by omega
  have hB3 : ¬ (b : Int) - (m : Int) = 1 := by omega
  refine Does.intro (fn := Try.f24) Try.func24 rfl rfl fun Γ hΓ => ?_
  refine W.run Tm25OK 220 hΓ 1000 ?_
  conv => whnf
  refine ⟨?_, ?_⟩
  repeat' first
    | assumption
    | exact Bool.noConfusion hb
    | exact absurd hb (by decide)
    | (exfalso; omega)
    | (exfalso; simp at hb; done)
    | (refine W.branch rfl (fun hb => ?_) (fun hb => ?_) <;> ((try simp only [decide_eq_true_eq, decide_eq_false_iff_not, Bool.not_eq_true', Bool.not_eq_false', Int.not_lt, Int.not_le, cond_true, cond_false, reduceCtorEq, Int.toNat_natCast, Int.reduceToNat, addI] at hb); (try replace hb := of_decide_eq_true hb); (try replace hb := of_decide_eq_false hb)))
    | (refine W.go Tm25OK 220 hΓ 1000 rfl ?_; (conv => whnf); refine ⟨?_, ?_⟩)
  all_goals (repeat' apply And.intro)
  all_goals try (first
    | exact trivial
    | exact rfl
    | exact fun _ _ => A.sim.refl _
    | exact A.sim.refl _
    | exact Nat.le_refl _
    | omega
    | exact fun _ _ => trivial
    | exact fun i _ => shift_sim _ _ i
    | exact fun _ h => absurd h (Nat.not_lt_zero _)
    | exact fun i _ => isInt_byteAt _ i
    | (simp only [allP, List.nil_append, List.append_nil, List.cons_append, List.append_eq, and_true, true_and, inr_i64, inr_u8, inr_u64, min_i64, max_i64, min_u64, max_u64, min_u8, max_u8, A.purePL, A.pureP, A.sureP, A.surePL, Int.toNat_natCast, Int.reduceToNat, addI, cHi, cLo, hiN, loN, subO, addO, hasIdx, cond_true, cond_false]; first | done | omega | ((repeat' apply And.intro) <;> first | exact trivial | rfl | omega | decide))
    )
  refine W.seeA ([(18, .int .i64 (((a + b) / 2 : Nat) : Int))]) ([(1003, some (.arr 1 (d).length (lsA A.str (d))))]) [] ?_
  (conv => whnf); refine ⟨?_, ?_⟩; focus ((conv => whnf); refine ⟨rfl, rfl, rfl, rfl, rfl, rfl, ?_, ?_⟩; iterate 2 (focus ((repeat' apply And.intro) <;> first | exact trivial | (intro i _; rw [Nat.zero_add]; exact A.sim.refl _) | with_reducible exact rfl | exact fun _ _ => A.sim.refl _ | exact A.sim.refl _ | exact rfl | exact Nat.le_refl _ | omega | exact fun i _ => shift_sim _ _ i | exact fun _ _ => trivial | exact fun _ h => absurd h (Nat.not_lt_zero _) | exact half_ok (by omega))))
  obtain ⟨mid, hmid⟩ : ∃ mid, mid = (a + b) / 2 := ⟨_, rfl⟩
  rw [← hmid]
  obtain ⟨lo, hi, hlo, hhi, hlh⟩ : ∃ lo hi : Nat, (m > mid → lo = mid + m - b ∧ hi = mid) ∧ (¬ m > mid → lo = a ∧ hi = m) ∧ (a ≤ lo ∧ lo ≤ hi ∧ hi ≤ m ∧ hi ≤ mid ∧ mid + m ≤ lo + b ∧ (lo = a ∨ lo + b = mid + m) ∧ (hi = m ∨ hi = mid)) := by
    by_cases h : m > mid
    · exact ⟨mid + m - b, mid, fun _ => ⟨rfl, rfl⟩, fun h2 => absurd h h2, by omega⟩
    · exact ⟨a, m, fun h2 => absurd h2 h, fun _ => ⟨rfl, rfl⟩, by omega⟩
  have hgo : ∀ (τ1 : List (Nat × A)), True := fun _ => trivial
  clear hgo
  by_cases hmm : m > mid
  · obtain ⟨hlo1, hhi1⟩ := hlo hmm
    repeat' first
      | assumption
      | exact Bool.noConfusion hb
      | exact absurd hb (by decide)
      | (exfalso; omega)
      | (exfalso; simp at hb; done)
      | (refine W.branch rfl (fun hb => ?_) (fun hb => ?_) <;> ((try simp only [decide_eq_true_eq, decide_eq_false_iff_not, Bool.not_eq_true', Bool.not_eq_false', Int.not_lt, Int.not_le, cond_true, cond_false, reduceCtorEq, Int.toNat_natCast, Int.reduceToNat, addI] at hb); (try replace hb := of_decide_eq_true hb); (try replace hb := of_decide_eq_false hb)))
      | (refine D.branch rfl (fun hb => ?_) (fun hb => ?_) <;> ((try simp only [decide_eq_true_eq, decide_eq_false_iff_not, Bool.not_eq_true', Bool.not_eq_false', Int.not_lt, Int.not_le, cond_true, cond_false, reduceCtorEq, Int.toNat_natCast, Int.reduceToNat, addI] at hb); (try replace hb := of_decide_eq_true hb); (try replace hb := of_decide_eq_false hb)))
      | (refine W.go TOK 220 hΓ 1000 rfl ?_; (conv => whnf); refine ⟨?_, ?_⟩)
      | (refine D.go TOK 220 hΓ 1000 rfl ?_; (conv => whnf); refine ⟨?_, ?_⟩)
      | (refine W.drawn rfl rfl ?_; refine D.run TOK 220 hΓ 1000 ?_; (conv => whnf); refine ⟨?_, ?_⟩)
    all_goals (repeat' apply And.intro)
    all_goals try (first
      | exact trivial
      | exact rfl
      | exact fun _ _ => A.sim.refl _
      | exact A.sim.refl _
      | exact Nat.le_refl _
      | omega
      | exact fun _ _ => trivial
      | exact fun i _ => shift_sim _ _ i
      | exact fun _ h => absurd h (Nat.not_lt_zero _)
      | exact fun i _ => isInt_byteAt _ i
      | (simp only [allP, List.nil_append, List.append_nil, List.cons_append, List.append_eq, and_true, true_and, inr_i64, inr_u8, inr_u64, min_i64, max_i64, min_u64, max_u64, min_u8, max_u8, A.purePL, A.pureP, A.sureP, A.surePL, Int.toNat_natCast, Int.reduceToNat, addI, cHi, cLo, hiN, loN, subO, addO, hasIdx, cond_true, cond_false]; first | done | omega | ((repeat' apply And.intro) <;> first | exact trivial | rfl | omega | decide))
      )
    refine W.loopA (Nat × Nat) (fun x => lo ≤ x.1 ∧ x.1 ≤ x.2 ∧ x.2 ≤ hi ∧ (x.1 = lo ∨ (lessN G) (HP.at_ d (mid + m - x.1)) (HP.at_ d (x.1 - 1)) = false) ∧ (x.2 = hi ∨ (lessN G) (HP.at_ d (mid + m - 1 - x.2)) (HP.at_ d x.2) = true)) (fun x => x.2 - x.1) (fun x => [(20, .int .i64 (x.1 : Nat)), (21, .int .i64 (x.2 : Nat)), (19, .int .i64 ((mid + m : Nat) : Int)), (22, .int .i64 ((mid + m - 1 : Nat) : Int))]) (fun _ => []) [] ((lo, hi)) (⟨Nat.le_refl _, hlh.2.1, Nat.le_refl _, .inl rfl, .inl rfl⟩) ?_
    (conv => whnf); refine ⟨?_, ?_⟩; focus ((conv => whnf); refine ⟨rfl, rfl, rfl, rfl, rfl, rfl, ?_, ?_⟩; iterate 2 (focus ((repeat' apply And.intro) <;> first | exact trivial | (intro i _; rw [Nat.zero_add]; exact A.sim.refl _) | with_reducible exact rfl | exact fun _ _ => A.sim.refl _ | exact A.sim.refl _ | exact rfl | exact Nat.le_refl _ | omega | exact fun i _ => shift_sim _ _ i | exact fun _ _ => trivial | exact fun _ h => absurd h (Nat.not_lt_zero _) | (simp only; omega) | (show (mid : Int) + (m : Int) = ((mid + m : Nat) : Int); omega) | (show (mid : Int) + (m : Int) - 1 = ((mid + m - 1 : Nat) : Int); omega) | (show (mid : Int) + (m : Int) - (b : Int) = (lo : Nat); omega) | (show (mid : Int) = (hi : Nat); omega) | (show (a : Int) = (lo : Nat); omega) | (show (m : Int) = (hi : Nat); omega))))
    rintro ⟨s, r⟩ ⟨j1, j2, j3, j4, j5⟩ ih
    simp only at j1 j2 j3 j4 j5
    by_cases hsr : s < r
    · have hh : (s + r) / 2 < r ∧ s ≤ (s + r) / 2 := by omega
      repeat' first
        | assumption
        | exact Bool.noConfusion hb
        | exact absurd hb (by decide)
        | (exfalso; omega)
        | (exfalso; simp at hb; done)
        | (refine W.branch rfl (fun hb => ?_) (fun hb => ?_) <;> ((try simp only [decide_eq_true_eq, decide_eq_false_iff_not, Bool.not_eq_true', Bool.not_eq_false', Int.not_lt, Int.not_le, cond_true, cond_false, reduceCtorEq, Int.toNat_natCast, Int.reduceToNat, addI] at hb); (try replace hb := of_decide_eq_true hb); (try replace hb := of_decide_eq_false hb)))
        | (refine W.go Tm35OK 220 hΓ 1000 rfl ?_; (conv => whnf); refine ⟨?_, ?_⟩)
      all_goals (repeat' apply And.intro)
      all_goals try (first
        | exact trivial
        | exact rfl
        | exact fun _ _ => A.sim.refl _
        | exact A.sim.refl _
        | exact Nat.le_refl _
        | omega
        | exact fun _ _ => trivial
        | exact fun i _ => shift_sim _ _ i
        | exact fun _ h => absurd h (Nat.not_lt_zero _)
        | exact fun i _ => isInt_byteAt _ i
        | (simp only [allP, List.nil_append, List.append_nil, List.cons_append, List.append_eq, and_true, true_and, inr_i64, inr_u8, inr_u64, min_i64, max_i64, min_u64, max_u64, min_u8, max_u8, A.purePL, A.pureP, A.sureP, A.surePL, Int.toNat_natCast, Int.reduceToNat, addI, cHi, cLo, hiN, loN, subO, addO, hasIdx, cond_true, cond_false]; first | done | omega | ((repeat' apply And.intro) <;> first | exact trivial | rfl | omega | decide))
        )
      refine W.seeA ([(23, .int .i64 (((s + r) / 2 : Nat) : Int))]) ([(1003, some (.arr 1 (d).length (lsA A.str (d))))]) [] ?_
      (conv => whnf); refine ⟨?_, ?_⟩; focus ((conv => whnf); refine ⟨rfl, rfl, rfl, rfl, rfl, rfl, ?_, ?_⟩; iterate 2 (focus ((repeat' apply And.intro) <;> first | exact trivial | (intro i _; rw [Nat.zero_add]; exact A.sim.refl _) | with_reducible exact rfl | exact fun _ _ => A.sim.refl _ | exact A.sim.refl _ | exact rfl | exact Nat.le_refl _ | omega | exact fun i _ => shift_sim _ _ i | exact fun _ _ => trivial | exact fun _ h => absurd h (Nat.not_lt_zero _) | exact half_ok (by omega))))
      obtain ⟨h, hhe⟩ : ∃ h, h = (s + r) / 2 := ⟨_, rfl⟩
      rw [← hhe] at hh ⊢
      have hpc : ((mid + m - 1 : Nat) : Int) - (h : Int) = ((mid + m - 1 - h : Nat) : Int) := by omega
      have hx : d.getD (addI 0 (((mid + m - 1 : Nat) : Int) - (h : Int))) default = HP.at_ d (mid + m - 1 - h) := by show d.getD (((mid + m - 1 : Nat) : Int) - (h : Int)).toNat default = _; rw [hpc]; rfl
      cases ht : (lessN G) (HP.at_ d (mid + m - 1 - h)) (HP.at_ d h) with
      | true =>
        have hneg : lessF G (HP.at_ d (mid + m - 1 - h)) (HP.at_ d h) < 0 := of_decide_eq_true ht
        repeat' first
          | assumption
          | exact Bool.noConfusion hb
          | exact absurd hb (by decide)
          | (exfalso; omega)
          | (exfalso; simp at hb; done)
          | exact absurd hneg hb
          | (refine W.toA (ih (s, h) ?_ ?_) ?_; rotate_left 2; (conv => whnf); refine ⟨rfl, rfl, rfl, rfl, rfl, rfl, ?_, ?_⟩; iterate 2 (focus ((repeat' apply And.intro) <;> first | exact trivial | (intro i _; rw [Nat.zero_add]; exact A.sim.refl _) | with_reducible exact rfl | exact fun _ _ => A.sim.refl _ | exact A.sim.refl _ | exact rfl | exact Nat.le_refl _ | omega | exact fun i _ => shift_sim _ _ i | exact fun _ _ => trivial | exact fun _ h => absurd h (Nat.not_lt_zero _) | exact hsl | exact hsl.symm | exact Nat.le_of_eq hsl | exact Nat.le_of_eq hsl.symm | exact ⟨rfl, rfl, rfl, rfl⟩ | exact ⟨rfl, rfl, rfl⟩ | exact ⟨rfl, rfl⟩ | exact hx | exact congrArg A.str hx)))
          | (refine W.branch rfl (fun hb => ?_) (fun hb => ?_) <;> ((try simp only [decide_eq_true_eq, decide_eq_false_iff_not, Bool.not_eq_true', Bool.not_eq_false', Int.not_lt, Int.not_le, cond_true, cond_false, reduceCtorEq, Int.toNat_natCast, Int.reduceToNat, addI] at hb); (try replace hb := of_decide_eq_true hb); (try replace hb := of_decide_eq_false hb)))
          | (refine D.branch rfl (fun hb => ?_) (fun hb => ?_) <;> ((try simp only [decide_eq_true_eq, decide_eq_false_iff_not, Bool.not_eq_true', Bool.not_eq_false', Int.not_lt, Int.not_le, cond_true, cond_false, reduceCtorEq, Int.toNat_natCast, Int.reduceToNat, addI] at hb); (try replace hb := of_decide_eq_true hb); (try replace hb := of_decide_eq_false hb)))
          | (refine D.callAR (order1_does (HP.at_ d (mid + m - 1 - h)) (HP.at_ d h) ks G) rfl rfl rfl rfl hΓ rfl ?_; (conv => whnf); refine ⟨rfl, rfl, rfl, rfl, ?_, ?_, ?_, ?_, ?_⟩; iterate 4 (focus ((repeat' apply And.intro) <;> first | exact trivial | (intro i _; rw [Nat.zero_add]; exact A.sim.refl _) | with_reducible exact rfl | exact fun _ _ => A.sim.refl _ | exact A.sim.refl _ | exact rfl | exact Nat.le_refl _ | omega | exact fun i _ => shift_sim _ _ i | exact fun _ _ => trivial | exact fun _ h => absurd h (Nat.not_lt_zero _) | exact hsl | exact hsl.symm | exact Nat.le_of_eq hsl | exact Nat.le_of_eq hsl.symm | exact ⟨rfl, rfl, rfl, rfl⟩ | exact ⟨rfl, rfl, rfl⟩ | exact ⟨rfl, rfl⟩ | exact hx | exact congrArg A.str hx)); (conv => whnf))
          | (refine W.callA (order1_does (HP.at_ d (mid + m - 1 - h)) (HP.at_ d h) ks G) rfl rfl rfl rfl hΓ rfl ?_; (conv => whnf); refine ⟨rfl, rfl, ?_, ?_, ?_, ?_⟩; iterate 3 (focus ((repeat' apply And.intro) <;> first | exact trivial | (intro i _; rw [Nat.zero_add]; exact A.sim.refl _) | with_reducible exact rfl | exact fun _ _ => A.sim.refl _ | exact A.sim.refl _ | exact rfl | exact Nat.le_refl _ | omega | exact fun i _ => shift_sim _ _ i | exact fun _ _ => trivial | exact fun _ h => absurd h (Nat.not_lt_zero _) | exact hsl | exact hsl.symm | exact Nat.le_of_eq hsl | exact Nat.le_of_eq hsl.symm | exact ⟨rfl, rfl, rfl, rfl⟩ | exact ⟨rfl, rfl, rfl⟩ | exact ⟨rfl, rfl⟩ | exact hx | exact congrArg A.str hx)); (conv => whnf))
          | (refine W.go TOK 220 hΓ 1000 rfl ?_; (conv => whnf); refine ⟨?_, ?_⟩)
          | (refine D.go TOK 220 hΓ 1000 rfl ?_; (conv => whnf); refine ⟨?_, ?_⟩)
          | (refine W.drawn rfl rfl ?_; refine D.run TOK 220 hΓ 1000 ?_; (conv => whnf); refine ⟨?_, ?_⟩)
        all_goals (repeat' apply And.intro)
        all_goals try (first
          | exact trivial
          | exact rfl
          | exact fun _ _ => A.sim.refl _
          | exact A.sim.refl _
          | exact Nat.le_refl _
          | omega
          | exact fun _ _ => trivial
          | exact fun i _ => shift_sim _ _ i
          | exact fun _ h => absurd h (Nat.not_lt_zero _)
          | exact fun i _ => isInt_byteAt _ i
          | exact ⟨j1, by simp only; omega, by simp only; omega, j4, .inr ht⟩
          | (simp only [allP, List.nil_append, List.append_nil, List.cons_append, List.append_eq, and_true, true_and, inr_i64, inr_u8, inr_u64, min_i64, max_i64, min_u64, max_u64, min_u8, max_u8, A.purePL, A.pureP, A.sureP, A.surePL, Int.toNat_natCast, Int.reduceToNat, addI, cHi, cLo, hiN, loN, subO, addO, hasIdx, cond_true, cond_false]; first | done | omega | ((repeat' apply And.intro) <;> first | exact trivial | rfl | omega | decide))
          | exact .inr ht
          | (refine .inr ?_; simp only; rw [hq, Nat.add_sub_cancel]; exact ht)
          | (simp only; omega)
          )
      | false =>
        have hneg : ¬ lessF G (HP.at_ d (mid + m - 1 - h)) (HP.at_ d h) < 0 := of_decide_eq_false ht
        have hq : mid + m - (h + 1) = mid + m - 1 - h := by omega
        repeat' first
          | assumption
          | exact Bool.noConfusion hb
          | exact absurd hb (by decide)
          | (exfalso; omega)
          | (exfalso; simp at hb; done)
          | exact absurd hb hneg
          | (refine W.toA (ih (h + 1, r) ?_ ?_) ?_; rotate_left 2; (conv => whnf); refine ⟨rfl, rfl, rfl, rfl, rfl, rfl, ?_, ?_⟩; iterate 2 (focus ((repeat' apply And.intro) <;> first | exact trivial | (intro i _; rw [Nat.zero_add]; exact A.sim.refl _) | with_reducible exact rfl | exact fun _ _ => A.sim.refl _ | exact A.sim.refl _ | exact rfl | exact Nat.le_refl _ | omega | exact fun i _ => shift_sim _ _ i | exact fun _ _ => trivial | exact fun _ h => absurd h (Nat.not_lt_zero _) | exact hsl | exact hsl.symm | exact Nat.le_of_eq hsl | exact Nat.le_of_eq hsl.symm | exact ⟨rfl, rfl, rfl, rfl⟩ | exact ⟨rfl, rfl, rfl⟩ | exact ⟨rfl, rfl⟩ | exact hx | exact congrArg A.str hx)))
          | (refine W.branch rfl (fun hb => ?_) (fun hb => ?_) <;> ((try simp only [decide_eq_true_eq, decide_eq_false_iff_not, Bool.not_eq_true', Bool.not_eq_false', Int.not_lt, Int.not_le, cond_true, cond_false, reduceCtorEq, Int.toNat_natCast, Int.reduceToNat, addI] at hb); (try replace hb := of_decide_eq_true hb); (try replace hb := of_decide_eq_false hb)))
          | (refine D.branch rfl (fun hb => ?_) (fun hb => ?_) <;> ((try simp only [decide_eq_true_eq, decide_eq_false_iff_not, Bool.not_eq_true', Bool.not_eq_false', Int.not_lt, Int.not_le, cond_true, cond_false, reduceCtorEq, Int.toNat_natCast, Int.reduceToNat, addI] at hb); (try replace hb := of_decide_eq_true hb); (try replace hb := of_decide_eq_false hb)))
          | (refine D.callAR (order1_does (HP.at_ d (mid + m - 1 - h)) (HP.at_ d h) ks G) rfl rfl rfl rfl hΓ rfl ?_; (conv => whnf); refine ⟨rfl, rfl, rfl, rfl, ?_, ?_, ?_, ?_, ?_⟩; iterate 4 (focus ((repeat' apply And.intro) <;> first | exact trivial | (intro i _; rw [Nat.zero_add]; exact A.sim.refl _) | with_reducible exact rfl | exact fun _ _ => A.sim.refl _ | exact A.sim.refl _ | exact rfl | exact Nat.le_refl _ | omega | exact fun i _ => shift_sim _ _ i | exact fun _ _ => trivial | exact fun _ h => absurd h (Nat.not_lt_zero _) | exact hsl | exact hsl.symm | exact Nat.le_of_eq hsl | exact Nat.le_of_eq hsl.symm | exact ⟨rfl, rfl, rfl, rfl⟩ | exact ⟨rfl, rfl, rfl⟩ | exact ⟨rfl, rfl⟩ | exact hx | exact congrArg A.str hx)); (conv => whnf))
          | (refine W.callA (order1_does (HP.at_ d (mid + m - 1 - h)) (HP.at_ d h) ks G) rfl rfl rfl rfl hΓ rfl ?_; (conv => whnf); refine ⟨rfl, rfl, ?_, ?_, ?_, ?_⟩; iterate 3 (focus ((repeat' apply And.intro) <;> first | exact trivial | (intro i _; rw [Nat.zero_add]; exact A.sim.refl _) | with_reducible exact rfl | exact fun _ _ => A.sim.refl _ | exact A.sim.refl _ | exact rfl | exact Nat.le_refl _ | omega | exact fun i _ => shift_sim _ _ i | exact fun _ _ => trivial | exact fun _ h => absurd h (Nat.not_lt_zero _) | exact hsl | exact hsl.symm | exact Nat.le_of_eq hsl | exact Nat.le_of_eq hsl.symm | exact ⟨rfl, rfl, rfl, rfl⟩ | exact ⟨rfl, rfl, rfl⟩ | exact ⟨rfl, rfl⟩ | exact hx | exact congrArg A.str hx)); (conv => whnf))
          | (refine W.go TOK 220 hΓ 1000 rfl ?_; (conv => whnf); refine ⟨?_, ?_⟩)
          | (refine D.go TOK 220 hΓ 1000 rfl ?_; (conv => whnf); refine ⟨?_, ?_⟩)
          | (refine W.drawn rfl rfl ?_; refine D.run TOK 220 hΓ 1000 ?_; (conv => whnf); refine ⟨?_, ?_⟩)
        all_goals (repeat' apply And.intro)
        all_goals try (first
          | exact trivial
          | exact rfl
          | exact fun _ _ => A.sim.refl _
          | exact A.sim.refl _
          | exact Nat.le_refl _
          | omega
          | exact fun _ _ => trivial
          | exact fun i _ => shift_sim _ _ i
          | exact fun _ h => absurd h (Nat.not_lt_zero _)
          | exact fun i _ => isInt_byteAt _ i
          | exact ⟨by simp only; omega, by simp only; omega, j3, .inr (by simp only; rw [hq, Nat.add_sub_cancel]; exact ht), j5⟩
          | (simp only [allP, List.nil_append, List.append_nil, List.cons_append, List.append_eq, and_true, true_and, inr_i64, inr_u8, inr_u64, min_i64, max_i64, min_u64, max_u64, min_u8, max_u8, A.purePL, A.pureP, A.sureP, A.surePL, Int.toNat_natCast, Int.reduceToNat, addI, cHi, cLo, hiN, loN, subO, addO, hasIdx, cond_true, cond_false]; first | done | omega | ((repeat' apply And.intro) <;> first | exact trivial | rfl | omega | decide))
          | exact .inr ht
          | (refine .inr ?_; simp only; rw [hq, Nat.add_sub_cancel]; exact ht)
          | (simp only; omega)
          )
    · have hsre : r = s := by omega
      subst hsre
      clear ih
      have hnm : ((mid + m : Nat) : Int) - (r : Int) = ((mid + m - r : Nat) : Int) := by omega
      have hH := HP.merge_halves (lessN_ord G) hs1 hs2 (by omega) (by omega) hbl hmid (s := r) (by omega) (by omega) (by omega) (by omega) (by rcases j4 with h | h; rcases hlh.2.2.2.2.2.1 with g | g; exact .inl (by omega); exact .inr (.inl (by omega)); exact .inr (.inr h)) (by rcases j5 with h | h; rcases hlh.2.2.2.2.2.2 with g | g; exact .inl (by omega); exact .inr (.inl (by omega)); exact .inr (.inr h))
      have hM : HP.Mv a b d (HP.rotS d r m (mid + m - r)) := (HP.rot_mv (by omega) (by omega) (by omega)).mono (by omega) (by omega)
      by_cases hr1 : r < m ∧ m < mid + m - r
      · have cr := rot_does ks G d r m (mid + m - r) hr1.1 hr1.2 (by omega) h9
        have hsl := HP.rot_len d r m (mid + m - r)
        have hE1 : HP.rotS d r m (mid + m - r) = HP.rotS d r m (mid + m - r) := rfl
        by_cases hr2 : a < r ∧ r < mid
        · have c2 := IH (mid - a) (by omega) (HP.rotS d r m (mid + m - r)) a r mid rfl hr2.1 hr2.2 (by rw [hsl]; omega) (by rw [hsl]; omega) hH.l1 hH.l2
          have hE2 : HP.sortSeg (lessN G) (HP.rotS d r m (mid + m - r)) a mid = HP.sortSeg (lessN G) (HP.rotS d r m (mid + m - r)) a mid := rfl
          have hsl2 := HP.sortSeg_len (lt := (lessN G)) (HP.rotS d r m (mid + m - r)) (show a ≤ mid by omega) (show mid ≤ (HP.rotS d r m (mid + m - r)).length by rw [hsl]; omega)
          have hr1' := HP.srt_behind (lessN_ord G) (show a ≤ mid by omega) (show mid ≤ (HP.rotS d r m (mid + m - r)).length by rw [hsl]; omega) (Nat.le_refl _) hH.r1
          have hr2' := HP.srt_behind (lessN_ord G) (show a ≤ mid by omega) (show mid ≤ (HP.rotS d r m (mid + m - r)).length by rw [hsl]; omega) (by omega) hH.r2
          by_cases hr3 : mid < mid + m - r ∧ mid + m - r < b
          · have c3 := IH (b - mid) (by omega) (HP.sortSeg (lessN G) (HP.rotS d r m (mid + m - r)) a mid) mid (mid + m - r) b rfl hr3.1 hr3.2 (by rw [hsl2, hsl]; omega) (by rw [hsl2, hsl]; omega) hr1' hr2'
            have hE3 : HP.sortSeg (lessN G) (HP.sortSeg (lessN G) (HP.rotS d r m (mid + m - r)) a mid) mid b = HP.sortSeg (lessN G) (HP.sortSeg (lessN G) (HP.rotS d r m (mid + m - r)) a mid) mid b := rfl
            have hsl3 := HP.sortSeg_len (lt := (lessN G)) (HP.sortSeg (lessN G) (HP.rotS d r m (mid + m - r)) a mid) (show mid ≤ b by omega) (show b ≤ (HP.sortSeg (lessN G) (HP.rotS d r m (mid + m - r)) a mid).length by rw [hsl2, hsl]; omega)
            have hfin := HP.merge_end (lessN_ord G) hH hM hE2.symm hE3.symm (by omega) (by omega) hbl
            rw [← hfin]
            repeat' first
              | assumption
              | exact Bool.noConfusion hb
              | exact absurd hb (by decide)
              | (exfalso; omega)
              | (exfalso; simp at hb; done)
              | (refine W.endA TOK rfl ?_; (conv => whnf); refine ⟨rfl, rfl, rfl, rfl, rfl, rfl, ?_, ?_, ?_⟩)
              | (refine W.branch rfl (fun hb => ?_) (fun hb => ?_) <;> ((try simp only [decide_eq_true_eq, decide_eq_false_iff_not, Bool.not_eq_true', Bool.not_eq_false', Int.not_lt, Int.not_le, cond_true, cond_false, reduceCtorEq, Int.toNat_natCast, Int.reduceToNat, addI] at hb); (try replace hb := of_decide_eq_true hb); (try replace hb := of_decide_eq_false hb)))
              | (refine D.branch rfl (fun hb => ?_) (fun hb => ?_) <;> ((try simp only [decide_eq_true_eq, decide_eq_false_iff_not, Bool.not_eq_true', Bool.not_eq_false', Int.not_lt, Int.not_le, cond_true, cond_false, reduceCtorEq, Int.toNat_natCast, Int.reduceToNat, addI] at hb); (try replace hb := of_decide_eq_true hb); (try replace hb := of_decide_eq_false hb)))
              | ((first | (refine D.callA (cr) rfl rfl rfl rfl hΓ rfl ?_; (conv => whnf); refine ⟨rfl, rfl, rfl, ?_, ?_, ?_, ?_⟩) | (refine W.callA (cr) rfl rfl rfl rfl hΓ rfl ?_; (conv => whnf); refine ⟨rfl, rfl, ?_, ?_, ?_, ?_⟩)); iterate 3 (focus ((repeat' apply And.intro) <;> first | exact trivial | (intro i _; rw [Nat.zero_add]; exact A.sim.refl _) | with_reducible exact rfl | exact fun _ _ => A.sim.refl _ | exact A.sim.refl _ | exact rfl | exact Nat.le_refl _ | omega | exact fun i _ => shift_sim _ _ i | exact fun _ _ => trivial | exact fun _ h => absurd h (Nat.not_lt_zero _) | exact hsl | exact hsl.symm | exact Nat.le_of_eq hsl | exact Nat.le_of_eq hsl.symm | exact ⟨rfl, rfl, rfl, rfl⟩ | exact ⟨rfl, rfl, rfl⟩ | exact ⟨rfl, rfl⟩ | exact hsl2 | exact hsl2.symm | exact Nat.le_of_eq hsl2 | exact Nat.le_of_eq hsl2.symm | exact hsl3 | exact hsl3.symm | exact Nat.le_of_eq hsl3 | exact Nat.le_of_eq hsl3.symm | exact hnm | exact hnm.symm)); (conv => whnf))
              | ((first | (refine D.callA (c2) rfl rfl rfl rfl hΓ rfl ?_; (conv => whnf); refine ⟨rfl, rfl, rfl, ?_, ?_, ?_, ?_⟩) | (refine W.callA (c2) rfl rfl rfl rfl hΓ rfl ?_; (conv => whnf); refine ⟨rfl, rfl, ?_, ?_, ?_, ?_⟩)); iterate 3 (focus ((repeat' apply And.intro) <;> first | exact trivial | (intro i _; rw [Nat.zero_add]; exact A.sim.refl _) | with_reducible exact rfl | exact fun _ _ => A.sim.refl _ | exact A.sim.refl _ | exact rfl | exact Nat.le_refl _ | omega | exact fun i _ => shift_sim _ _ i | exact fun _ _ => trivial | exact fun _ h => absurd h (Nat.not_lt_zero _) | exact hsl | exact hsl.symm | exact Nat.le_of_eq hsl | exact Nat.le_of_eq hsl.symm | exact ⟨rfl, rfl, rfl, rfl⟩ | exact ⟨rfl, rfl, rfl⟩ | exact ⟨rfl, rfl⟩ | exact hsl2 | exact hsl2.symm | exact Nat.le_of_eq hsl2 | exact Nat.le_of_eq hsl2.symm | exact hsl3 | exact hsl3.symm | exact Nat.le_of_eq hsl3 | exact Nat.le_of_eq hsl3.symm | exact hnm | exact hnm.symm)); (conv => whnf))
              | ((first | (refine D.callA (c3) rfl rfl rfl rfl hΓ rfl ?_; (conv => whnf); refine ⟨rfl, rfl, rfl, ?_, ?_, ?_, ?_⟩) | (refine W.callA (c3) rfl rfl rfl rfl hΓ rfl ?_; (conv => whnf); refine ⟨rfl, rfl, ?_, ?_, ?_, ?_⟩)); iterate 3 (focus ((repeat' apply And.intro) <;> first | exact trivial | (intro i _; rw [Nat.zero_add]; exact A.sim.refl _) | with_reducible exact rfl | exact fun _ _ => A.sim.refl _ | exact A.sim.refl _ | exact rfl | exact Nat.le_refl _ | omega | exact fun i _ => shift_sim _ _ i | exact fun _ _ => trivial | exact fun _ h => absurd h (Nat.not_lt_zero _) | exact hsl | exact hsl.symm | exact Nat.le_of_eq hsl | exact Nat.le_of_eq hsl.symm | exact ⟨rfl, rfl, rfl, rfl⟩ | exact ⟨rfl, rfl, rfl⟩ | exact ⟨rfl, rfl⟩ | exact hsl2 | exact hsl2.symm | exact Nat.le_of_eq hsl2 | exact Nat.le_of_eq hsl2.symm | exact hsl3 | exact hsl3.symm | exact Nat.le_of_eq hsl3 | exact Nat.le_of_eq hsl3.symm | exact hnm | exact hnm.symm)); (conv => whnf))
              | (refine W.go TOK 220 hΓ 1000 rfl ?_; (conv => whnf); refine ⟨?_, ?_⟩)
              | (refine D.go TOK 220 hΓ 1000 rfl ?_; (conv => whnf); refine ⟨?_, ?_⟩)
              | (refine W.drawn rfl rfl ?_; refine D.run TOK 220 hΓ 1000 ?_; (conv => whnf); refine ⟨?_, ?_⟩)
            all_goals (repeat' apply And.intro)
            all_goals try (first
              | exact trivial
              | exact rfl
              | exact fun _ _ => A.sim.refl _
              | exact A.sim.refl _
              | exact Nat.le_refl _
              | omega
              | exact fun _ _ => trivial
              | exact fun i _ => shift_sim _ _ i
              | exact fun _ h => absurd h (Nat.not_lt_zero _)
              | exact fun i _ => isInt_byteAt _ i
              | exact hsl
              | exact hsl.symm
              | exact Nat.le_of_eq hsl
              | exact Nat.le_of_eq hsl.symm
              | exact ⟨rfl, rfl, rfl, rfl⟩
              | exact ⟨rfl, rfl, rfl⟩
              | exact ⟨rfl, rfl⟩
              | exact hsl2
              | exact hsl2.symm
              | exact Nat.le_of_eq hsl2
              | exact Nat.le_of_eq hsl2.symm
              | exact hsl3
              | exact hsl3.symm
              | exact Nat.le_of_eq hsl3
              | exact Nat.le_of_eq hsl3.symm
              | exact hnm
              | exact hnm.symm
              | (simp only [allP, List.nil_append, List.append_nil, List.cons_append, List.append_eq, and_true, true_and, inr_i64, inr_u8, inr_u64, min_i64, max_i64, min_u64, max_u64, min_u8, max_u8, A.purePL, A.pureP, A.sureP, A.surePL, Int.toNat_natCast, Int.reduceToNat, addI, cHi, cLo, hiN, loN, subO, addO, hasIdx, cond_true, cond_false]; first | done | omega | ((repeat' apply And.intro) <;> first | exact trivial | rfl | omega | decide))
              )
          · have hE3 : HP.sortSeg (lessN G) (HP.sortSeg (lessN G) (HP.rotS d r m (mid + m - r)) a mid) mid b = (HP.sortSeg (lessN G) (HP.rotS d r m (mid + m - r)) a mid) := HP.srt_skip (lessN_ord G) (by omega) (by rw [hsl2, hsl]; omega) (by
              by_cases h : r = m
              · exact hr2'.mono (by omega) (Nat.le_refl _)
              · exact hr1'.mono (Nat.le_refl _) (by omega))
            have hsl3 : (HP.sortSeg (lessN G) (HP.rotS d r m (mid + m - r)) a mid).length = (HP.sortSeg (lessN G) (HP.rotS d r m (mid + m - r)) a mid).length := rfl
            have hfin := HP.merge_end (lessN_ord G) hH hM hE2.symm hE3.symm (by omega) (by omega) hbl
            rw [← hfin]
            repeat' first
              | assumption
              | exact Bool.noConfusion hb
              | exact absurd hb (by decide)
              | (exfalso; omega)
              | (exfalso; simp at hb; done)
              | (refine W.endA TOK rfl ?_; (conv => whnf); refine ⟨rfl, rfl, rfl, rfl, rfl, rfl, ?_, ?_, ?_⟩)
              | (refine W.branch rfl (fun hb => ?_) (fun hb => ?_) <;> ((try simp only [decide_eq_true_eq, decide_eq_false_iff_not, Bool.not_eq_true', Bool.not_eq_false', Int.not_lt, Int.not_le, cond_true, cond_false, reduceCtorEq, Int.toNat_natCast, Int.reduceToNat, addI] at hb); (try replace hb := of_decide_eq_true hb); (try replace hb := of_decide_eq_false hb)))
              | (refine D.branch rfl (fun hb => ?_) (fun hb => ?_) <;> ((try simp only [decide_eq_true_eq, decide_eq_false_iff_not, Bool.not_eq_true', Bool.not_eq_false', Int.not_lt, Int.not_le, cond_true, cond_false, reduceCtorEq, Int.toNat_natCast, Int.reduceToNat, addI] at hb); (try replace hb := of_decide_eq_true hb); (try replace hb := of_decide_eq_false hb)))
              | ((first | (refine D.callA (cr) rfl rfl rfl rfl hΓ rfl ?_; (conv => whnf); refine ⟨rfl, rfl, rfl, ?_, ?_, ?_, ?_⟩) | (refine W.callA (cr) rfl rfl rfl rfl hΓ rfl ?_; (conv => whnf); refine ⟨rfl, rfl, ?_, ?_, ?_, ?_⟩)); iterate 3 (focus ((repeat' apply And.intro) <;> first | exact trivial | (intro i _; rw [Nat.zero_add]; exact A.sim.refl _) | with_reducible exact rfl | exact fun _ _ => A.sim.refl _ | exact A.sim.refl _ | exact rfl | exact Nat.le_refl _ | omega | exact fun i _ => shift_sim _ _ i | exact fun _ _ => trivial | exact fun _ h => absurd h (Nat.not_lt_zero _) | exact hsl | exact hsl.symm | exact Nat.le_of_eq hsl | exact Nat.le_of_eq hsl.symm | exact ⟨rfl, rfl, rfl, rfl⟩ | exact ⟨rfl, rfl, rfl⟩ | exact ⟨rfl, rfl⟩ | exact hsl2 | exact hsl2.symm | exact Nat.le_of_eq hsl2 | exact Nat.le_of_eq hsl2.symm | exact hsl3 | exact hsl3.symm | exact Nat.le_of_eq hsl3 | exact Nat.le_of_eq hsl3.symm | exact hnm | exact hnm.symm)); (conv => whnf))
              | ((first | (refine D.callA (c2) rfl rfl rfl rfl hΓ rfl ?_; (conv => whnf); refine ⟨rfl, rfl, rfl, ?_, ?_, ?_, ?_⟩) | (refine W.callA (c2) rfl rfl rfl rfl hΓ rfl ?_; (conv => whnf); refine ⟨rfl, rfl, ?_, ?_, ?_, ?_⟩)); iterate 3 (focus ((repeat' apply And.intro) <;> first | exact trivial | (intro i _; rw [Nat.zero_add]; exact A.sim.refl _) | with_reducible exact rfl | exact fun _ _ => A.sim.refl _ | exact A.sim.refl _ | exact rfl | exact Nat.le_refl _ | omega | exact fun i _ => shift_sim _ _ i | exact fun _ _ => trivial | exact fun _ h => absurd h (Nat.not_lt_zero _) | exact hsl | exact hsl.symm | exact Nat.le_of_eq hsl | exact Nat.le_of_eq hsl.symm | exact ⟨rfl, rfl, rfl, rfl⟩ | exact ⟨rfl, rfl, rfl⟩ | exact ⟨rfl, rfl⟩ | exact hsl2 | exact hsl2.symm | exact Nat.le_of_eq hsl2 | exact Nat.le_of_eq hsl2.symm | exact hsl3 | exact hsl3.symm | exact Nat.le_of_eq hsl3 | exact Nat.le_of_eq hsl3.symm | exact hnm | exact hnm.symm)); (conv => whnf))
              | (refine W.go TOK 220 hΓ 1000 rfl ?_; (conv => whnf); refine ⟨?_, ?_⟩)
              | (refine D.go TOK 220 hΓ 1000 rfl ?_; (conv => whnf); refine ⟨?_, ?_⟩)
              | (refine W.drawn rfl rfl ?_; refine D.run TOK 220 hΓ 1000 ?_; (conv => whnf); refine ⟨?_, ?_⟩)
            all_goals (repeat' apply And.intro)
            all_goals try (first
              | exact trivial
              | exact rfl
              | exact fun _ _ => A.sim.refl _
              | exact A.sim.refl _
              | exact Nat.le_refl _
              | omega
              | exact fun _ _ => trivial
              | exact fun i _ => shift_sim _ _ i
              | exact fun _ h => absurd h (Nat.not_lt_zero _)
              | exact fun i _ => isInt_byteAt _ i
              | exact hsl
              | exact hsl.symm
              | exact Nat.le_of_eq hsl
              | exact Nat.le_of_eq hsl.symm
              | exact ⟨rfl, rfl, rfl, rfl⟩
              | exact ⟨rfl, rfl, rfl⟩
              | exact ⟨rfl, rfl⟩
              | exact hsl2
              | exact hsl2.symm
              | exact Nat.le_of_eq hsl2
              | exact Nat.le_of_eq hsl2.symm
              | exact hsl3
              | exact hsl3.symm
              | exact Nat.le_of_eq hsl3
              | exact Nat.le_of_eq hsl3.symm
              | exact hnm
              | exact hnm.symm
              | (simp only [allP, List.nil_append, List.append_nil, List.cons_append, List.append_eq, and_true, true_and, inr_i64, inr_u8, inr_u64, min_i64, max_i64, min_u64, max_u64, min_u8, max_u8, A.purePL, A.pureP, A.sureP, A.surePL, Int.toNat_natCast, Int.reduceToNat, addI, cHi, cLo, hiN, loN, subO, addO, hasIdx, cond_true, cond_false]; first | done | omega | ((repeat' apply And.intro) <;> first | exact trivial | rfl | omega | decide))
              )
        · have hE2 : HP.sortSeg (lessN G) (HP.rotS d r m (mid + m - r)) a mid = (HP.rotS d r m (mid + m - r)) := HP.srt_skip (lessN_ord G) (by omega) (by rw [hsl]; omega) (by
            by_cases h : r = a
            · exact hH.l2.mono (by omega) (Nat.le_refl _)
            · exact hH.l1.mono (Nat.le_refl _) (by omega))
          have hsl2 : (HP.rotS d r m (mid + m - r)).length = (HP.rotS d r m (mid + m - r)).length := rfl
          have hr1' := hH.r1
          have hr2' := hH.r2
          by_cases hr3 : mid < mid + m - r ∧ mid + m - r < b
          · have c3 := IH (b - mid) (by omega) (HP.rotS d r m (mid + m - r)) mid (mid + m - r) b rfl hr3.1 hr3.2 (by rw [hsl2, hsl]; omega) (by rw [hsl2, hsl]; omega) hr1' hr2'
            have hE3 : HP.sortSeg (lessN G) (HP.rotS d r m (mid + m - r)) mid b = HP.sortSeg (lessN G) (HP.rotS d r m (mid + m - r)) mid b := rfl
            have hsl3 := HP.sortSeg_len (lt := (lessN G)) (HP.rotS d r m (mid + m - r)) (show mid ≤ b by omega) (show b ≤ (HP.rotS d r m (mid + m - r)).length by rw [hsl2, hsl]; omega)
            have hfin := HP.merge_end (lessN_ord G) hH hM hE2.symm hE3.symm (by omega) (by omega) hbl
            rw [← hfin]
            repeat' first
              | assumption
              | exact Bool.noConfusion hb
              | exact absurd hb (by decide)
              | (exfalso; omega)
              | (exfalso; simp at hb; done)
              | (refine W.endA TOK rfl ?_; (conv => whnf); refine ⟨rfl, rfl, rfl, rfl, rfl, rfl, ?_, ?_, ?_⟩)
              | (refine W.branch rfl (fun hb => ?_) (fun hb => ?_) <;> ((try simp only [decide_eq_true_eq, decide_eq_false_iff_not, Bool.not_eq_true', Bool.not_eq_false', Int.not_lt, Int.not_le, cond_true, cond_false, reduceCtorEq, Int.toNat_natCast, Int.reduceToNat, addI] at hb); (try replace hb := of_decide_eq_true hb); (try replace hb := of_decide_eq_false hb)))
              | (refine D.branch rfl (fun hb => ?_) (fun hb => ?_) <;> ((try simp only [decide_eq_true_eq, decide_eq_false_iff_not, Bool.not_eq_true', Bool.not_eq_false', Int.not_lt, Int.not_le, cond_true, cond_false, reduceCtorEq, Int.toNat_natCast, Int.reduceToNat, addI] at hb); (try replace hb := of_decide_eq_true hb); (try replace hb := of_decide_eq_false hb)))
              | ((first | (refine D.callA (cr) rfl rfl rfl rfl hΓ rfl ?_; (conv => whnf); refine ⟨rfl, rfl, rfl, ?_, ?_, ?_, ?_⟩) | (refine W.callA (cr) rfl rfl rfl rfl hΓ rfl ?_; (conv => whnf); refine ⟨rfl, rfl, ?_, ?_, ?_, ?_⟩)); iterate 3 (focus ((repeat' apply And.intro) <;> first | exact trivial | (intro i _; rw [Nat.zero_add]; exact A.sim.refl _) | with_reducible exact rfl | exact fun _ _ => A.sim.refl _ | exact A.sim.refl _ | exact rfl | exact Nat.le_refl _ | omega | exact fun i _ => shift_sim _ _ i | exact fun _ _ => trivial | exact fun _ h => absurd h (Nat.not_lt_zero _) | exact hsl | exact hsl.symm | exact Nat.le_of_eq hsl | exact Nat.le_of_eq hsl.symm | exact ⟨rfl, rfl, rfl, rfl⟩ | exact ⟨rfl, rfl, rfl⟩ | exact ⟨rfl, rfl⟩ | exact hsl2 | exact hsl2.symm | exact Nat.le_of_eq hsl2 | exact Nat.le_of_eq hsl2.symm | exact hsl3 | exact hsl3.symm | exact Nat.le_of_eq hsl3 | exact Nat.le_of_eq hsl3.symm | exact hnm | exact hnm.symm)); (conv => whnf))
              | ((first | (refine D.callA (c3) rfl rfl rfl rfl hΓ rfl ?_; (conv => whnf); refine ⟨rfl, rfl, rfl, ?_, ?_, ?_, ?_⟩) | (refine W.callA (c3) rfl rfl rfl rfl hΓ rfl ?_; (conv => whnf); refine ⟨rfl, rfl, ?_, ?_, ?_, ?_⟩)); iterate 3 (focus ((repeat' apply And.intro) <;> first | exact trivial | (intro i _; rw [Nat.zero_add]; exact A.sim.refl _) | with_reducible exact rfl | exact fun _ _ => A.sim.refl _ | exact A.sim.refl _ | exact rfl | exact Nat.le_refl _ | omega | exact fun i _ => shift_sim _ _ i | exact fun _ _ => trivial | exact fun _ h => absurd h (Nat.not_lt_zero _) | exact hsl | exact hsl.symm | exact Nat.le_of_eq hsl | exact Nat.le_of_eq hsl.symm | exact ⟨rfl, rfl, rfl, rfl⟩ | exact ⟨rfl, rfl, rfl⟩ | exact ⟨rfl, rfl⟩ | exact hsl2 | exact hsl2.symm | exact Nat.le_of_eq hsl2 | exact Nat.le_of_eq hsl2.symm | exact hsl3 | exact hsl3.symm | exact Nat.le_of_eq hsl3 | exact Nat.le_of_eq hsl3.symm | exact hnm | exact hnm.symm)); (conv => whnf))
              | (refine W.go TOK 220 hΓ 1000 rfl ?_; (conv => whnf); refine ⟨?_, ?_⟩)
              | (refine D.go TOK 220 hΓ 1000 rfl ?_; (conv => whnf); refine ⟨?_, ?_⟩)
              | (refine W.drawn rfl rfl ?_; refine D.run TOK 220 hΓ 1000 ?_; (conv => whnf); refine ⟨?_, ?_⟩)
            all_goals (repeat' apply And.intro)
            all_goals try (first
              | exact trivial
              | exact rfl
              | exact fun _ _ => A.sim.refl _
              | exact A.sim.refl _
              | exact Nat.le_refl _
              | omega
              | exact fun _ _ => trivial
              | exact fun i _ => shift_sim _ _ i
              | exact fun _ h => absurd h (Nat.not_lt_zero _)
              | exact fun i _ => isInt_byteAt _ i
              | exact hsl
              | exact hsl.symm
              | exact Nat.le_of_eq hsl
              | exact Nat.le_of_eq hsl.symm
              | exact ⟨rfl, rfl, rfl, rfl⟩
              | exact ⟨rfl, rfl, rfl⟩
              | exact ⟨rfl, rfl⟩
              | exact hsl2
              | exact hsl2.symm
              | exact Nat.le_of_eq hsl2
              | exact Nat.le_of_eq hsl2.symm
              | exact hsl3
              | exact hsl3.symm
              | exact Nat.le_of_eq hsl3
              | exact Nat.le_of_eq hsl3.symm
              | exact hnm
              | exact hnm.symm
              | (simp only [allP, List.nil_append, List.append_nil, List.cons_append, List.append_eq, and_true, true_and, inr_i64, inr_u8, inr_u64, min_i64, max_i64, min_u64, max_u64, min_u8, max_u8, A.purePL, A.pureP, A.sureP, A.surePL, Int.toNat_natCast, Int.reduceToNat, addI, cHi, cLo, hiN, loN, subO, addO, hasIdx, cond_true, cond_false]; first | done | omega | ((repeat' apply And.intro) <;> first | exact trivial | rfl | omega | decide))
              )
          · have hE3 : HP.sortSeg (lessN G) (HP.rotS d r m (mid + m - r)) mid b = (HP.rotS d r m (mid + m - r)) := HP.srt_skip (lessN_ord G) (by omega) (by rw [hsl2, hsl]; omega) (by
              by_cases h : r = m
              · exact hr2'.mono (by omega) (Nat.le_refl _)
              · exact hr1'.mono (Nat.le_refl _) (by omega))
            have hsl3 : (HP.rotS d r m (mid + m - r)).length = (HP.rotS d r m (mid + m - r)).length := rfl
            have hfin := HP.merge_end (lessN_ord G) hH hM hE2.symm hE3.symm (by omega) (by omega) hbl
            rw [← hfin]
            repeat' first
              | assumption
              | exact Bool.noConfusion hb
              | exact absurd hb (by decide)
              | (exfalso; omega)
              | (exfalso; simp at hb; done)
              | (refine W.endA TOK rfl ?_; (conv => whnf); refine ⟨rfl, rfl, rfl, rfl, rfl, rfl, ?_, ?_, ?_⟩)
              | (refine W.branch rfl (fun hb => ?_) (fun hb => ?_) <;> ((try simp only [decide_eq_true_eq, decide_eq_false_iff_not, Bool.not_eq_true', Bool.not_eq_false', Int.not_lt, Int.not_le, cond_true, cond_false, reduceCtorEq, Int.toNat_natCast, Int.reduceToNat, addI] at hb); (try replace hb := of_decide_eq_true hb); (try replace hb := of_decide_eq_false hb)))
              | (refine D.branch rfl (fun hb => ?_) (fun hb => ?_) <;> ((try simp only [decide_eq_true_eq, decide_eq_false_iff_not, Bool.not_eq_true', Bool.not_eq_false', Int.not_lt, Int.not_le, cond_true, cond_false, reduceCtorEq, Int.toNat_natCast, Int.reduceToNat, addI] at hb); (try replace hb := of_decide_eq_true hb); (try replace hb := of_decide_eq_false hb)))
              | ((first | (refine D.callA (cr) rfl rfl rfl rfl hΓ rfl ?_; (conv => whnf); refine ⟨rfl, rfl, rfl, ?_, ?_, ?_, ?_⟩) | (refine W.callA (cr) rfl rfl rfl rfl hΓ rfl ?_; (conv => whnf); refine ⟨rfl, rfl, ?_, ?_, ?_, ?_⟩)); iterate 3 (focus ((repeat' apply And.intro) <;> first | exact trivial | (intro i _; rw [Nat.zero_add]; exact A.sim.refl _) | with_reducible exact rfl | exact fun _ _ => A.sim.refl _ | exact A.sim.refl _ | exact rfl | exact Nat.le_refl _ | omega | exact fun i _ => shift_sim _ _ i | exact fun _ _ => trivial | exact fun _ h => absurd h (Nat.not_lt_zero _) | exact hsl | exact hsl.symm | exact Nat.le_of_eq hsl | exact Nat.le_of_eq hsl.symm | exact ⟨rfl, rfl, rfl, rfl⟩ | exact ⟨rfl, rfl, rfl⟩ | exact ⟨rfl, rfl⟩ | exact hsl2 | exact hsl2.symm | exact Nat.le_of_eq hsl2 | exact Nat.le_of_eq hsl2.symm | exact hsl3 | exact hsl3.symm | exact Nat.le_of_eq hsl3 | exact Nat.le_of_eq hsl3.symm | exact hnm | exact hnm.symm)); (conv => whnf))
              | (refine W.go TOK 220 hΓ 1000 rfl ?_; (conv => whnf); refine ⟨?_, ?_⟩)
              | (refine D.go TOK 220 hΓ 1000 rfl ?_; (conv => whnf); refine ⟨?_, ?_⟩)
              | (refine W.drawn rfl rfl ?_; refine D.run TOK 220 hΓ 1000 ?_; (conv => whnf); refine ⟨?_, ?_⟩)
            all_goals (repeat' apply And.intro)
            all_goals try (first
              | exact trivial
              | exact rfl
              | exact fun _ _ => A.sim.refl _
              | exact A.sim.refl _
              | exact Nat.le_refl _
              | omega
              | exact fun _ _ => trivial
              | exact fun i _ => shift_sim _ _ i
              | exact fun _ h => absurd h (Nat.not_lt_zero _)
              | exact fun i _ => isInt_byteAt _ i
              | exact hsl
              | exact hsl.symm
              | exact Nat.le_of_eq hsl
              | exact Nat.le_of_eq hsl.symm
              | exact ⟨rfl, rfl, rfl, rfl⟩
              | exact ⟨rfl, rfl, rfl⟩
              | exact ⟨rfl, rfl⟩
              | exact hsl2
              | exact hsl2.symm
              | exact Nat.le_of_eq hsl2
              | exact Nat.le_of_eq hsl2.symm
              | exact hsl3
              | exact hsl3.symm
              | exact Nat.le_of_eq hsl3
              | exact Nat.le_of_eq hsl3.symm
              | exact hnm
              | exact hnm.symm
              | (simp only [allP, List.nil_append, List.append_nil, List.cons_append, List.append_eq, and_true, true_and, inr_i64, inr_u8, inr_u64, min_i64, max_i64, min_u64, max_u64, min_u8, max_u8, A.purePL, A.pureP, A.sureP, A.surePL, Int.toNat_natCast, Int.reduceToNat, addI, cHi, cLo, hiN, loN, subO, addO, hasIdx, cond_true, cond_false]; first | done | omega | ((repeat' apply And.intro) <;> first | exact trivial | rfl | omega | decide))
              )
      · have hE1 : HP.rotS d r m (mid + m - r) = d := by
          by_cases h : r = m
          · subst h; exact HP.rot_id2 _ _ _
          · rw [show mid + m - r = m by omega]; exact HP.rot_id _ _ _
        have hsl : d.length = d.length := rfl
        rw [hE1] at hH hM
        by_cases hr2 : a < r ∧ r < mid
        · have c2 := IH (mid - a) (by omega) d a r mid rfl hr2.1 hr2.2 (by rw [hsl]; omega) (by rw [hsl]; omega) hH.l1 hH.l2
          have hE2 : HP.sortSeg (lessN G) d a mid = HP.sortSeg (lessN G) d a mid := rfl
          have hsl2 := HP.sortSeg_len (lt := (lessN G)) d (show a ≤ mid by omega) (show mid ≤ d.length by rw [hsl]; omega)
          have hr1' := HP.srt_behind (lessN_ord G) (show a ≤ mid by omega) (show mid ≤ d.length by rw [hsl]; omega) (Nat.le_refl _) hH.r1
          have hr2' := HP.srt_behind (lessN_ord G) (show a ≤ mid by omega) (show mid ≤ d.length by rw [hsl]; omega) (by omega) hH.r2
          by_cases hr3 : mid < mid + m - r ∧ mid + m - r < b
          · have c3 := IH (b - mid) (by omega) (HP.sortSeg (lessN G) d a mid) mid (mid + m - r) b rfl hr3.1 hr3.2 (by rw [hsl2, hsl]; omega) (by rw [hsl2, hsl]; omega) hr1' hr2'
            have hE3 : HP.sortSeg (lessN G) (HP.sortSeg (lessN G) d a mid) mid b = HP.sortSeg (lessN G) (HP.sortSeg (lessN G) d a mid) mid b := rfl
            have hsl3 := HP.sortSeg_len (lt := (lessN G)) (HP.sortSeg (lessN G) d a mid) (show mid ≤ b by omega) (show b ≤ (HP.sortSeg (lessN G) d a mid).length by rw [hsl2, hsl]; omega)
            have hfin := HP.merge_end (lessN_ord G) hH hM hE2.symm hE3.symm (by omega) (by omega) hbl
            rw [← hfin]
            repeat' first
              | assumption
              | exact Bool.noConfusion hb
              | exact absurd hb (by decide)
              | (exfalso; omega)
              | (exfalso; simp at hb; done)
              | (refine W.endA TOK rfl ?_; (conv => whnf); refine ⟨rfl, rfl, rfl, rfl, rfl, rfl, ?_, ?_, ?_⟩)
              | (refine W.branch rfl (fun hb => ?_) (fun hb => ?_) <;> ((try simp only [decide_eq_true_eq, decide_eq_false_iff_not, Bool.not_eq_true', Bool.not_eq_false', Int.not_lt, Int.not_le, cond_true, cond_false, reduceCtorEq, Int.toNat_natCast, Int.reduceToNat, addI] at hb); (try replace hb := of_decide_eq_true hb); (try replace hb := of_decide_eq_false hb)))
              | (refine D.branch rfl (fun hb => ?_) (fun hb => ?_) <;> ((try simp only [decide_eq_true_eq, decide_eq_false_iff_not, Bool.not_eq_true', Bool.not_eq_false', Int.not_lt, Int.not_le, cond_true, cond_false, reduceCtorEq, Int.toNat_natCast, Int.reduceToNat, addI] at hb); (try replace hb := of_decide_eq_true hb); (try replace hb := of_decide_eq_false hb)))
              | ((first | (refine D.callA (c2) rfl rfl rfl rfl hΓ rfl ?_; (conv => whnf); refine ⟨rfl, rfl, rfl, ?_, ?_, ?_, ?_⟩) | (refine W.callA (c2) rfl rfl rfl rfl hΓ rfl ?_; (conv => whnf); refine ⟨rfl, rfl, ?_, ?_, ?_, ?_⟩)); iterate 3 (focus ((repeat' apply And.intro) <;> first | exact trivial | (intro i _; rw [Nat.zero_add]; exact A.sim.refl _) | with_reducible exact rfl | exact fun _ _ => A.sim.refl _ | exact A.sim.refl _ | exact rfl | exact Nat.le_refl _ | omega | exact fun i _ => shift_sim _ _ i | exact fun _ _ => trivial | exact fun _ h => absurd h (Nat.not_lt_zero _) | exact hsl | exact hsl.symm | exact Nat.le_of_eq hsl | exact Nat.le_of_eq hsl.symm | exact ⟨rfl, rfl, rfl, rfl⟩ | exact ⟨rfl, rfl, rfl⟩ | exact ⟨rfl, rfl⟩ | exact hsl2 | exact hsl2.symm | exact Nat.le_of_eq hsl2 | exact Nat.le_of_eq hsl2.symm | exact hsl3 | exact hsl3.symm | exact Nat.le_of_eq hsl3 | exact Nat.le_of_eq hsl3.symm | exact hnm | exact hnm.symm)); (conv => whnf))
              | ((first | (refine D.callA (c3) rfl rfl rfl rfl hΓ rfl ?_; (conv => whnf); refine ⟨rfl, rfl, rfl, ?_, ?_, ?_, ?_⟩) | (refine W.callA (c3) rfl rfl rfl rfl hΓ rfl ?_; (conv => whnf); refine ⟨rfl, rfl, ?_, ?_, ?_, ?_⟩)); iterate 3 (focus ((repeat' apply And.intro) <;> first | exact trivial | (intro i _; rw [Nat.zero_add]; exact A.sim.refl _) | with_reducible exact rfl | exact fun _ _ => A.sim.refl _ | exact A.sim.refl _ | exact rfl | exact Nat.le_refl _ | omega | exact fun i _ => shift_sim _ _ i | exact fun _ _ => trivial | exact fun _ h => absurd h (Nat.not_lt_zero _) | exact hsl | exact hsl.symm | exact Nat.le_of_eq hsl | exact Nat.le_of_eq hsl.symm | exact ⟨rfl, rfl, rfl, rfl⟩ | exact ⟨rfl, rfl, rfl⟩ | exact ⟨rfl, rfl⟩ | exact hsl2 | exact hsl2.symm | exact Nat.le_of_eq hsl2 | exact Nat.le_of_eq hsl2.symm | exact hsl3 | exact hsl3.symm | exact Nat.le_of_eq hsl3 | exact Nat.le_of_eq hsl3.symm | exact hnm | exact hnm.symm)); (conv => whnf))
              | (refine W.go TOK 220 hΓ 1000 rfl ?_; (conv => whnf); refine ⟨?_, ?_⟩)
              | (refine D.go TOK 220 hΓ 1000 rfl ?_; (conv => whnf); refine ⟨?_, ?_⟩)
              | (refine W.drawn rfl rfl ?_; refine D.run TOK 220 hΓ 1000 ?_; (conv => whnf); refine ⟨?_, ?_⟩)
            all_goals (repeat' apply And.intro)
            all_goals try (first
              | exact trivial
              | exact rfl
              | exact fun _ _ => A.sim.refl _
              | exact A.sim.refl _
              | exact Nat.le_refl _
              | omega
              | exact fun _ _ => trivial
              | exact fun i _ => shift_sim _ _ i
              | exact fun _ h => absurd h (Nat.not_lt_zero _)
              | exact fun i _ => isInt_byteAt _ i
              | exact hsl
              | exact hsl.symm
              | exact Nat.le_of_eq hsl
              | exact Nat.le_of_eq hsl.symm
              | exact ⟨rfl, rfl, rfl, rfl⟩
              | exact ⟨rfl, rfl, rfl⟩
              | exact ⟨rfl, rfl⟩
              | exact hsl2
              | exact hsl2.symm
              | exact Nat.le_of_eq hsl2
              | exact Nat.le_of_eq hsl2.symm
              | exact hsl3
              | exact hsl3.symm
              | exact Nat.le_of_eq hsl3
              | exact Nat.le_of_eq hsl3.symm
              | exact hnm
              | exact hnm.symm
              | (simp only [allP, List.nil_append, List.append_nil, List.cons_append, List.append_eq, and_true, true_and, inr_i64, inr_u8, inr_u64, min_i64, max_i64, min_u64, max_u64, min_u8, max_u8, A.purePL, A.pureP, A.sureP, A.surePL, Int.toNat_natCast, Int.reduceToNat, addI, cHi, cLo, hiN, loN, subO, addO, hasIdx, cond_true, cond_false]; first | done | omega | ((repeat' apply And.intro) <;> first | exact trivial | rfl | omega | decide))
              )
          · have hE3 : HP.sortSeg (lessN G) (HP.sortSeg (lessN G) d a mid) mid b = (HP.sortSeg (lessN G) d a mid) := HP.srt_skip (lessN_ord G) (by omega) (by rw [hsl2, hsl]; omega) (by
              by_cases h : r = m
              · exact hr2'.mono (by omega) (Nat.le_refl _)
              · exact hr1'.mono (Nat.le_refl _) (by omega))
            have hsl3 : (HP.sortSeg (lessN G) d a mid).length = (HP.sortSeg (lessN G) d a mid).length := rfl
            have hfin := HP.merge_end (lessN_ord G) hH hM hE2.symm hE3.symm (by omega) (by omega) hbl
            rw [← hfin]
            repeat' first
              | assumption
              | exact Bool.noConfusion hb
              | exact absurd hb (by decide)
              | (exfalso; omega)
              | (exfalso; simp at hb; done)
              | (refine W.endA TOK rfl ?_; (conv => whnf); refine ⟨rfl, rfl, rfl, rfl, rfl, rfl, ?_, ?_, ?_⟩)
              | (refine W.branch rfl (fun hb => ?_) (fun hb => ?_) <;> ((try simp only [decide_eq_true_eq, decide_eq_false_iff_not, Bool.not_eq_true', Bool.not_eq_false', Int.not_lt, Int.not_le, cond_true, cond_false, reduceCtorEq, Int.toNat_natCast, Int.reduceToNat, addI] at hb); (try replace hb := of_decide_eq_true hb); (try replace hb := of_decide_eq_false hb)))
              | (refine D.branch rfl (fun hb => ?_) (fun hb => ?_) <;> ((try simp only [decide_eq_true_eq, decide_eq_false_iff_not, Bool.not_eq_true', Bool.not_eq_false', Int.not_lt, Int.not_le, cond_true, cond_false, reduceCtorEq, Int.toNat_natCast, Int.reduceToNat, addI] at hb); (try replace hb := of_decide_eq_true hb); (try replace hb := of_decide_eq_false hb)))
              | ((first | (refine D.callA (c2) rfl rfl rfl rfl hΓ rfl ?_; (conv => whnf); refine ⟨rfl, rfl, rfl, ?_, ?_, ?_, ?_⟩) | (refine W.callA (c2) rfl rfl rfl rfl hΓ rfl ?_; (conv => whnf); refine ⟨rfl, rfl, ?_, ?_, ?_, ?_⟩)); iterate 3 (focus ((repeat' apply And.intro) <;> first | exact trivial | (intro i _; rw [Nat.zero_add]; exact A.sim.refl _) | with_reducible exact rfl | exact fun _ _ => A.sim.refl _ | exact A.sim.refl _ | exact rfl | exact Nat.le_refl _ | omega | exact fun i _ => shift_sim _ _ i | exact fun _ _ => trivial | exact fun _ h => absurd h (Nat.not_lt_zero _) | exact hsl | exact hsl.symm | exact Nat.le_of_eq hsl | exact Nat.le_of_eq hsl.symm | exact ⟨rfl, rfl, rfl, rfl⟩ | exact ⟨rfl, rfl, rfl⟩ | exact ⟨rfl, rfl⟩ | exact hsl2 | exact hsl2.symm | exact Nat.le_of_eq hsl2 | exact Nat.le_of_eq hsl2.symm | exact hsl3 | exact hsl3.symm | exact Nat.le_of_eq hsl3 | exact Nat.le_of_eq hsl3.symm | exact hnm | exact hnm.symm)); (conv => whnf))
              | (refine W.go TOK 220 hΓ 1000 rfl ?_; (conv => whnf); refine ⟨?_, ?_⟩)
              | (refine D.go TOK 220 hΓ 1000 rfl ?_; (conv => whnf); refine ⟨?_, ?_⟩)
              | (refine W.drawn rfl rfl ?_; refine D.run TOK 220 hΓ 1000 ?_; (conv => whnf); refine ⟨?_, ?_⟩)
            all_goals (repeat' apply And.intro)
            all_goals try (first
              | exact trivial
              | exact rfl
              | exact fun _ _ => A.sim.refl _
              | exact A.sim.refl _
              | exact Nat.le_refl _
              | omega
              | exact fun _ _ => trivial
              | exact fun i _ => shift_sim _ _ i
              | exact fun _ h => absurd h (Nat.not_lt_zero _)
              | exact fun i _ => isInt_byteAt _ i
              | exact hsl
              | exact hsl.symm
              | exact Nat.le_of_eq hsl
              | exact Nat.le_of_eq hsl.symm
              | exact ⟨rfl, rfl, rfl, rfl⟩
              | exact ⟨rfl, rfl, rfl⟩
              | exact ⟨rfl, rfl⟩
              | exact hsl2
              | exact hsl2.symm
              | exact Nat.le_of_eq hsl2
              | exact Nat.le_of_eq hsl2.symm
              | exact hsl3
              | exact hsl3.symm
              | exact Nat.le_of_eq hsl3
              | exact Nat.le_of_eq hsl3.symm
              | exact hnm
              | exact hnm.symm
              | (simp only [allP, List.nil_append, List.append_nil, List.cons_append, List.append_eq, and_true, true_and, inr_i64, inr_u8, inr_u64, min_i64, max_i64, min_u64, max_u64, min_u8, max_u8, A.purePL, A.pureP, A.sureP, A.surePL, Int.toNat_natCast, Int.reduceToNat, addI, cHi, cLo, hiN, loN, subO, addO, hasIdx, cond_true, cond_false]; first | done | omega | ((repeat' apply And.intro) <;> first | exact trivial | rfl | omega | decide))
              )
        · have hE2 : HP.sortSeg (lessN G) d a mid = d := HP.srt_skip (lessN_ord G) (by omega) (by rw [hsl]; omega) (by
            by_cases h : r = a
            · exact hH.l2.mono (by omega) (Nat.le_refl _)
            · exact hH.l1.mono (Nat.le_refl _) (by omega))
          have hsl2 : d.length = d.length := rfl
          have hr1' := hH.r1
          have hr2' := hH.r2
          by_cases hr3 : mid < mid + m - r ∧ mid + m - r < b
          · have c3 := IH (b - mid) (by omega) d mid (mid + m - r) b rfl hr3.1 hr3.2 (by rw [hsl2, hsl]; omega) (by rw [hsl2, hsl]; omega) hr1' hr2'
            have hE3 : HP.sortSeg (lessN G) d mid b = HP.sortSeg (lessN G) d mid b := rfl
            have hsl3 := HP.sortSeg_len (lt := (lessN G)) d (show mid ≤ b by omega) (show b ≤ d.length by rw [hsl2, hsl]; omega)
            have hfin := HP.merge_end (lessN_ord G) hH hM hE2.symm hE3.symm (by omega) (by omega) hbl
            rw [← hfin]
            repeat' first
              | assumption
              | exact Bool.noConfusion hb
              | exact absurd hb (by decide)
              | (exfalso; omega)
              | (exfalso; simp at hb; done)
              | (refine W.endA TOK rfl ?_; (conv => whnf); refine ⟨rfl, rfl, rfl, rfl, rfl, rfl, ?_, ?_, ?_⟩)
              | (refine W.branch rfl (fun hb => ?_) (fun hb => ?_) <;> ((try simp only [decide_eq_true_eq, decide_eq_false_iff_not, Bool.not_eq_true', Bool.not_eq_false', Int.not_lt, Int.not_le, cond_true, cond_false, reduceCtorEq, Int.toNat_natCast, Int.reduceToNat, addI] at hb); (try replace hb := of_decide_eq_true hb); (try replace hb := of_decide_eq_false hb)))
              | (refine D.branch rfl (fun hb => ?_) (fun hb => ?_) <;> ((try simp only [decide_eq_true_eq, decide_eq_false_iff_not, Bool.not_eq_true', Bool.not_eq_false', Int.not_lt, Int.not_le, cond_true, cond_false, reduceCtorEq, Int.toNat_natCast, Int.reduceToNat, addI] at hb); (try replace hb := of_decide_eq_true hb); (try replace hb := of_decide_eq_false hb)))
              | ((first | (refine D.callA (c3) rfl rfl rfl rfl hΓ rfl ?_; (conv => whnf); refine ⟨rfl, rfl, rfl, ?_, ?_, ?_, ?_⟩) | (refine W.callA (c3) rfl rfl rfl rfl hΓ rfl ?_; (conv => whnf); refine ⟨rfl, rfl, ?_, ?_, ?_, ?_⟩)); iterate 3 (focus ((repeat' apply And.intro) <;> first | exact trivial | (intro i _; rw [Nat.zero_add]; exact A.sim.refl _) | with_reducible exact rfl | exact fun _ _ => A.sim.refl _ | exact A.sim.refl _ | exact rfl | exact Nat.le_refl _ | omega | exact fun i _ => shift_sim _ _ i | exact fun _ _ => trivial | exact fun _ h => absurd h (Nat.not_lt_zero _) | exact hsl | exact hsl.symm | exact Nat.le_of_eq hsl | exact Nat.le_of_eq hsl.symm | exact ⟨rfl, rfl, rfl, rfl⟩ | exact ⟨rfl, rfl, rfl⟩ | exact ⟨rfl, rfl⟩ | exact hsl2 | exact hsl2.symm | exact Nat.le_of_eq hsl2 | exact Nat.le_of_eq hsl2.symm | exact hsl3 | exact hsl3.symm | exact Nat.le_of_eq hsl3 | exact Nat.le_of_eq hsl3.symm | exact hnm | exact hnm.symm)); (conv => whnf))
              | (refine W.go TOK 220 hΓ 1000 rfl ?_; (conv => whnf); refine ⟨?_, ?_⟩)
              | (refine D.go TOK 220 hΓ 1000 rfl ?_; (conv => whnf); refine ⟨?_, ?_⟩)
              | (refine W.drawn rfl rfl ?_; refine D.run TOK 220 hΓ 1000 ?_; (conv => whnf); refine ⟨?_, ?_⟩)
            all_goals (repeat' apply And.intro)
            all_goals try (first
              | exact trivial
              | exact rfl
              | exact fun _ _ => A.sim.refl _
              | exact A.sim.refl _
              | exact Nat.le_refl _
              | omega
              | exact fun _ _ => trivial
              | exact fun i _ => shift_sim _ _ i
              | exact fun _ h => absurd h (Nat.not_lt_zero _)
              | exact fun i _ => isInt_byteAt _ i
              | exact hsl
              | exact hsl.symm
              | exact Nat.le_of_eq hsl
              | exact Nat.le_of_eq hsl.symm
              | exact ⟨rfl, rfl, rfl, rfl⟩
              | exact ⟨rfl, rfl, rfl⟩
              | exact ⟨rfl, rfl⟩
              | exact hsl2
              | exact hsl2.symm
              | exact Nat.le_of_eq hsl2
              | exact Nat.le_of_eq hsl2.symm
              | exact hsl3
              | exact hsl3.symm
              | exact Nat.le_of_eq hsl3
              | exact Nat.le_of_eq hsl3.symm
              | exact hnm
              | exact hnm.symm
              | (simp only [allP, List.nil_append, List.append_nil, List.cons_append, List.append_eq, and_true, true_and, inr_i64, inr_u8, inr_u64, min_i64, max_i64, min_u64, max_u64, min_u8, max_u8, A.purePL, A.pureP, A.sureP, A.surePL, Int.toNat_natCast, Int.reduceToNat, addI, cHi, cLo, hiN, loN, subO, addO, hasIdx, cond_true, cond_false]; first | done | omega | ((repeat' apply And.intro) <;> first | exact trivial | rfl | omega | decide))
              )
          · have hE3 : HP.sortSeg (lessN G) d mid b = d := HP.srt_skip (lessN_ord G) (by omega) (by rw [hsl2, hsl]; omega) (by
              by_cases h : r = m
              · exact hr2'.mono (by omega) (Nat.le_refl _)
              · exact hr1'.mono (Nat.le_refl _) (by omega))
            have hsl3 : d.length = d.length := rfl
            have hfin := HP.merge_end (lessN_ord G) hH hM hE2.symm hE3.symm (by omega) (by omega) hbl
            rw [← hfin]
            repeat' first
              | assumption
              | exact Bool.noConfusion hb
              | exact absurd hb (by decide)
              | (exfalso; omega)
              | (exfalso; simp at hb; done)
              | (refine W.endA TOK rfl ?_; (conv => whnf); refine ⟨rfl, rfl, rfl, rfl, rfl, rfl, ?_, ?_, ?_⟩)
              | (refine W.branch rfl (fun hb => ?_) (fun hb => ?_) <;> ((try simp only [decide_eq_true_eq, decide_eq_false_iff_not, Bool.not_eq_true', Bool.not_eq_false', Int.not_lt, Int.not_le, cond_true, cond_false, reduceCtorEq, Int.toNat_natCast, Int.reduceToNat, addI] at hb); (try replace hb := of_decide_eq_true hb); (try replace hb := of_decide_eq_false hb)))
              | (refine D.branch rfl (fun hb => ?_) (fun hb => ?_) <;> ((try simp only [decide_eq_true_eq, decide_eq_false_iff_not, Bool.not_eq_true', Bool.not_eq_false', Int.not_lt, Int.not_le, cond_true, cond_false, reduceCtorEq, Int.toNat_natCast, Int.reduceToNat, addI] at hb); (try replace hb := of_decide_eq_true hb); (try replace hb := of_decide_eq_false hb)))
              | (refine W.go TOK 220 hΓ 1000 rfl ?_; (conv => whnf); refine ⟨?_, ?_⟩)
              | (refine D.go TOK 220 hΓ 1000 rfl ?_; (conv => whnf); refine ⟨?_, ?_⟩)
              | (refine W.drawn rfl rfl ?_; refine D.run TOK 220 hΓ 1000 ?_; (conv => whnf); refine ⟨?_, ?_⟩)
            all_goals (repeat' apply And.intro)
            all_goals try (first
              | exact trivial
              | exact rfl
              | exact fun _ _ => A.sim.refl _
              | exact A.sim.refl _
              | exact Nat.le_refl _
              | omega
              | exact fun _ _ => trivial
              | exact fun i _ => shift_sim _ _ i
              | exact fun _ h => absurd h (Nat.not_lt_zero _)
              | exact fun i _ => isInt_byteAt _ i
              | exact hsl
              | exact hsl.symm
              | exact Nat.le_of_eq hsl
              | exact Nat.le_of_eq hsl.symm
              | exact ⟨rfl, rfl, rfl, rfl⟩
              | exact ⟨rfl, rfl, rfl⟩
              | exact ⟨rfl, rfl⟩
              | exact hsl2
              | exact hsl2.symm
              | exact Nat.le_of_eq hsl2
              | exact Nat.le_of_eq hsl2.symm
              | exact hsl3
              | exact hsl3.symm
              | exact Nat.le_of_eq hsl3
              | exact Nat.le_of_eq hsl3.symm
              | exact hnm
              | exact hnm.symm
              | (simp only [allP, List.nil_append, List.append_nil, List.cons_append, List.append_eq, and_true, true_and, inr_i64, inr_u8, inr_u64, min_i64, max_i64, min_u64, max_u64, min_u8, max_u8, A.purePL, A.pureP, A.sureP, A.surePL, Int.toNat_natCast, Int.reduceToNat, addI, cHi, cLo, hiN, loN, subO, addO, hasIdx, cond_true, cond_false]; first | done | omega | ((repeat' apply And.intro) <;> first | exact trivial | rfl | omega | decide))
              )
  · obtain ⟨hlo1, hhi1⟩ := hhi hmm
    repeat' first
      | assumption
      | exact Bool.noConfusion hb
      | exact absurd hb (by decide)
      | (exfalso; omega)
      | (exfalso; simp at hb; done)
      | (refine W.branch rfl (fun hb => ?_) (fun hb => ?_) <;> ((try simp only [decide_eq_true_eq, decide_eq_false_iff_not, Bool.not_eq_true', Bool.not_eq_false', Int.not_lt, Int.not_le, cond_true, cond_false, reduceCtorEq, Int.toNat_natCast, Int.reduceToNat, addI] at hb); (try replace hb := of_decide_eq_true hb); (try replace hb := of_decide_eq_false hb)))
      | (refine D.branch rfl (fun hb => ?_) (fun hb => ?_) <;> ((try simp only [decide_eq_true_eq, decide_eq_false_iff_not, Bool.not_eq_true', Bool.not_eq_false', Int.not_lt, Int.not_le, cond_true, cond_false, reduceCtorEq, Int.toNat_natCast, Int.reduceToNat, addI] at hb); (try replace hb := of_decide_eq_true hb); (try replace hb := of_decide_eq_false hb)))
      | (refine W.go TOK 220 hΓ 1000 rfl ?_; (conv => whnf); refine ⟨?_, ?_⟩)
      | (refine D.go TOK 220 hΓ 1000 rfl ?_; (conv => whnf); refine ⟨?_, ?_⟩)
      | (refine W.drawn rfl rfl ?_; refine D.run TOK 220 hΓ 1000 ?_; (conv => whnf); refine ⟨?_, ?_⟩)
    all_goals (repeat' apply And.intro)
    all_goals try (first
      | exact trivial
      | exact rfl
      | exact fun _ _ => A.sim.refl _
      | exact A.sim.refl _
      | exact Nat.le_refl _
      | omega
      | exact fun _ _ => trivial
      | exact fun i _ => shift_sim _ _ i
      | exact fun _ h => absurd h (Nat.not_lt_zero _)
      | exact fun i _ => isInt_byteAt _ i
      | (simp only [allP, List.nil_append, List.append_nil, List.cons_append, List.append_eq, and_true, true_and, inr_i64, inr_u8, inr_u64, min_i64, max_i64, min_u64, max_u64, min_u8, max_u8, A.purePL, A.pureP, A.sureP, A.surePL, Int.toNat_natCast, Int.reduceToNat, addI, cHi, cLo, hiN, loN, subO, addO, hasIdx, cond_true, cond_false]; first | done | omega | ((repeat' apply And.intro) <;> first | exact trivial | rfl | omega | decide))
      )
    refine W.loopA (Nat × Nat) (fun x => lo ≤ x.1 ∧ x.1 ≤ x.2 ∧ x.2 ≤ hi ∧ (x.1 = lo ∨ (lessN G) (HP.at_ d (mid + m - x.1)) (HP.at_ d (x.1 - 1)) = false) ∧ (x.2 = hi ∨ (lessN G) (HP.at_ d (mid + m - 1 - x.2)) (HP.at_ d x.2) = true)) (fun x => x.2 - x.1) (fun x => [(20, .int .i64 (x.1 : Nat)), (21, .int .i64 (x.2 : Nat)), (19, .int .i64 ((mid + m : Nat) : Int)), (22, .int .i64 ((mid + m - 1 : Nat) : Int))]) (fun _ => []) [] ((lo, hi)) (⟨Nat.le_refl _, hlh.2.1, Nat.le_refl _, .inl rfl, .inl rfl⟩) ?_
    (conv => whnf); refine ⟨?_, ?_⟩; focus ((conv => whnf); refine ⟨rfl, rfl, rfl, rfl, rfl, rfl, ?_, ?_⟩; iterate 2 (focus ((repeat' apply And.intro) <;> first | exact trivial | (intro i _; rw [Nat.zero_add]; exact A.sim.refl _) | with_reducible exact rfl | exact fun _ _ => A.sim.refl _ | exact A.sim.refl _ | exact rfl | exact Nat.le_refl _ | omega | exact fun i _ => shift_sim _ _ i | exact fun _ _ => trivial | exact fun _ h => absurd h (Nat.not_lt_zero _) | (simp only; omega) | (show (mid : Int) + (m : Int) = ((mid + m : Nat) : Int); omega) | (show (mid : Int) + (m : Int) - 1 = ((mid + m - 1 : Nat) : Int); omega) | (show (mid : Int) + (m : Int) - (b : Int) = (lo : Nat); omega) | (show (mid : Int) = (hi : Nat); omega) | (show (a : Int) = (lo : Nat); omega) | (show (m : Int) = (hi : Nat); omega))))
    rintro ⟨s, r⟩ ⟨j1, j2, j3, j4, j5⟩ ih
    simp only at j1 j2 j3 j4 j5
    by_cases hsr : s < r
    · have hh : (s + r) / 2 < r ∧ s ≤ (s + r) / 2 := by omega
      repeat' first
        | assumption
        | exact Bool.noConfusion hb
        | exact absurd hb (by decide)
        | (exfalso; omega)
        | (exfalso; simp at hb; done)
        | (refine W.branch rfl (fun hb => ?_) (fun hb => ?_) <;> ((try simp only [decide_eq_true_eq, decide_eq_false_iff_not, Bool.not_eq_true', Bool.not_eq_false', Int.not_lt, Int.not_le, cond_true, cond_false, reduceCtorEq, Int.toNat_natCast, Int.reduceToNat, addI] at hb); (try replace hb := of_decide_eq_true hb); (try replace hb := of_decide_eq_false hb)))
        | (refine W.go Tm35OK 220 hΓ 1000 rfl ?_; (conv => whnf); refine ⟨?_, ?_⟩)
      all_goals (repeat' apply And.intro)
      all_goals try (first
        | exact trivial
        | exact rfl
        | exact fun _ _ => A.sim.refl _
        | exact A.sim.refl _
        | exact Nat.le_refl _
        | omega
        | exact fun _ _ => trivial
        | exact fun i _ => shift_sim _ _ i
        | exact fun _ h => absurd h (Nat.not_lt_zero _)
        | exact fun i _ => isInt_byteAt _ i
        | (simp only [allP, List.nil_append, List.append_nil, List.cons_append, List.append_eq, and_true, true_and, inr_i64, inr_u8, inr_u64, min_i64, max_i64, min_u64, max_u64, min_u8, max_u8, A.purePL, A.pureP, A.sureP, A.surePL, Int.toNat_natCast, Int.reduceToNat, addI, cHi, cLo, hiN, loN, subO, addO, hasIdx, cond_true, cond_false]; first | done | omega | ((repeat' apply And.intro) <;> first | exact trivial | rfl | omega | decide))
        )
      refine W.seeA ([(23, .int .i64 (((s + r) / 2 : Nat) : Int))]) ([(1003, some (.arr 1 (d).length (lsA A.str (d))))]) [] ?_
      (conv => whnf); refine ⟨?_, ?_⟩; focus ((conv => whnf); refine ⟨rfl, rfl, rfl, rfl, rfl, rfl, ?_, ?_⟩; iterate 2 (focus ((repeat' apply And.intro) <;> first | exact trivial | (intro i _; rw [Nat.zero_add]; exact A.sim.refl _) | with_reducible exact rfl | exact fun _ _ => A.sim.refl _ | exact A.sim.refl _ | exact rfl | exact Nat.le_refl _ | omega | exact fun i _ => shift_sim _ _ i | exact fun _ _ => trivial | exact fun _ h => absurd h (Nat.not_lt_zero _) | exact half_ok (by omega))))
      obtain ⟨h, hhe⟩ : ∃ h, h = (s + r) / 2 := ⟨_, rfl⟩
      rw [← hhe] at hh ⊢
      have hpc : ((mid + m - 1 : Nat) : Int) - (h : Int) = ((mid + m - 1 - h : Nat) : Int) := by omega
      have hx : d.getD (addI 0 (((mid + m - 1 : Nat) : Int) - (h : Int))) default = HP.at_ d (mid + m - 1 - h) := by show d.getD (((mid + m - 1 : Nat) : Int) - (h : Int)).toNat default = _; rw [hpc]; rfl
      cases ht : (lessN G) (HP.at_ d (mid + m - 1 - h)) (HP.at_ d h) with
      | true =>
        have hneg : lessF G (HP.at_ d (mid + m - 1 - h)) (HP.at_ d h) < 0 := of_decide_eq_true ht
        repeat' first
          | assumption
          | exact Bool.noConfusion hb
          | exact absurd hb (by decide)
          | (exfalso; omega)
          | (exfalso; simp at hb; done)
          | exact absurd hneg hb
          | (refine W.toA (ih (s, h) ?_ ?_) ?_; rotate_left 2; (conv => whnf); refine ⟨rfl, rfl, rfl, rfl, rfl, rfl, ?_, ?_⟩; iterate 2 (focus ((repeat' apply And.intro) <;> first | exact trivial | (intro i _; rw [Nat.zero_add]; exact A.sim.refl _) | with_reducible exact rfl | exact fun _ _ => A.sim.refl _ | exact A.sim.refl _ | exact rfl | exact Nat.le_refl _ | omega | exact fun i _ => shift_sim _ _ i | exact fun _ _ => trivial | exact fun _ h => absurd h (Nat.not_lt_zero _) | exact hsl | exact hsl.symm | exact Nat.le_of_eq hsl | exact Nat.le_of_eq hsl.symm | exact ⟨rfl, rfl, rfl, rfl⟩ | exact ⟨rfl, rfl, rfl⟩ | exact ⟨rfl, rfl⟩ | exact hx | exact congrArg A.str hx)))
          | (refine W.branch rfl (fun hb => ?_) (fun hb => ?_) <;> ((try simp only [decide_eq_true_eq, decide_eq_false_iff_not, Bool.not_eq_true', Bool.not_eq_false', Int.not_lt, Int.not_le, cond_true, cond_false, reduceCtorEq, Int.toNat_natCast, Int.reduceToNat, addI] at hb); (try replace hb := of_decide_eq_true hb); (try replace hb := of_decide_eq_false hb)))
          | (refine D.branch rfl (fun hb => ?_) (fun hb => ?_) <;> ((try simp only [decide_eq_true_eq, decide_eq_false_iff_not, Bool.not_eq_true', Bool.not_eq_false', Int.not_lt, Int.not_le, cond_true, cond_false, reduceCtorEq, Int.toNat_natCast, Int.reduceToNat, addI] at hb); (try replace hb := of_decide_eq_true hb); (try replace hb := of_decide_eq_false hb)))
          | (refine D.callAR (order1_does (HP.at_ d (mid + m - 1 - h)) (HP.at_ d h) ks G) rfl rfl rfl rfl hΓ rfl ?_; (conv => whnf); refine ⟨rfl, rfl, rfl, rfl, ?_, ?_, ?_, ?_, ?_⟩; iterate 4 (focus ((repeat' apply And.intro) <;> first | exact trivial | (intro i _; rw [Nat.zero_add]; exact A.sim.refl _) | with_reducible exact rfl | exact fun _ _ => A.sim.refl _ | exact A.sim.refl _ | exact rfl | exact Nat.le_refl _ | omega | exact fun i _ => shift_sim _ _ i | exact fun _ _ => trivial | exact fun _ h => absurd h (Nat.not_lt_zero _) | exact hsl | exact hsl.symm | exact Nat.le_of_eq hsl | exact Nat.le_of_eq hsl.symm | exact ⟨rfl, rfl, rfl, rfl⟩ | exact ⟨rfl, rfl, rfl⟩ | exact ⟨rfl, rfl⟩ | exact hx | exact congrArg A.str hx)); (conv => whnf))
          | (refine W.callA (order1_does (HP.at_ d (mid + m - 1 - h)) (HP.at_ d h) ks G) rfl rfl rfl rfl hΓ rfl ?_; (conv => whnf); refine ⟨rfl, rfl, ?_, ?_, ?_, ?_⟩; iterate 3 (focus ((repeat' apply And.intro) <;> first | exact trivial | (intro i _; rw [Nat.zero_add]; exact A.sim.refl _) | with_reducible exact rfl | exact fun _ _ => A.sim.refl _ | exact A.sim.refl _ | exact rfl | exact Nat.le_refl _ | omega | exact fun i _ => shift_sim _ _ i | exact fun _ _ => trivial | exact fun _ h => absurd h (Nat.not_lt_zero _) | exact hsl | exact hsl.symm | exact Nat.le_of_eq hsl | exact Nat.le_of_eq hsl.symm | exact ⟨rfl, rfl, rfl, rfl⟩ | exact ⟨rfl, rfl, rfl⟩ | exact ⟨rfl, rfl⟩ | exact hx | exact congrArg A.str hx)); (conv => whnf))
          | (refine W.go TOK 220 hΓ 1000 rfl ?_; (conv => whnf); refine ⟨?_, ?_⟩)
          | (refine D.go TOK 220 hΓ 1000 rfl ?_; (conv => whnf); refine ⟨?_, ?_⟩)
          | (refine W.drawn rfl rfl ?_; refine D.run TOK 220 hΓ 1000 ?_; (conv => whnf); refine ⟨?_, ?_⟩)
        all_goals (repeat' apply And.intro)
        all_goals try (first
          | exact trivial
          | exact rfl
          | exact fun _ _ => A.sim.refl _
          | exact A.sim.refl _
          | exact Nat.le_refl _
          | omega
          | exact fun _ _ => trivial
          | exact fun i _ => shift_sim _ _ i
          | exact fun _ h => absurd h (Nat.not_lt_zero _)
          | exact fun i _ => isInt_byteAt _ i
          | exact ⟨j1, by simp only; omega, by simp only; omega, j4, .inr ht⟩
          | (simp only [allP, List.nil_append, List.append_nil, List.cons_append, List.append_eq, and_true, true_and, inr_i64, inr_u8, inr_u64, min_i64, max_i64, min_u64, max_u64, min_u8, max_u8, A.purePL, A.pureP, A.sureP, A.surePL, Int.toNat_natCast, Int.reduceToNat, addI, cHi, cLo, hiN, loN, subO, addO, hasIdx, cond_true, cond_false]; first | done | omega | ((repeat' apply And.intro) <;> first | exact trivial | rfl | omega | decide))
          | exact .inr ht
          | (refine .inr ?_; simp only; rw [hq, Nat.add_sub_cancel]; exact ht)
          | (simp only; omega)
          )
      | false =>
        have hneg : ¬ lessF G (HP.at_ d (mid + m - 1 - h)) (HP.at_ d h) < 0 := of_decide_eq_false ht
        have hq : mid + m - (h + 1) = mid + m - 1 - h := by omega
        repeat' first
          | assumption
          | exact Bool.noConfusion hb
          | exact absurd hb (by decide)
          | (exfalso; omega)
          | (exfalso; simp at hb; done)
          | exact absurd hb hneg
          | (refine W.toA (ih (h + 1, r) ?_ ?_) ?_; rotate_left 2; (conv => whnf); refine ⟨rfl, rfl, rfl, rfl, rfl, rfl, ?_, ?_⟩; iterate 2 (focus ((repeat' apply And.intro) <;> first | exact trivial | (intro i _; rw [Nat.zero_add]; exact A.sim.refl _) | with_reducible exact rfl | exact fun _ _ => A.sim.refl _ | exact A.sim.refl _ | exact rfl | exact Nat.le_refl _ | omega | exact fun i _ => shift_sim _ _ i | exact fun _ _ => trivial | exact fun _ h => absurd h (Nat.not_lt_zero _) | exact hsl | exact hsl.symm | exact Nat.le_of_eq hsl | exact Nat.le_of_eq hsl.symm | exact ⟨rfl, rfl, rfl, rfl⟩ | exact ⟨rfl, rfl, rfl⟩ | exact ⟨rfl, rfl⟩ | exact hx | exact congrArg A.str hx)))
          | (refine W.branch rfl (fun hb => ?_) (fun hb => ?_) <;> ((try simp only [decide_eq_true_eq, decide_eq_false_iff_not, Bool.not_eq_true', Bool.not_eq_false', Int.not_lt, Int.not_le, cond_true, cond_false, reduceCtorEq, Int.toNat_natCast, Int.reduceToNat, addI] at hb); (try replace hb := of_decide_eq_true hb); (try replace hb := of_decide_eq_false hb)))
          | (refine D.branch rfl (fun hb => ?_) (fun hb => ?_) <;> ((try simp only [decide_eq_true_eq, decide_eq_false_iff_not, Bool.not_eq_true', Bool.not_eq_false', Int.not_lt, Int.not_le, cond_true, cond_false, reduceCtorEq, Int.toNat_natCast, Int.reduceToNat, addI] at hb); (try replace hb := of_decide_eq_true hb); (try replace hb := of_decide_eq_false hb)))
          | (refine D.callAR (order1_does (HP.at_ d (mid + m - 1 - h)) (HP.at_ d h) ks G) rfl rfl rfl rfl hΓ rfl ?_; (conv => whnf); refine ⟨rfl, rfl, rfl, rfl, ?_, ?_, ?_, ?_, ?_⟩; iterate 4 (focus ((repeat' apply And.intro) <;> first | exact trivial | (intro i _; rw [Nat.zero_add]; exact A.sim.refl _) | with_reducible exact rfl | exact fun _ _ => A.sim.refl _ | exact A.sim.refl _ | exact rfl | exact Nat.le_refl _ | omega | exact fun i _ => shift_sim _ _ i | exact fun _ _ => trivial | exact fun _ h => absurd h (Nat.not_lt_zero _) | exact hsl | exact hsl.symm | exact Nat.le_of_eq hsl | exact Nat.le_of_eq hsl.symm | exact ⟨rfl, rfl, rfl, rfl⟩ | exact ⟨rfl, rfl, rfl⟩ | exact ⟨rfl, rfl⟩ | exact hx | exact congrArg A.str hx)); (conv => whnf))
          | (refine W.callA (order1_does (HP.at_ d (mid + m - 1 - h)) (HP.at_ d h) ks G) rfl rfl rfl rfl hΓ rfl ?_; (conv => whnf); refine ⟨rfl, rfl, ?_, ?_, ?_, ?_⟩; iterate 3 (focus ((repeat' apply And.intro) <;> first | exact trivial | (intro i _; rw [Nat.zero_add]; exact A.sim.refl _) | with_reducible exact rfl | exact fun _ _ => A.sim.refl _ | exact A.sim.refl _ | exact rfl | exact Nat.le_refl _ | omega | exact fun i _ => shift_sim _ _ i | exact fun _ _ => trivial | exact fun _ h => absurd h (Nat.not_lt_zero _) | exact hsl | exact hsl.symm | exact Nat.le_of_eq hsl | exact Nat.le_of_eq hsl.symm | exact ⟨rfl, rfl, rfl, rfl⟩ | exact ⟨rfl, rfl, rfl⟩ | exact ⟨rfl, rfl⟩ | exact hx | exact congrArg A.str hx)); (conv => whnf))
          | (refine W.go TOK 220 hΓ 1000 rfl ?_; (conv => whnf); refine ⟨?_, ?_⟩)
          | (refine D.go TOK 220 hΓ 1000 rfl ?_; (conv => whnf); refine ⟨?_, ?_⟩)
          | (refine W.drawn rfl rfl ?_; refine D.run TOK 220 hΓ 1000 ?_; (conv => whnf); refine ⟨?_, ?_⟩)
        all_goals (repeat' apply And.intro)
        all_goals try (first
          | exact trivial
          | exact rfl
          | exact fun _ _ => A.sim.refl _
          | exact A.sim.refl _
          | exact Nat.le_refl _
          | omega
          | exact fun _ _ => trivial
          | exact fun i _ => shift_sim _ _ i
          | exact fun _ h => absurd h (Nat.not_lt_zero _)
          | exact fun i _ => isInt_byteAt _ i
          | exact ⟨by simp only; omega, by simp only; omega, j3, .inr (by simp only; rw [hq, Nat.add_sub_cancel]; exact ht), j5⟩
          | (simp only [allP, List.nil_append, List.append_nil, List.cons_append, List.append_eq, and_true, true_and, inr_i64, inr_u8, inr_u64, min_i64, max_i64, min_u64, max_u64, min_u8, max_u8, A.purePL, A.pureP, A.sureP, A.surePL, Int.toNat_natCast, Int.reduceToNat, addI, cHi, cLo, hiN, loN, subO, addO, hasIdx, cond_true, cond_false]; first | done | omega | ((repeat' apply And.intro) <;> first | exact trivial | rfl | omega | decide))
          | exact .inr ht
          | (refine .inr ?_; simp only; rw [hq, Nat.add_sub_cancel]; exact ht)
          | (simp only; omega)
          )
    · have hsre : r = s := by omega
      subst hsre
      clear ih
      have hnm : ((mid + m : Nat) : Int) - (r : Int) = ((mid + m - r : Nat) : Int) := by omega
      have hH := HP.merge_halves (lessN_ord G) hs1 hs2 (by omega) (by omega) hbl hmid (s := r) (by omega) (by omega) (by omega) (by omega) (by rcases j4 with h | h; rcases hlh.2.2.2.2.2.1 with g | g; exact .inl (by omega); exact .inr (.inl (by omega)); exact .inr (.inr h)) (by rcases j5 with h | h; rcases hlh.2.2.2.2.2.2 with g | g; exact .inl (by omega); exact .inr (.inl (by omega)); exact .inr (.inr h))
      have hM : HP.Mv a b d (HP.rotS d r m (mid + m - r)) := (HP.rot_mv (by omega) (by omega) (by omega)).mono (by omega) (by omega)
      by_cases hr1 : r < m ∧ m < mid + m - r
      · have cr := rot_does ks G d r m (mid + m - r) hr1.1 hr1.2 (by omega) h9
        have hsl := HP.rot_len d r m (mid + m - r)
        have hE1 : HP.rotS d r m (mid + m - r) = HP.rotS d r m (mid + m - r) := rfl
        by_cases hr2 : a < r ∧ r < mid
        · have c2 := IH (mid - a) (by omega) (HP.rotS d r m (mid + m - r)) a r mid rfl hr2.1 hr2.2 (by rw [hsl]; omega) (by rw [hsl]; omega) hH.l1 hH.l2
          have hE2 : HP.sortSeg (lessN G) (HP.rotS d r m (mid + m - r)) a mid = HP.sortSeg (lessN G) (HP.rotS d r m (mid + m - r)) a mid := rfl
          have hsl2 := HP.sortSeg_len (lt := (lessN G)) (HP.rotS d r m (mid + m - r)) (show a ≤ mid by omega) (show mid ≤ (HP.rotS d r m (mid + m - r)).length by rw [hsl]; omega)
          have hr1' := HP.srt_behind (lessN_ord G) (show a ≤ mid by omega) (show mid ≤ (HP.rotS d r m (mid + m - r)).length by rw [hsl]; omega) (Nat.le_refl _) hH.r1
          have hr2' := HP.srt_behind (lessN_ord G) (show a ≤ mid by omega) (show mid ≤ (HP.rotS d r m (mid + m - r)).length by rw [hsl]; omega) (by omega) hH.r2
          by_cases hr3 : mid < mid + m - r ∧ mid + m - r < b
          · have c3 := IH (b - mid) (by omega) (HP.sortSeg (lessN G) (HP.rotS d r m (mid + m - r)) a mid) mid (mid + m - r) b rfl hr3.1 hr3.2 (by rw [hsl2, hsl]; omega) (by rw [hsl2, hsl]; omega) hr1' hr2'
            have hE3 : HP.sortSeg (lessN G) (HP.sortSeg (lessN G) (HP.rotS d r m (mid + m - r)) a mid) mid b = HP.sortSeg (lessN G) (HP.sortSeg (lessN G) (HP.rotS d r m (mid + m - r)) a mid) mid b := rfl
            have hsl3 := HP.sortSeg_len (lt := (lessN G)) (HP.sortSeg (lessN G) (HP.rotS d r m (mid + m - r)) a mid) (show mid ≤ b by omega) (show b ≤ (HP.sortSeg (lessN G) (HP.rotS d r m (mid + m - r)) a mid).length by rw [hsl2, hsl]; omega)
            have hfin := HP.merge_end (lessN_ord G) hH hM hE2.symm hE3.symm (by omega) (by omega) hbl
            rw [← hfin]
            repeat' first
              | assumption
              | exact Bool.noConfusion hb
              | exact absurd hb (by decide)
              | (exfalso; omega)
              | (exfalso; simp at hb; done)
              | (refine W.endA TOK rfl ?_; (conv => whnf); refine ⟨rfl, rfl, rfl, rfl, rfl, rfl, ?_, ?_, ?_⟩)
              | (refine W.branch rfl (fun hb => ?_) (fun hb => ?_) <;> ((try simp only [decide_eq_true_eq, decide_eq_false_iff_not, Bool.not_eq_true', Bool.not_eq_false', Int.not_lt, Int.not_le, cond_true, cond_false, reduceCtorEq, Int.toNat_natCast, Int.reduceToNat, addI] at hb); (try replace hb := of_decide_eq_true hb); (try replace hb := of_decide_eq_false hb)))
              | (refine D.branch rfl (fun hb => ?_) (fun hb => ?_) <;> ((try simp only [decide_eq_true_eq, decide_eq_false_iff_not, Bool.not_eq_true', Bool.not_eq_false', Int.not_lt, Int.not_le, cond_true, cond_false, reduceCtorEq, Int.toNat_natCast, Int.reduceToNat, addI] at hb); (try replace hb := of_decide_eq_true hb); (try replace hb := of_decide_eq_false hb)))
              | ((first | (refine D.callA (cr) rfl rfl rfl rfl hΓ rfl ?_; (conv => whnf); refine ⟨rfl, rfl, rfl, ?_, ?_, ?_, ?_⟩) | (refine W.callA (cr) rfl rfl rfl rfl hΓ rfl ?_; (conv => whnf); refine ⟨rfl, rfl, ?_, ?_, ?_, ?_⟩)); iterate 3 (focus ((repeat' apply And.intro) <;> first | exact trivial | (intro i _; rw [Nat.zero_add]; exact A.sim.refl _) | with_reducible exact rfl | exact fun _ _ => A.sim.refl _ | exact A.sim.refl _ | exact rfl | exact Nat.le_refl _ | omega | exact fun i _ => shift_sim _ _ i | exact fun _ _ => trivial | exact fun _ h => absurd h (Nat.not_lt_zero _) | exact hsl | exact hsl.symm | exact Nat.le_of_eq hsl | exact Nat.le_of_eq hsl.symm | exact ⟨rfl, rfl, rfl, rfl⟩ | exact ⟨rfl, rfl, rfl⟩ | exact ⟨rfl, rfl⟩ | exact hsl2 | exact hsl2.symm | exact Nat.le_of_eq hsl2 | exact Nat.le_of_eq hsl2.symm | exact hsl3 | exact hsl3.symm | exact Nat.le_of_eq hsl3 | exact Nat.le_of_eq hsl3.symm | exact hnm | exact hnm.symm)); (conv => whnf))
              | ((first | (refine D.callA (c2) rfl rfl rfl rfl hΓ rfl ?_; (conv => whnf); refine ⟨rfl, rfl, rfl, ?_, ?_, ?_, ?_⟩) | (refine W.callA (c2) rfl rfl rfl rfl hΓ rfl ?_; (conv => whnf); refine ⟨rfl, rfl, ?_, ?_, ?_, ?_⟩)); iterate 3 (focus ((repeat' apply And.intro) <;> first | exact trivial | (intro i _; rw [Nat.zero_add]; exact A.sim.refl _) | with_reducible exact rfl | exact fun _ _ => A.sim.refl _ | exact A.sim.refl _ | exact rfl | exact Nat.le_refl _ | omega | exact fun i _ => shift_sim _ _ i | exact fun _ _ => trivial | exact fun _ h => absurd h (Nat.not_lt_zero _) | exact hsl | exact hsl.symm | exact Nat.le_of_eq hsl | exact Nat.le_of_eq hsl.symm | exact ⟨rfl, rfl, rfl, rfl⟩ | exact ⟨rfl, rfl, rfl⟩ | exact ⟨rfl, rfl⟩ | exact hsl2 | exact hsl2.symm | exact Nat.le_of_eq hsl2 | exact Nat.le_of_eq hsl2.symm | exact hsl3 | exact hsl3.symm | exact Nat.le_of_eq hsl3 | exact Nat.le_of_eq hsl3.symm | exact hnm | exact hnm.symm)); (conv => whnf))
              | ((first | (refine D.callA (c3) rfl rfl rfl rfl hΓ rfl ?_; (conv => whnf); refine ⟨rfl, rfl, rfl, ?_, ?_, ?_, ?_⟩) | (refine W.callA (c3) rfl rfl rfl rfl hΓ rfl ?_; (conv => whnf); refine ⟨rfl, rfl, ?_, ?_, ?_, ?_⟩)); iterate 3 (focus ((repeat' apply And.intro) <;> first | exact trivial | (intro i _; rw [Nat.zero_add]; exact A.sim.refl _) | with_reducible exact rfl | exact fun _ _ => A.sim.refl _ | exact A.sim.refl _ | exact rfl | exact Nat.le_refl _ | omega | exact fun i _ => shift_sim _ _ i | exact fun _ _ => trivial | exact fun _ h => absurd h (Nat.not_lt_zero _) | exact hsl | exact hsl.symm | exact Nat.le_of_eq hsl | exact Nat.le_of_eq hsl.symm | exact ⟨rfl, rfl, rfl, rfl⟩ | exact ⟨rfl, rfl, rfl⟩ | exact ⟨rfl, rfl⟩ | exact hsl2 | exact hsl2.symm | exact Nat.le_of_eq hsl2 | exact Nat.le_of_eq hsl2.symm | exact hsl3 | exact hsl3.symm | exact Nat.le_of_eq hsl3 | exact Nat.le_of_eq hsl3.symm | exact hnm | exact hnm.symm)); (conv => whnf))
              | (refine W.go TOK 220 hΓ 1000 rfl ?_; (conv => whnf); refine ⟨?_, ?_⟩)
              | (refine D.go TOK 220 hΓ 1000 rfl ?_; (conv => whnf); refine ⟨?_, ?_⟩)
              | (refine W.drawn rfl rfl ?_; refine D.run TOK 220 hΓ 1000 ?_; (conv => whnf); refine ⟨?_, ?_⟩)
            all_goals (repeat' apply And.intro)
            all_goals try (first
              | exact trivial
              | exact rfl
              | exact fun _ _ => A.sim.refl _
              | exact A.sim.refl _
              | exact Nat.le_refl _
              | omega
              | exact fun _ _ => trivial
              | exact fun i _ => shift_sim _ _ i
              | exact fun _ h => absurd h (Nat.not_lt_zero _)
              | exact fun i _ => isInt_byteAt _ i
              | exact hsl
              | exact hsl.symm
              | exact Nat.le_of_eq hsl
              | exact Nat.le_of_eq hsl.symm
              | exact ⟨rfl, rfl, rfl, rfl⟩
              | exact ⟨rfl, rfl, rfl⟩
              | exact ⟨rfl, rfl⟩
              | exact hsl2
              | exact hsl2.symm
              | exact Nat.le_of_eq hsl2
              | exact Nat.le_of_eq hsl2.symm
              | exact hsl3
              | exact hsl3.symm
              | exact Nat.le_of_eq hsl3
              | exact Nat.le_of_eq hsl3.symm
              | exact hnm
              | exact hnm.symm
              | (simp only [allP, List.nil_append, List.append_nil, List.cons_append, List.append_eq, and_true, true_and, inr_i64, inr_u8, inr_u64, min_i64, max_i64, min_u64, max_u64, min_u8, max_u8, A.purePL, A.pureP, A.sureP, A.surePL, Int.toNat_natCast, Int.reduceToNat, addI, cHi, cLo, hiN, loN, subO, addO, hasIdx, cond_true, cond_false]; first | done | omega | ((repeat' apply And.intro) <;> first | exact trivial | rfl | omega | decide))
              )
          · have hE3 : HP.sortSeg (lessN G) (HP.sortSeg (lessN G) (HP.rotS d r m (mid + m - r)) a mid) mid b = (HP.sortSeg (lessN G) (HP.rotS d r m (mid + m - r)) a mid) := HP.srt_skip (lessN_ord G) (by omega) (by rw [hsl2, hsl]; omega) (by
              by_cases h : r = m
              · exact hr2'.mono (by omega) (Nat.le_refl _)
              · exact hr1'.mono (Nat.le_refl _) (by omega))
            have hsl3 : (HP.sortSeg (lessN G) (HP.rotS d r m (mid + m - r)) a mid).length = (HP.sortSeg (lessN G) (HP.rotS d r m (mid + m - r)) a mid).length := rfl
            have hfin := HP.merge_end (lessN_ord G) hH hM hE2.symm hE3.symm (by omega) (by omega) hbl
            rw [← hfin]
            repeat' first
              | assumption
              | exact Bool.noConfusion hb
              | exact absurd hb (by decide)
              | (exfalso; omega)
              | (exfalso; simp at hb; done)
              | (refine W.endA TOK rfl ?_; (conv => whnf); refine ⟨rfl, rfl, rfl, rfl, rfl, rfl, ?_, ?_, ?_⟩)
              | (refine W.branch rfl (fun hb => ?_) (fun hb => ?_) <;> ((try simp only [decide_eq_true_eq, decide_eq_false_iff_not, Bool.not_eq_true', Bool.not_eq_false', Int.not_lt, Int.not_le, cond_true, cond_false, reduceCtorEq, Int.toNat_natCast, Int.reduceToNat, addI] at hb); (try replace hb := of_decide_eq_true hb); (try replace hb := of_decide_eq_false hb)))
              | (refine D.branch rfl (fun hb => ?_) (fun hb => ?_) <;> ((try simp only [decide_eq_true_eq, decide_eq_false_iff_not, Bool.not_eq_true', Bool.not_eq_false', Int.not_lt, Int.not_le, cond_true, cond_false, reduceCtorEq, Int.toNat_natCast, Int.reduceToNat, addI] at hb); (try replace hb := of_decide_eq_true hb); (try replace hb := of_decide_eq_false hb)))
              | ((first | (refine D.callA (cr) rfl rfl rfl rfl hΓ rfl ?_; (conv => whnf); refine ⟨rfl, rfl, rfl, ?_, ?_, ?_, ?_⟩) | (refine W.callA (cr) rfl rfl rfl rfl hΓ rfl ?_; (conv => whnf); refine ⟨rfl, rfl, ?_, ?_, ?_, ?_⟩)); iterate 3 (focus ((repeat' apply And.intro) <;> first | exact trivial | (intro i _; rw [Nat.zero_add]; exact A.sim.refl _) | with_reducible exact rfl | exact fun _ _ => A.sim.refl _ | exact A.sim.refl _ | exact rfl | exact Nat.le_refl _ | omega | exact fun i _ => shift_sim _ _ i | exact fun _ _ => trivial | exact fun _ h => absurd h (Nat.not_lt_zero _) | exact hsl | exact hsl.symm | exact Nat.le_of_eq hsl | exact Nat.le_of_eq hsl.symm | exact ⟨rfl, rfl, rfl, rfl⟩ | exact ⟨rfl, rfl, rfl⟩ | exact ⟨rfl, rfl⟩ | exact hsl2 | exact hsl2.symm | exact Nat.le_of_eq hsl2 | exact Nat.le_of_eq hsl2.symm | exact hsl3 | exact hsl3.symm | exact Nat.le_of_eq hsl3 | exact Nat.le_of_eq hsl3.symm | exact hnm | exact hnm.symm)); (conv => whnf))
              | ((first | (refine D.callA (c2) rfl rfl rfl rfl hΓ rfl ?_; (conv => whnf); refine ⟨rfl, rfl, rfl, ?_, ?_, ?_, ?_⟩) | (refine W.callA (c2) rfl rfl rfl rfl hΓ rfl ?_; (conv => whnf); refine ⟨rfl, rfl, ?_, ?_, ?_, ?_⟩)); iterate 3 (focus ((repeat' apply And.intro) <;> first | exact trivial | (intro i _; rw [Nat.zero_add]; exact A.sim.refl _) | with_reducible exact rfl | exact fun _ _ => A.sim.refl _ | exact A.sim.refl _ | exact rfl | exact Nat.le_refl _ | omega | exact fun i _ => shift_sim _ _ i | exact fun _ _ => trivial | exact fun _ h => absurd h (Nat.not_lt_zero _) | exact hsl | exact hsl.symm | exact Nat.le_of_eq hsl | exact Nat.le_of_eq hsl.symm | exact ⟨rfl, rfl, rfl, rfl⟩ | exact ⟨rfl, rfl, rfl⟩ | exact ⟨rfl, rfl⟩ | exact hsl2 | exact hsl2.symm | exact Nat.le_of_eq hsl2 | exact Nat.le_of_eq hsl2.symm | exact hsl3 | exact hsl3.symm | exact Nat.le_of_eq hsl3 | exact Nat.le_of_eq hsl3.symm | exact hnm | exact hnm.symm)); (conv => whnf))
              | (refine W.go TOK 220 hΓ 1000 rfl ?_; (conv => whnf); refine ⟨?_, ?_⟩)
              | (refine D.go TOK 220 hΓ 1000 rfl ?_; (conv => whnf); refine ⟨?_, ?_⟩)
              | (refine W.drawn rfl rfl ?_; refine D.run TOK 220 hΓ 1000 ?_; (conv => whnf); refine ⟨?_, ?_⟩)
            all_goals (repeat' apply And.intro)
            all_goals try (first
              | exact trivial
              | exact rfl
              | exact fun _ _ => A.sim.refl _
              | exact A.sim.refl _
              | exact Nat.le_refl _
              | omega
              | exact fun _ _ => trivial
              | exact fun i _ => shift_sim _ _ i
              | exact fun _ h => absurd h (Nat.not_lt_zero _)
              | exact fun i _ => isInt_byteAt _ i
              | exact hsl
              | exact hsl.symm
              | exact Nat.le_of_eq hsl
              | exact Nat.le_of_eq hsl.symm
              | exact ⟨rfl, rfl, rfl, rfl⟩
              | exact ⟨rfl, rfl, rfl⟩
              | exact ⟨rfl, rfl⟩
              | exact hsl2
              | exact hsl2.symm
              | exact Nat.le_of_eq hsl2
              | exact Nat.le_of_eq hsl2.symm
              | exact hsl3
              | exact hsl3.symm
              | exact Nat.le_of_eq hsl3
              | exact Nat.le_of_eq hsl3.symm
              | exact hnm
              | exact hnm.symm
              | (simp only [allP, List.nil_append, List.append_nil, List.cons_append, List.append_eq, and_true, true_and, inr_i64, inr_u8, inr_u64, min_i64, max_i64, min_u64, max_u64, min_u8, max_u8, A.purePL, A.pureP, A.sureP, A.surePL, Int.toNat_natCast, Int.reduceToNat, addI, cHi, cLo, hiN, loN, subO, addO, hasIdx, cond_true, cond_false]; first | done | omega | ((repeat' apply And.intro) <;> first | exact trivial | rfl | omega | decide))
              )
        · have hE2 : HP.sortSeg (lessN G) (HP.rotS d r m (mid + m - r)) a mid = (HP.rotS d r m (mid + m - r)) := HP.srt_skip (lessN_ord G) (by omega) (by rw [hsl]; omega) (by
            by_cases h : r = a
            · exact hH.l2.mono (by omega) (Nat.le_refl _)
            · exact hH.l1.mono (Nat.le_refl _) (by omega))
          have hsl2 : (HP.rotS d r m (mid + m - r)).length = (HP.rotS d r m (mid + m - r)).length := rfl
          have hr1' := hH.r1
          have hr2' := hH.r2
          by_cases hr3 : mid < mid + m - r ∧ mid + m - r < b
          · have c3 := IH (b - mid) (by omega) (HP.rotS d r m (mid + m - r)) mid (mid + m - r) b rfl hr3.1 hr3.2 (by rw [hsl2, hsl]; omega) (by rw [hsl2, hsl]; omega) hr1' hr2'
            have hE3 : HP.sortSeg (lessN G) (HP.rotS d r m (mid + m - r)) mid b = HP.sortSeg (lessN G) (HP.rotS d r m (mid + m - r)) mid b := rfl
            have hsl3 := HP.sortSeg_len (lt := (lessN G)) (HP.rotS d r m (mid + m - r)) (show mid ≤ b by omega) (show b ≤ (HP.rotS d r m (mid + m - r)).length by rw [hsl2, hsl]; omega)
            have hfin := HP.merge_end (lessN_ord G) hH hM hE2.symm hE3.symm (by omega) (by omega) hbl
            rw [← hfin]
            repeat' first
              | assumption
              | exact Bool.noConfusion hb
              | exact absurd hb (by decide)
              | (exfalso; omega)
              | (exfalso; simp at hb; done)
              | (refine W.endA TOK rfl ?_; (conv => whnf); refine ⟨rfl, rfl, rfl, rfl, rfl, rfl, ?_, ?_, ?_⟩)
              | (refine W.branch rfl (fun hb => ?_) (fun hb => ?_) <;> ((try simp only [decide_eq_true_eq, decide_eq_false_iff_not, Bool.not_eq_true', Bool.not_eq_false', Int.not_lt, Int.not_le, cond_true, cond_false, reduceCtorEq, Int.toNat_natCast, Int.reduceToNat, addI] at hb); (try replace hb := of_decide_eq_true hb); (try replace hb := of_decide_eq_false hb)))
              | (refine D.branch rfl (fun hb => ?_) (fun hb => ?_) <;> ((try simp only [decide_eq_true_eq, decide_eq_false_iff_not, Bool.not_eq_true', Bool.not_eq_false', Int.not_lt, Int.not_le, cond_true, cond_false, reduceCtorEq, Int.toNat_natCast, Int.reduceToNat, addI] at hb); (try replace hb := of_decide_eq_true hb); (try replace hb := of_decide_eq_false hb)))
              | ((first | (refine D.callA (cr) rfl rfl rfl rfl hΓ rfl ?_; (conv => whnf); refine ⟨rfl, rfl, rfl, ?_, ?_, ?_, ?_⟩) | (refine W.callA (cr) rfl rfl rfl rfl hΓ rfl ?_; (conv => whnf); refine ⟨rfl, rfl, ?_, ?_, ?_, ?_⟩)); iterate 3 (focus ((repeat' apply And.intro) <;> first | exact trivial | (intro i _; rw [Nat.zero_add]; exact A.sim.refl _) | with_reducible exact rfl | exact fun _ _ => A.sim.refl _ | exact A.sim.refl _ | exact rfl | exact Nat.le_refl _ | omega | exact fun i _ => shift_sim _ _ i | exact fun _ _ => trivial | exact fun _ h => absurd h (Nat.not_lt_zero _) | exact hsl | exact hsl.symm | exact Nat.le_of_eq hsl | exact Nat.le_of_eq hsl.symm | exact ⟨rfl, rfl, rfl, rfl⟩ | exact ⟨rfl, rfl, rfl⟩ | exact ⟨rfl, rfl⟩ | exact hsl2 | exact hsl2.symm | exact Nat.le_of_eq hsl2 | exact Nat.le_of_eq hsl2.symm | exact hsl3 | exact hsl3.symm | exact Nat.le_of_eq hsl3 | exact Nat.le_of_eq hsl3.symm | exact hnm | exact hnm.symm)); (conv => whnf))
              | ((first | (refine D.callA (c3) rfl rfl rfl rfl hΓ rfl ?_; (conv => whnf); refine ⟨rfl, rfl, rfl, ?_, ?_, ?_, ?_⟩) | (refine W.callA (c3) rfl rfl rfl rfl hΓ rfl ?_; (conv => whnf); refine ⟨rfl, rfl, ?_, ?_, ?_, ?_⟩)); iterate 3 (focus ((repeat' apply And.intro) <;> first | exact trivial | (intro i _; rw [Nat.zero_add]; exact A.sim.refl _) | with_reducible exact rfl | exact fun _ _ => A.sim.refl _ | exact A.sim.refl _ | exact rfl | exact Nat.le_refl _ | omega | exact fun i _ => shift_sim _ _ i | exact fun _ _ => trivial | exact fun _ h => absurd h (Nat.not_lt_zero _) | exact hsl | exact hsl.symm | exact Nat.le_of_eq hsl | exact Nat.le_of_eq hsl.symm | exact ⟨rfl, rfl, rfl, rfl⟩ | exact ⟨rfl, rfl, rfl⟩ | exact ⟨rfl, rfl⟩ | exact hsl2 | exact hsl2.symm | exact Nat.le_of_eq hsl2 | exact Nat.le_of_eq hsl2.symm | exact hsl3 | exact hsl3.symm | exact Nat.le_of_eq hsl3 | exact Nat.le_of_eq hsl3.symm | exact hnm | exact hnm.symm)); (conv => whnf))
              | (refine W.go TOK 220 hΓ 1000 rfl ?_; (conv => whnf); refine ⟨?_, ?_⟩)
              | (refine D.go TOK 220 hΓ 1000 rfl ?_; (conv => whnf); refine ⟨?_, ?_⟩)
              | (refine W.drawn rfl rfl ?_; refine D.run TOK 220 hΓ 1000 ?_; (conv => whnf); refine ⟨?_, ?_⟩)
            all_goals (repeat' apply And.intro)
            all_goals try (first
              | exact trivial
              | exact rfl
              | exact fun _ _ => A.sim.refl _
              | exact A.sim.refl _
              | exact Nat.le_refl _
              | omega
              | exact fun _ _ => trivial
              | exact fun i _ => shift_sim _ _ i
              | exact fun _ h => absurd h (Nat.not_lt_zero _)
              | exact fun i _ => isInt_byteAt _ i
              | exact hsl
              | exact hsl.symm
              | exact Nat.le_of_eq hsl
              | exact Nat.le_of_eq hsl.symm
              | exact ⟨rfl, rfl, rfl, rfl⟩
              | exact ⟨rfl, rfl, rfl⟩
              | exact ⟨rfl, rfl⟩
              | exact hsl2
              | exact hsl2.symm
              | exact Nat.le_of_eq hsl2
              | exact Nat.le_of_eq hsl2.symm
              | exact hsl3
              | exact hsl3.symm
              | exact Nat.le_of_eq hsl3
              | exact Nat.le_of_eq hsl3.symm
              | exact hnm
              | exact hnm.symm
              | (simp only [allP, List.nil_append, List.append_nil, List.cons_append, List.append_eq, and_true, true_and, inr_i64, inr_u8, inr_u64, min_i64, max_i64, min_u64, max_u64, min_u8, max_u8, A.purePL, A.pureP, A.sureP, A.surePL, Int.toNat_natCast, Int.reduceToNat, addI, cHi, cLo, hiN, loN, subO, addO, hasIdx, cond_true, cond_false]; first | done | omega | ((repeat' apply And.intro) <;> first | exact trivial | rfl | omega | decide))
              )
          · have hE3 : HP.sortSeg (lessN G) (HP.rotS d r m (mid + m - r)) mid b = (HP.rotS d r m (mid + m - r)) := HP.srt_skip (lessN_ord G) (by omega) (by rw [hsl2, hsl]; omega) (by
              by_cases h : r = m
              · exact hr2'.mono (by omega) (Nat.le_refl _)
              · exact hr1'.mono (Nat.le_refl _) (by omega))
            have hsl3 : (HP.rotS d r m (mid + m - r)).length = (HP.rotS d r m (mid + m - r)).length := rfl
            have hfin := HP.merge_end (lessN_ord G) hH hM hE2.symm hE3.symm (by omega) (by omega) hbl
            rw [← hfin]
            repeat' first
              | assumption
              | exact Bool.noConfusion hb
              | exact absurd hb (by decide)
              | (exfalso; omega)
              | (exfalso; simp at hb; done)
              | (refine W.endA TOK rfl ?_; (conv => whnf); refine ⟨rfl, rfl, rfl, rfl, rfl, rfl, ?_, ?_, ?_⟩)
              | (refine W.branch rfl (fun hb => ?_) (fun hb => ?_) <;> ((try simp only [decide_eq_true_eq, decide_eq_false_iff_not, Bool.not_eq_true', Bool.not_eq_false', Int.not_lt, Int.not_le, cond_true, cond_false, reduceCtorEq, Int.toNat_natCast, Int.reduceToNat, addI] at hb); (try replace hb := of_decide_eq_true hb); (try replace hb := of_decide_eq_false hb)))
              | (refine D.branch rfl (fun hb => ?_) (fun hb => ?_) <;> ((try simp only [decide_eq_true_eq, decide_eq_false_iff_not, Bool.not_eq_true', Bool.not_eq_false', Int.not_lt, Int.not_le, cond_true, cond_false, reduceCtorEq, Int.toNat_natCast, Int.reduceToNat, addI] at hb); (try replace hb := of_decide_eq_true hb); (try replace hb := of_decide_eq_false hb)))
              | ((first | (refine D.callA (cr) rfl rfl rfl rfl hΓ rfl ?_; (conv => whnf); refine ⟨rfl, rfl, rfl, ?_, ?_, ?_, ?_⟩) | (refine W.callA (cr) rfl rfl rfl rfl hΓ rfl ?_; (conv => whnf); refine ⟨rfl, rfl, ?_, ?_, ?_, ?_⟩)); iterate 3 (focus ((repeat' apply And.intro) <;> first | exact trivial | (intro i _; rw [Nat.zero_add]; exact A.sim.refl _) | with_reducible exact rfl | exact fun _ _ => A.sim.refl _ | exact A.sim.refl _ | exact rfl | exact Nat.le_refl _ | omega | exact fun i _ => shift_sim _ _ i | exact fun _ _ => trivial | exact fun _ h => absurd h (Nat.not_lt_zero _) | exact hsl | exact hsl.symm | exact Nat.le_of_eq hsl | exact Nat.le_of_eq hsl.symm | exact ⟨rfl, rfl, rfl, rfl⟩ | exact ⟨rfl, rfl, rfl⟩ | exact ⟨rfl, rfl⟩ | exact hsl2 | exact hsl2.symm | exact Nat.le_of_eq hsl2 | exact Nat.le_of_eq hsl2.symm | exact hsl3 | exact hsl3.symm | exact Nat.le_of_eq hsl3 | exact Nat.le_of_eq hsl3.symm | exact hnm | exact hnm.symm)); (conv => whnf))
              | (refine W.go TOK 220 hΓ 1000 rfl ?_; (conv => whnf); refine ⟨?_, ?_⟩)
              | (refine D.go TOK 220 hΓ 1000 rfl ?_; (conv => whnf); refine ⟨?_, ?_⟩)
              | (refine W.drawn rfl rfl ?_; refine D.run TOK 220 hΓ 1000 ?_; (conv => whnf); refine ⟨?_, ?_⟩)
            all_goals (repeat' apply And.intro)
            all_goals try (first
              | exact trivial
              | exact rfl
              | exact fun _ _ => A.sim.refl _
              | exact A.sim.refl _
              | exact Nat.le_refl _
              | omega
              | exact fun _ _ => trivial
              | exact fun i _ => shift_sim _ _ i
              | exact fun _ h => absurd h (Nat.not_lt_zero _)
              | exact fun i _ => isInt_byteAt _ i
              | exact hsl
              | exact hsl.symm
              | exact Nat.le_of_eq hsl
              | exact Nat.le_of_eq hsl.symm
              | exact ⟨rfl, rfl, rfl, rfl⟩
              | exact ⟨rfl, rfl, rfl⟩
              | exact ⟨rfl, rfl⟩
              | exact hsl2
              | exact hsl2.symm
              | exact Nat.le_of_eq hsl2
              | exact Nat.le_of_eq hsl2.symm
              | exact hsl3
              | exact hsl3.symm
              | exact Nat.le_of_eq hsl3
              | exact Nat.le_of_eq hsl3.symm
              | exact hnm
              | exact hnm.symm
              | (simp only [allP, List.nil_append, List.append_nil, List.cons_append, List.append_eq, and_true, true_and, inr_i64, inr_u8, inr_u64, min_i64, max_i64, min_u64, max_u64, min_u8, max_u8, A.purePL, A.pureP, A.sureP, A.surePL, Int.toNat_natCast, Int.reduceToNat, addI, cHi, cLo, hiN, loN, subO, addO, hasIdx, cond_true, cond_false]; first | done | omega | ((repeat' apply And.intro) <;> first | exact trivial | rfl | omega | decide))
              )
      · have hE1 : HP.rotS d r m (mid + m - r) = d := by
          by_cases h : r = m
          · subst h; exact HP.rot_id2 _ _ _
          · rw [show mid + m - r = m by omega]; exact HP.rot_id _ _ _
        have hsl : d.length = d.length := rfl
        rw [hE1] at hH hM
        by_cases hr2 : a < r ∧ r < mid
        · have c2 := IH (mid - a) (by omega) d a r mid rfl hr2.1 hr2.2 (by rw [hsl]; omega) (by rw [hsl]; omega) hH.l1 hH.l2
          have hE2 : HP.sortSeg (lessN G) d a mid = HP.sortSeg (lessN G) d a mid := rfl
          have hsl2 := HP.sortSeg_len (lt := (lessN G)) d (show a ≤ mid by omega) (show mid ≤ d.length by rw [hsl]; omega)
          have hr1' := HP.srt_behind (lessN_ord G) (show a ≤ mid by omega) (show mid ≤ d.length by rw [hsl]; omega) (Nat.le_refl _) hH.r1
          have hr2' := HP.srt_behind (lessN_ord G) (show a ≤ mid by omega) (show mid ≤ d.length by rw [hsl]; omega) (by omega) hH.r2
          by_cases hr3 : mid < mid + m - r ∧ mid + m - r < b
          · have c3 := IH (b - mid) (by omega) (HP.sortSeg (lessN G) d a mid) mid (mid + m - r) b rfl hr3.1 hr3.2 (by rw [hsl2, hsl]; omega) (by rw [hsl2, hsl]; omega) hr1' hr2'
            have hE3 : HP.sortSeg (lessN G) (HP.sortSeg (lessN G) d a mid) mid b = HP.sortSeg (lessN G) (HP.sortSeg (lessN G) d a mid) mid b := rfl
            have hsl3 := HP.sortSeg_len (lt := (lessN G)) (HP.sortSeg (lessN G) d a mid) (show mid ≤ b by omega) (show b ≤ (HP.sortSeg (lessN G) d a mid).length by rw [hsl2, hsl]; omega)
            have hfin := HP.merge_end (lessN_ord G) hH hM hE2.symm hE3.symm (by omega) (by omega) hbl
            rw [← hfin]
            repeat' first
              | assumption
              | exact Bool.noConfusion hb
              | exact absurd hb (by decide)
              | (exfalso; omega)
              | (exfalso; simp at hb; done)
              | (refine W.endA TOK rfl ?_; (conv => whnf); refine ⟨rfl, rfl, rfl, rfl, rfl, rfl, ?_, ?_, ?_⟩)
              | (refine W.branch rfl (fun hb => ?_) (fun hb => ?_) <;> ((try simp only [decide_eq_true_eq, decide_eq_false_iff_not, Bool.not_eq_true', Bool.not_eq_false', Int.not_lt, Int.not_le, cond_true, cond_false, reduceCtorEq, Int.toNat_natCast, Int.reduceToNat, addI] at hb); (try replace hb := of_decide_eq_true hb); (try replace hb := of_decide_eq_false hb)))
              | (refine D.branch rfl (fun hb => ?_) (fun hb => ?_) <;> ((try simp only [decide_eq_true_eq, decide_eq_false_iff_not, Bool.not_eq_true', Bool.not_eq_false', Int.not_lt, Int.not_le, cond_true, cond_false, reduceCtorEq, Int.toNat_natCast, Int.reduceToNat, addI] at hb); (try replace hb := of_decide_eq_true hb); (try replace hb := of_decide_eq_false hb)))
              | ((first | (refine D.callA (c2) rfl rfl rfl rfl hΓ rfl ?_; (conv => whnf); refine ⟨rfl, rfl, rfl, ?_, ?_, ?_, ?_⟩) | (refine W.callA (c2) rfl rfl rfl rfl hΓ rfl ?_; (conv => whnf); refine ⟨rfl, rfl, ?_, ?_, ?_, ?_⟩)); iterate 3 (focus ((repeat' apply And.intro) <;> first | exact trivial | (intro i _; rw [Nat.zero_add]; exact A.sim.refl _) | with_reducible exact rfl | exact fun _ _ => A.sim.refl _ | exact A.sim.refl _ | exact rfl | exact Nat.le_refl _ | omega | exact fun i _ => shift_sim _ _ i | exact fun _ _ => trivial | exact fun _ h => absurd h (Nat.not_lt_zero _) | exact hsl | exact hsl.symm | exact Nat.le_of_eq hsl | exact Nat.le_of_eq hsl.symm | exact ⟨rfl, rfl, rfl, rfl⟩ | exact ⟨rfl, rfl, rfl⟩ | exact ⟨rfl, rfl⟩ | exact hsl2 | exact hsl2.symm | exact Nat.le_of_eq hsl2 | exact Nat.le_of_eq hsl2.symm | exact hsl3 | exact hsl3.symm | exact Nat.le_of_eq hsl3 | exact Nat.le_of_eq hsl3.symm | exact hnm | exact hnm.symm)); (conv => whnf))
              | ((first | (refine D.callA (c3) rfl rfl rfl rfl hΓ rfl ?_; (conv => whnf); refine ⟨rfl, rfl, rfl, ?_, ?_, ?_, ?_⟩) | (refine W.callA (c3) rfl rfl rfl rfl hΓ rfl ?_; (conv => whnf); refine ⟨rfl, rfl, ?_, ?_, ?_, ?_⟩)); iterate 3 (focus ((repeat' apply And.intro) <;> first | exact trivial | (intro i _; rw [Nat.zero_add]; exact A.sim.refl _) | with_reducible exact rfl | exact fun _ _ => A.sim.refl _ | exact A.sim.refl _ | exact rfl | exact Nat.le_refl _ | omega | exact fun i _ => shift_sim _ _ i | exact fun _ _ => trivial | exact fun _ h => absurd h (Nat.not_lt_zero _) | exact hsl | exact hsl.symm | exact Nat.le_of_eq hsl | exact Nat.le_of_eq hsl.symm | exact ⟨rfl, rfl, rfl, rfl⟩ | exact ⟨rfl, rfl, rfl⟩ | exact ⟨rfl, rfl⟩ | exact hsl2 | exact hsl2.symm | exact Nat.le_of_eq hsl2 | exact Nat.le_of_eq hsl2.symm | exact hsl3 | exact hsl3.symm | exact Nat.le_of_eq hsl3 | exact Nat.le_of_eq hsl3.symm | exact hnm | exact hnm.symm)); (conv => whnf))
              | (refine W.go TOK 220 hΓ 1000 rfl ?_; (conv => whnf); refine ⟨?_, ?_⟩)
              | (refine D.go TOK 220 hΓ 1000 rfl ?_; (conv => whnf); refine ⟨?_, ?_⟩)
              | (refine W.drawn rfl rfl ?_; refine D.run TOK 220 hΓ 1000 ?_; (conv => whnf); refine ⟨?_, ?_⟩)
            all_goals (repeat' apply And.intro)
            all_goals try (first
              | exact trivial
              | exact rfl
              | exact fun _ _ => A.sim.refl _
              | exact A.sim.refl _
              | exact Nat.le_refl _
              | omega
              | exact fun _ _ => trivial
              | exact fun i _ => shift_sim _ _ i
              | exact fun _ h => absurd h (Nat.not_lt_zero _)
              | exact fun i _ => isInt_byteAt _ i
              | exact hsl
              | exact hsl.symm
              | exact Nat.le_of_eq hsl
              | exact Nat.le_of_eq hsl.symm
              | exact ⟨rfl, rfl, rfl, rfl⟩
              | exact ⟨rfl, rfl, rfl⟩
              | exact ⟨rfl, rfl⟩
              | exact hsl2
              | exact hsl2.symm
              | exact Nat.le_of_eq hsl2
              | exact Nat.le_of_eq hsl2.symm
              | exact hsl3
              | exact hsl3.symm
              | exact Nat.le_of_eq hsl3
              | exact Nat.le_of_eq hsl3.symm
              | exact hnm
              | exact hnm.symm
              | (simp only [allP, List.nil_append, List.append_nil, List.cons_append, List.append_eq, and_true, true_and, inr_i64, inr_u8, inr_u64, min_i64, max_i64, min_u64, max_u64, min_u8, max_u8, A.purePL, A.pureP, A.sureP, A.surePL, Int.toNat_natCast, Int.reduceToNat, addI, cHi, cLo, hiN, loN, subO, addO, hasIdx, cond_true, cond_false]; first | done | omega | ((repeat' apply And.intro) <;> first | exact trivial | rfl | omega | decide))
              )
          · have hE3 : HP.sortSeg (lessN G) (HP.sortSeg (lessN G) d a mid) mid b = (HP.sortSeg (lessN G) d a mid) := HP.srt_skip (lessN_ord G) (by omega) (by rw [hsl2, hsl]; omega) (by
              by_cases h : r = m
              · exact hr2'.mono (by omega) (Nat.le_refl _)
              · exact hr1'.mono (Nat.le_refl _) (by omega))
            have hsl3 : (HP.sortSeg (lessN G) d a mid).length = (HP.sortSeg (lessN G) d a mid).length := rfl
            have hfin := HP.merge_end (lessN_ord G) hH hM hE2.symm hE3.symm (by omega) (by omega) hbl
            rw [← hfin]
            repeat' first
              | assumption
              | exact Bool.noConfusion hb
              | exact absurd hb (by decide)
              | (exfalso; omega)
              | (exfalso; simp at hb; done)
              | (refine W.endA TOK rfl ?_; (conv => whnf); refine ⟨rfl, rfl, rfl, rfl, rfl, rfl, ?_, ?_, ?_⟩)
              | (refine W.branch rfl (fun hb => ?_) (fun hb => ?_) <;> ((try simp only [decide_eq_true_eq, decide_eq_false_iff_not, Bool.not_eq_true', Bool.not_eq_false', Int.not_lt, Int.not_le, cond_true, cond_false, reduceCtorEq, Int.toNat_natCast, Int.reduceToNat, addI] at hb); (try replace hb := of_decide_eq_true hb); (try replace hb := of_decide_eq_false hb)))
              | (refine D.branch rfl (fun hb => ?_) (fun hb => ?_) <;> ((try simp only [decide_eq_true_eq, decide_eq_false_iff_not, Bool.not_eq_true', Bool.not_eq_false', Int.not_lt, Int.not_le, cond_true, cond_false, reduceCtorEq, Int.toNat_natCast, Int.reduceToNat, addI] at hb); (try replace hb := of_decide_eq_true hb); (try replace hb := of_decide_eq_false hb)))
              | ((first | (refine D.callA (c2) rfl rfl rfl rfl hΓ rfl ?_; (conv => whnf); refine ⟨rfl, rfl, rfl, ?_, ?_, ?_, ?_⟩) | (refine W.callA (c2) rfl rfl rfl rfl hΓ rfl ?_; (conv => whnf); refine ⟨rfl, rfl, ?_, ?_, ?_, ?_⟩)); iterate 3 (focus ((repeat' apply And.intro) <;> first | exact trivial | (intro i _; rw [Nat.zero_add]; exact A.sim.refl _) | with_reducible exact rfl | exact fun _ _ => A.sim.refl _ | exact A.sim.refl _ | exact rfl | exact Nat.le_refl _ | omega | exact fun i _ => shift_sim _ _ i | exact fun _ _ => trivial | exact fun _ h => absurd h (Nat.not_lt_zero _) | exact hsl | exact hsl.symm | exact Nat.le_of_eq hsl | exact Nat.le_of_eq hsl.symm | exact ⟨rfl, rfl, rfl, rfl⟩ | exact ⟨rfl, rfl, rfl⟩ | exact ⟨rfl, rfl⟩ | exact hsl2 | exact hsl2.symm | exact Nat.le_of_eq hsl2 | exact Nat.le_of_eq hsl2.symm | exact hsl3 | exact hsl3.symm | exact Nat.le_of_eq hsl3 | exact Nat.le_of_eq hsl3.symm | exact hnm | exact hnm.symm)); (conv => whnf))
              | (refine W.go TOK 220 hΓ 1000 rfl ?_; (conv => whnf); refine ⟨?_, ?_⟩)
              | (refine D.go TOK 220 hΓ 1000 rfl ?_; (conv => whnf); refine ⟨?_, ?_⟩)
              | (refine W.drawn rfl rfl ?_; refine D.run TOK 220 hΓ 1000 ?_; (conv => whnf); refine ⟨?_, ?_⟩)
            all_goals (repeat' apply And.intro)
            all_goals try (first
              | exact trivial
              | exact rfl
              | exact fun _ _ => A.sim.refl _
              | exact A.sim.refl _
              | exact Nat.le_refl _
              | omega
              | exact fun _ _ => trivial
              | exact fun i _ => shift_sim _ _ i
              | exact fun _ h => absurd h (Nat.not_lt_zero _)
              | exact fun i _ => isInt_byteAt _ i
              | exact hsl
              | exact hsl.symm
              | exact Nat.le_of_eq hsl
              | exact Nat.le_of_eq hsl.symm
              | exact ⟨rfl, rfl, rfl, rfl⟩
              | exact ⟨rfl, rfl, rfl⟩
              | exact ⟨rfl, rfl⟩
              | exact hsl2
              | exact hsl2.symm
              | exact Nat.le_of_eq hsl2
              | exact Nat.le_of_eq hsl2.symm
              | exact hsl3
              | exact hsl3.symm
              | exact Nat.le_of_eq hsl3
              | exact Nat.le_of_eq hsl3.symm
              | exact hnm
              | exact hnm.symm
              | (simp only [allP, List.nil_append, List.append_nil, List.cons_append, List.append_eq, and_true, true_and, inr_i64, inr_u8, inr_u64, min_i64, max_i64, min_u64, max_u64, min_u8, max_u8, A.purePL, A.pureP, A.sureP, A.surePL, Int.toNat_natCast, Int.reduceToNat, addI, cHi, cLo, hiN, loN, subO, addO, hasIdx, cond_true, cond_false]; first | done | omega | ((repeat' apply And.intro) <;> first | exact trivial | rfl | omega | decide))
              )
        · have hE2 : HP.sortSeg (lessN G) d a mid = d := HP.srt_skip (lessN_ord G) (by omega) (by rw [hsl]; omega) (by
            by_cases h : r = a
            · exact hH.l2.mono (by omega) (Nat.le_refl _)
            · exact hH.l1.mono (Nat.le_refl _) (by omega))
          have hsl2 : d.length = d.length := rfl
          have hr1' := hH.r1
          have hr2' := hH.r2
          by_cases hr3 : mid < mid + m - r ∧ mid + m - r < b
          · have c3 := IH (b - mid) (by omega) d mid (mid + m - r) b rfl hr3.1 hr3.2 (by rw [hsl2, hsl]; omega) (by rw [hsl2, hsl]; omega) hr1' hr2'
            have hE3 : HP.sortSeg (lessN G) d mid b = HP.sortSeg (lessN G) d mid b := rfl
            have hsl3 := HP.sortSeg_len (lt := (lessN G)) d (show mid ≤ b by omega) (show b ≤ d.length by rw [hsl2, hsl]; omega)
            have hfin := HP.merge_end (lessN_ord G) hH hM hE2.symm hE3.symm (by omega) (by omega) hbl
            rw [← hfin]
            repeat' first
              | assumption
              | exact Bool.noConfusion hb
              | exact absurd hb (by decide)
              | (exfalso; omega)
              | (exfalso; simp at hb; done)
              | (refine W.endA TOK rfl ?_; (conv => whnf); refine ⟨rfl, rfl, rfl, rfl, rfl, rfl, ?_, ?_, ?_⟩)
              | (refine W.branch rfl (fun hb => ?_) (fun hb => ?_) <;> ((try simp only [decide_eq_true_eq, decide_eq_false_iff_not, Bool.not_eq_true', Bool.not_eq_false', Int.not_lt, Int.not_le, cond_true, cond_false, reduceCtorEq, Int.toNat_natCast, Int.reduceToNat, addI] at hb); (try replace hb := of_decide_eq_true hb); (try replace hb := of_decide_eq_false hb)))
              | (refine D.branch rfl (fun hb => ?_) (fun hb => ?_) <;> ((try simp only [decide_eq_true_eq, decide_eq_false_iff_not, Bool.not_eq_true', Bool.not_eq_false', Int.not_lt, Int.not_le, cond_true, cond_false, reduceCtorEq, Int.toNat_natCast, Int.reduceToNat, addI] at hb); (try replace hb := of_decide_eq_true hb); (try replace hb := of_decide_eq_false hb)))
              | ((first | (refine D.callA (c3) rfl rfl rfl rfl hΓ rfl ?_; (conv => whnf); refine ⟨rfl, rfl, rfl, ?_, ?_, ?_, ?_⟩) | (refine W.callA (c3) rfl rfl rfl rfl hΓ rfl ?_; (conv => whnf); refine ⟨rfl, rfl, ?_, ?_, ?_, ?_⟩)); iterate 3 (focus ((repeat' apply And.intro) <;> first | exact trivial | (intro i _; rw [Nat.zero_add]; exact A.sim.refl _) | with_reducible exact rfl | exact fun _ _ => A.sim.refl _ | exact A.sim.refl _ | exact rfl | exact Nat.le_refl _ | omega | exact fun i _ => shift_sim _ _ i | exact fun _ _ => trivial | exact fun _ h => absurd h (Nat.not_lt_zero _) | exact hsl | exact hsl.symm | exact Nat.le_of_eq hsl | exact Nat.le_of_eq hsl.symm | exact ⟨rfl, rfl, rfl, rfl⟩ | exact ⟨rfl, rfl, rfl⟩ | exact ⟨rfl, rfl⟩ | exact hsl2 | exact hsl2.symm | exact Nat.le_of_eq hsl2 | exact Nat.le_of_eq hsl2.symm | exact hsl3 | exact hsl3.symm | exact Nat.le_of_eq hsl3 | exact Nat.le_of_eq hsl3.symm | exact hnm | exact hnm.symm)); (conv => whnf))
              | (refine W.go TOK 220 hΓ 1000 rfl ?_; (conv => whnf); refine ⟨?_, ?_⟩)
              | (refine D.go TOK 220 hΓ 1000 rfl ?_; (conv => whnf); refine ⟨?_, ?_⟩)
              | (refine W.drawn rfl rfl ?_; refine D.run TOK 220 hΓ 1000 ?_; (conv => whnf); refine ⟨?_, ?_⟩)
            all_goals (repeat' apply And.intro)
            all_goals try (first
              | exact trivial
              | exact rfl
              | exact fun _ _ => A.sim.refl _
              | exact A.sim.refl _
              | exact Nat.le_refl _
              | omega
              | exact fun _ _ => trivial
              | exact fun i _ => shift_sim _ _ i
              | exact fun _ h => absurd h (Nat.not_lt_zero _)
              | exact fun i _ => isInt_byteAt _ i
              | exact hsl
              | exact hsl.symm
              | exact Nat.le_of_eq hsl
              | exact Nat.le_of_eq hsl.symm
              | exact ⟨rfl, rfl, rfl, rfl⟩
              | exact ⟨rfl, rfl, rfl⟩
              | exact ⟨rfl, rfl⟩
              | exact hsl2
              | exact hsl2.symm
              | exact Nat.le_of_eq hsl2
              | exact Nat.le_of_eq hsl2.symm
              | exact hsl3
              | exact hsl3.symm
              | exact Nat.le_of_eq hsl3
              | exact Nat.le_of_eq hsl3.symm
              | exact hnm
              | exact hnm.symm
              | (simp only [allP, List.nil_append, List.append_nil, List.cons_append, List.append_eq, and_true, true_and, inr_i64, inr_u8, inr_u64, min_i64, max_i64, min_u64, max_u64, min_u8, max_u8, A.purePL, A.pureP, A.sureP, A.surePL, Int.toNat_natCast, Int.reduceToNat, addI, cHi, cLo, hiN, loN, subO, addO, hasIdx, cond_true, cond_false]; first | done | omega | ((repeat' apply And.intro) <;> first | exact trivial | rfl | omega | decide))
              )
          · have hE3 : HP.sortSeg (lessN G) d mid b = d := HP.srt_skip (lessN_ord G) (by omega) (by rw [hsl2, hsl]; omega) (by
              by_cases h : r = m
              · exact hr2'.mono (by omega) (Nat.le_refl _)
              · exact hr1'.mono (Nat.le_refl _) (by omega))
            have hsl3 : d.length = d.length := rfl
            have hfin := HP.merge_end (lessN_ord G) hH hM hE2.symm hE3.symm (by omega) (by omega) hbl
            rw [← hfin]
            repeat' first
              | assumption
              | exact Bool.noConfusion hb
              | exact absurd hb (by decide)
              | (exfalso; omega)
              | (exfalso; simp at hb; done)
              | (refine W.endA TOK rfl ?_; (conv => whnf); refine ⟨rfl, rfl, rfl, rfl, rfl, rfl, ?_, ?_, ?_⟩)
              | (refine W.branch rfl (fun hb => ?_) (fun hb => ?_) <;> ((try simp only [decide_eq_true_eq, decide_eq_false_iff_not, Bool.not_eq_true', Bool.not_eq_false', Int.not_lt, Int.not_le, cond_true, cond_false, reduceCtorEq, Int.toNat_natCast, Int.reduceToNat, addI] at hb); (try replace hb := of_decide_eq_true hb); (try replace hb := of_decide_eq_false hb)))
              | (refine D.branch rfl (fun hb => ?_) (fun hb => ?_) <;> ((try simp only [decide_eq_true_eq, decide_eq_false_iff_not, Bool.not_eq_true', Bool.not_eq_false', Int.not_lt, Int.not_le, cond_true, cond_false, reduceCtorEq, Int.toNat_natCast, Int.reduceToNat, addI] at hb); (try replace hb := of_decide_eq_true hb); (try replace hb := of_decide_eq_false hb)))
              | (refine W.go TOK 220 hΓ 1000 rfl ?_; (conv => whnf); refine ⟨?_, ?_⟩)
              | (refine D.go TOK 220 hΓ 1000 rfl ?_; (conv => whnf); refine ⟨?_, ?_⟩)
              | (refine W.drawn rfl rfl ?_; refine D.run TOK 220 hΓ 1000 ?_; (conv => whnf); refine ⟨?_, ?_⟩)
            all_goals (repeat' apply And.intro)
            all_goals try (first
              | exact trivial
              | exact rfl
              | exact fun _ _ => A.sim.refl _
              | exact A.sim.refl _
              | exact Nat.le_refl _
              | omega
              | exact fun _ _ => trivial
              | exact fun i _ => shift_sim _ _ i
              | exact fun _ h => absurd h (Nat.not_lt_zero _)
              | exact fun i _ => isInt_byteAt _ i
              | exact hsl
              | exact hsl.symm
              | exact Nat.le_of_eq hsl
              | exact Nat.le_of_eq hsl.symm
              | exact ⟨rfl, rfl, rfl, rfl⟩
              | exact ⟨rfl, rfl, rfl⟩
              | exact ⟨rfl, rfl⟩
              | exact hsl2
              | exact hsl2.symm
              | exact Nat.le_of_eq hsl2
              | exact Nat.le_of_eq hsl2.symm
              | exact hsl3
              | exact hsl3.symm
              | exact Nat.le_of_eq hsl3
              | exact Nat.le_of_eq hsl3.symm
              | exact hnm
              | exact hnm.symm
              | (simp only [allP, List.nil_append, List.append_nil, List.cons_append, List.append_eq, and_true, true_and, inr_i64, inr_u8, inr_u64, min_i64, max_i64, min_u64, max_u64, min_u8, max_u8, A.purePL, A.pureP, A.sureP, A.surePL, Int.toNat_natCast, Int.reduceToNat, addI, cHi, cLo, hiN, loN, subO, addO, hasIdx, cond_true, cond_false]; first | done | omega | ((repeat' apply And.intro) <;> first | exact trivial | rfl | omega | decide))
              )

end Go.Proofs.Ytjcfggnmoeochaa
