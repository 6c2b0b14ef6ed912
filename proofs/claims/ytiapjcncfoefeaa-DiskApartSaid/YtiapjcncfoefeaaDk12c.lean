/- Walks: the disk: Cut. -/
import Derived.Test.YtiapjcncfoefeaaDk12b
set_option linter.unusedSimpArgs false
set_option linter.unusedVariables false
namespace Go.Proofs.Ytiapjcncfoefeaa
open VX
set_option maxRecDepth 100000
set_option maxHeartbeats 4000000

theorem cutdel_does (x : DK.F) (n : Int) (h0 : 0 ≤ n) (h9 : x.ps.length ≤ 1000000000) : Does Try.prog 22 [.own 1 1001 0 x.ps.length, .func (.func 23) [] [.ptr 1002 []]] [(1001, some (.arr 1 x.ps.length (begF x))), (1002, some (.var (.int .i64 n)))] []
    (Is (.own 1 1001 0 (DK.cutF x n.toNat).ps.length) [(1001, some (.arr 1 (DK.cutF x n.toNat).ps.length (begF (DK.cutF x n.toNat)))), (1002, some (.var (.int .i64 n)))]) := by
  have hf : x.begins.filter (fun (a : Nat) => decide ((a : Int) < n)) = (DK.cutF x n.toNat).begins := by
    rw [DK.cutF_begins]
    congr 1
    funext a
    exact decide_eq_decide.2 (by omega)
  have h := delete_does x.begins n (by rw [DK.begins_len]; exact h9)
  rw [hf] at h
  have e1 : x.begins.length = x.ps.length := DK.begins_len x
  have e2 : (DK.cutF x n.toNat).begins.length = (DK.cutF x n.toNat).ps.length := DK.begins_len _
  have h2 := h
  simp only [e1, e2] at h2
  exact h2
theorem cut_len (x : DK.F) {n : Int} (h0 : 0 ≤ n) (h : n ≤ x.b.length) : (DK.cutF x n.toNat).b.length = n.toNat := by
  rw [DK.cutF_b, List.length_take]; omega
theorem cut_sim (x : DK.F) (n : Nat) : ∀ i, i < n → (byteAt x.b i).sim (byteAt (DK.cutF x n).b i) := fun i hi => A.sim.of (by rw [DK.cutF_b, take_fun hi])
theorem cut_sure (x : DK.F) {n : Int} (h0 : 0 ≤ n) : (if n < (x.s.length : Int) then n else (x.s.length : Int)) = ((DK.cutF x n.toNat).s.length : Nat) := by
  show _ = (((x.s.take n.toNat).length : Nat) : Int)
  rw [List.length_take]
  split <;> omega

theorem cut_does (d : DK.D) (f n : Int) (ho : DK.Ok d) : Does Try.prog 16 [.ptr 1000 [], .int .i64 f, .int .i64 n] (DR d) NW (Is (.int .i64 (DK.cutE d f n)) (DN (DK.cutD d f n))) := by
  have h1 := ho.b0
  have h2 := ho.b1
  have h3 := ho.b2
  have h4 := ho.p0
  have h5 := ho.p1
  have h6 := ho.p2
  by_cases h : DK.no f = true
  · have e1 : DK.cutE d f n = 36 := if_pos h
    have e2 : DK.cutD d f n = d := if_pos h
    rw [e1, e2]
    refine Does.intro (fn := Try.f16) Try.func16 rfl rfl fun Γ hΓ => ?_
    refine W.run TOK 58 hΓ 1000 ?_
    conv => whnf
    refine ⟨?_, ?_⟩
    repeat' first
      | assumption
      | exact Bool.noConfusion hb
      | exact absurd hb (by decide)
      | (exfalso; omega)
      | (exfalso; simp at hb; done)
      | (refine W.retA TOK rfl ?_; (conv => whnf); refine ⟨rfl, rfl, rfl, rfl, rfl, rfl, ?_, ?_, ?_⟩)
      | (refine W.branch rfl (fun hb => ?_) (fun hb => ?_) <;> ((try simp only [decide_eq_true_eq, decide_eq_false_iff_not, Bool.not_eq_true', Bool.not_eq_false', Int.not_lt, Int.not_le, cond_true, cond_false, reduceCtorEq, Int.toNat_natCast, Int.reduceToNat, addI] at hb); (try replace hb := of_decide_eq_true hb); (try replace hb := of_decide_eq_false hb)))
      | (refine D.branch rfl (fun hb => ?_) (fun hb => ?_) <;> ((try simp only [decide_eq_true_eq, decide_eq_false_iff_not, Bool.not_eq_true', Bool.not_eq_false', Int.not_lt, Int.not_le, cond_true, cond_false, reduceCtorEq, Int.toNat_natCast, Int.reduceToNat, addI] at hb); (try replace hb := of_decide_eq_true hb); (try replace hb := of_decide_eq_false hb)))
      | ((first | (refine D.callA (of_no d f h) rfl rfl rfl rfl hΓ rfl ?_; (conv => whnf); refine ⟨rfl, rfl, rfl, ?_, ?_, ?_, ?_⟩) | (refine W.callA (of_no d f h) rfl rfl rfl rfl hΓ rfl ?_; (conv => whnf); refine ⟨rfl, rfl, ?_, ?_, ?_, ?_⟩)); iterate 3 (focus ((repeat' apply And.intro) <;> first | exact trivial | (intro i _; rw [Nat.zero_add]; exact A.sim.refl _) | with_reducible exact rfl | exact fun _ _ => A.sim.refl _ | exact A.sim.refl _ | exact rfl | exact Nat.le_refl _ | omega | exact fun i _ => shift_sim _ _ i | exact fun _ _ => trivial | exact fun _ h => absurd h (Nat.not_lt_zero _))); (conv => whnf))
      | (refine W.go TOK 58 hΓ 1000 rfl ?_; (conv => whnf); refine ⟨?_, ?_⟩)
      | (refine D.go TOK 58 hΓ 1000 rfl ?_; (conv => whnf); refine ⟨?_, ?_⟩)
      | (refine W.drawn rfl rfl ?_; refine D.run TOK 58 hΓ 1000 ?_; (conv => whnf); refine ⟨?_, ?_⟩)
    all_goals (repeat' apply And.intro)
    all_goals try (first
      | exact trivial
      | exact rfl
      | exact fun _ _ => A.sim.refl _
      | exact A.sim.refl _
      | exact Nat.le_refl _
      | omega
      | exact fun _ _ => trivial
      | exact fun i _ => shift_sim _ _ i
      | exact fun _ h => absurd h (Nat.not_lt_zero _)
      | exact fun i _ => isInt_byteAt _ i
      | (simp only [allP, List.nil_append, List.append_nil, List.cons_append, List.append_eq, and_true, true_and, inr_i64, inr_u8, inr_u64, min_i64, max_i64, min_u64, max_u64, min_u8, max_u8, A.purePL, A.pureP, A.sureP, A.surePL, Int.toNat_natCast, Int.reduceToNat, addI, cHi, cLo, hiN, loN, subO, addO, hasIdx, cond_true, cond_false]; first | done | omega | ((repeat' apply And.intro) <;> first | exact trivial | rfl | omega | decide))
      )
  have hf : f = 0 ∨ f = 1 ∨ f = 2 := by simp [DK.no] at h; omega
  rcases hf with rfl | rfl | rfl
  · by_cases hr : n < 0 ∨ (d.f0.b.length : Int) < n
    · have e1 : DK.cutE d 0 n = 36 := by unfold DK.cutE; rw [if_neg h]; exact if_pos hr
      have e2 : DK.cutD d 0 n = d := by unfold DK.cutD; rw [if_neg h]; exact if_pos hr
      rw [e1, e2]
      refine Does.intro (fn := Try.f16) Try.func16 rfl rfl fun Γ hΓ => ?_
      refine W.run TOK 58 hΓ 1000 ?_
      conv => whnf
      refine ⟨?_, ?_⟩
      repeat' first
        | assumption
        | exact Bool.noConfusion hb
        | exact absurd hb (by decide)
        | (exfalso; omega)
        | (exfalso; simp at hb; done)
        | (refine W.retA TOK rfl ?_; (conv => whnf); refine ⟨rfl, rfl, rfl, rfl, rfl, rfl, ?_, ?_, ?_⟩)
        | (refine W.branch rfl (fun hb => ?_) (fun hb => ?_) <;> ((try simp only [decide_eq_true_eq, decide_eq_false_iff_not, Bool.not_eq_true', Bool.not_eq_false', Int.not_lt, Int.not_le, cond_true, cond_false, reduceCtorEq, Int.toNat_natCast, Int.reduceToNat, addI] at hb); (try replace hb := of_decide_eq_true hb); (try replace hb := of_decide_eq_false hb)))
        | (refine D.branch rfl (fun hb => ?_) (fun hb => ?_) <;> ((try simp only [decide_eq_true_eq, decide_eq_false_iff_not, Bool.not_eq_true', Bool.not_eq_false', Int.not_lt, Int.not_le, cond_true, cond_false, reduceCtorEq, Int.toNat_natCast, Int.reduceToNat, addI] at hb); (try replace hb := of_decide_eq_true hb); (try replace hb := of_decide_eq_false hb)))
        | ((first | (refine D.callA (of_0 d) rfl rfl rfl rfl hΓ rfl ?_; (conv => whnf); refine ⟨rfl, rfl, rfl, ?_, ?_, ?_, ?_⟩) | (refine W.callA (of_0 d) rfl rfl rfl rfl hΓ rfl ?_; (conv => whnf); refine ⟨rfl, rfl, ?_, ?_, ?_, ?_⟩)); iterate 3 (focus ((repeat' apply And.intro) <;> first | exact trivial | (intro i _; rw [Nat.zero_add]; exact A.sim.refl _) | with_reducible exact rfl | exact fun _ _ => A.sim.refl _ | exact A.sim.refl _ | exact rfl | exact Nat.le_refl _ | omega | exact fun i _ => shift_sim _ _ i | exact fun _ _ => trivial | exact fun _ h => absurd h (Nat.not_lt_zero _))); (conv => whnf))
        | (refine W.go TOK 58 hΓ 1000 rfl ?_; (conv => whnf); refine ⟨?_, ?_⟩)
        | (refine D.go TOK 58 hΓ 1000 rfl ?_; (conv => whnf); refine ⟨?_, ?_⟩)
        | (refine W.drawn rfl rfl ?_; refine D.run TOK 58 hΓ 1000 ?_; (conv => whnf); refine ⟨?_, ?_⟩)
      all_goals (repeat' apply And.intro)
      all_goals try (first
        | exact trivial
        | exact rfl
        | exact fun _ _ => A.sim.refl _
        | exact A.sim.refl _
        | exact Nat.le_refl _
        | omega
        | exact fun _ _ => trivial
        | exact fun i _ => shift_sim _ _ i
        | exact fun _ h => absurd h (Nat.not_lt_zero _)
        | exact fun i _ => isInt_byteAt _ i
        | (simp only [allP, List.nil_append, List.append_nil, List.cons_append, List.append_eq, and_true, true_and, inr_i64, inr_u8, inr_u64, min_i64, max_i64, min_u64, max_u64, min_u8, max_u8, A.purePL, A.pureP, A.sureP, A.surePL, Int.toNat_natCast, Int.reduceToNat, addI, cHi, cLo, hiN, loN, subO, addO, hasIdx, cond_true, cond_false]; first | done | omega | ((repeat' apply And.intro) <;> first | exact trivial | rfl | omega | decide))
        )
    · by_cases hx : DK.failB d = true
      · have e1 : DK.cutE d 0 n = 32 := by unfold DK.cutE; rw [if_neg h]; exact (if_neg hr).trans (if_pos hx)
        have e2 : DK.cutD d 0 n = DK.failD d := by unfold DK.cutD; rw [if_neg h]; exact (if_neg hr).trans (if_pos hx)
        rw [e1, e2]
        refine Does.intro (fn := Try.f16) Try.func16 rfl rfl fun Γ hΓ => ?_
        refine W.run TOK 58 hΓ 1000 ?_
        conv => whnf
        refine ⟨?_, ?_⟩
        repeat' first
          | assumption
          | exact Bool.noConfusion hb
          | exact absurd hb (by decide)
          | (exfalso; omega)
          | (exfalso; simp at hb; done)
          | exact absurd (hx.symm.trans hb) (by decide)
          | exact absurd hb hx
          | (refine W.retA TOK rfl ?_; (conv => whnf); refine ⟨rfl, rfl, rfl, rfl, rfl, rfl, ?_, ?_, ?_⟩)
          | (refine W.branch rfl (fun hb => ?_) (fun hb => ?_) <;> ((try simp only [decide_eq_true_eq, decide_eq_false_iff_not, Bool.not_eq_true', Bool.not_eq_false', Int.not_lt, Int.not_le, cond_true, cond_false, reduceCtorEq, Int.toNat_natCast, Int.reduceToNat, addI] at hb); (try replace hb := of_decide_eq_true hb); (try replace hb := of_decide_eq_false hb)))
          | (refine D.branch rfl (fun hb => ?_) (fun hb => ?_) <;> ((try simp only [decide_eq_true_eq, decide_eq_false_iff_not, Bool.not_eq_true', Bool.not_eq_false', Int.not_lt, Int.not_le, cond_true, cond_false, reduceCtorEq, Int.toNat_natCast, Int.reduceToNat, addI] at hb); (try replace hb := of_decide_eq_true hb); (try replace hb := of_decide_eq_false hb)))
          | ((first | (refine D.callA (of_0 d) rfl rfl rfl rfl hΓ rfl ?_; (conv => whnf); refine ⟨rfl, rfl, rfl, ?_, ?_, ?_, ?_⟩) | (refine W.callA (of_0 d) rfl rfl rfl rfl hΓ rfl ?_; (conv => whnf); refine ⟨rfl, rfl, ?_, ?_, ?_, ?_⟩)); iterate 3 (focus ((repeat' apply And.intro) <;> first | exact trivial | (intro i _; rw [Nat.zero_add]; exact A.sim.refl _) | with_reducible exact rfl | exact fun _ _ => A.sim.refl _ | exact A.sim.refl _ | exact rfl | exact Nat.le_refl _ | omega | exact fun i _ => shift_sim _ _ i | exact fun _ _ => trivial | exact fun _ h => absurd h (Nat.not_lt_zero _))); (conv => whnf))
          | ((first | (refine D.callA (fails_does d ho) rfl rfl rfl rfl hΓ rfl ?_; (conv => whnf); refine ⟨rfl, rfl, rfl, ?_, ?_, ?_, ?_⟩) | (refine W.callA (fails_does d ho) rfl rfl rfl rfl hΓ rfl ?_; (conv => whnf); refine ⟨rfl, rfl, ?_, ?_, ?_, ?_⟩)); iterate 3 (focus ((repeat' apply And.intro) <;> first | exact trivial | (intro i _; rw [Nat.zero_add]; exact A.sim.refl _) | with_reducible exact rfl | exact fun _ _ => A.sim.refl _ | exact A.sim.refl _ | exact rfl | exact Nat.le_refl _ | omega | exact fun i _ => shift_sim _ _ i | exact fun _ _ => trivial | exact fun _ h => absurd h (Nat.not_lt_zero _))); (conv => whnf))
          | (refine W.go TOK 58 hΓ 1000 rfl ?_; (conv => whnf); refine ⟨?_, ?_⟩)
          | (refine D.go TOK 58 hΓ 1000 rfl ?_; (conv => whnf); refine ⟨?_, ?_⟩)
          | (refine W.drawn rfl rfl ?_; refine D.run TOK 58 hΓ 1000 ?_; (conv => whnf); refine ⟨?_, ?_⟩)
        all_goals (repeat' apply And.intro)
        all_goals try (first
          | exact trivial
          | exact rfl
          | exact fun _ _ => A.sim.refl _
          | exact A.sim.refl _
          | exact Nat.le_refl _
          | omega
          | exact fun _ _ => trivial
          | exact fun i _ => shift_sim _ _ i
          | exact fun _ h => absurd h (Nat.not_lt_zero _)
          | exact fun i _ => isInt_byteAt _ i
          | (simp only [allP, List.nil_append, List.append_nil, List.cons_append, List.append_eq, and_true, true_and, inr_i64, inr_u8, inr_u64, min_i64, max_i64, min_u64, max_u64, min_u8, max_u8, A.purePL, A.pureP, A.sureP, A.surePL, Int.toNat_natCast, Int.reduceToNat, addI, cHi, cLo, hiN, loN, subO, addO, hasIdx, cond_true, cond_false]; first | done | omega | ((repeat' apply And.intro) <;> first | exact trivial | rfl | omega | decide))
          )
      · have e1 : DK.cutE d 0 n = 0 := by unfold DK.cutE; rw [if_neg h]; exact (if_neg hr).trans (if_neg hx)
        have e2 : DK.cutD d 0 n = DK.set (DK.failD d) 0 (DK.cutF d.f0 n.toNat) := by unfold DK.cutD; rw [if_neg h]; exact (if_neg hr).trans (if_neg hx)
        have n0 : 0 ≤ n := by omega
        have n1 : n ≤ (d.f0.b.length : Int) := by omega
        have c1 := cut_len d.f0 n0 n1
        have c2 := cut_sim d.f0 n.toNat
        have c3 := cut_sure d.f0 n0
        have n2 : n.toNat ≤ d.f0.b.length := by omega
        have n3 : n ≤ ((DK.failD d).f0.b.length : Int) := n1
        have n4 : n.toNat ≤ (DK.failD d).f0.b.length := n2
        rw [e1, e2]
        refine Does.intro (fn := Try.f16) Try.func16 rfl rfl fun Γ hΓ => ?_
        refine W.run TOK 58 hΓ 1000 ?_
        conv => whnf
        refine ⟨?_, ?_⟩
        repeat' first
          | assumption
          | exact Bool.noConfusion hb
          | exact absurd hb (by decide)
          | (exfalso; omega)
          | (exfalso; simp at hb; done)
          | exact absurd (hx.symm.trans hb) (by decide)
          | exact absurd hb hx
          | (refine W.retA TOK rfl ?_; (conv => whnf); refine ⟨rfl, rfl, rfl, rfl, rfl, rfl, ?_, ?_, ?_⟩)
          | (refine W.branch rfl (fun hb => ?_) (fun hb => ?_) <;> ((try simp only [decide_eq_true_eq, decide_eq_false_iff_not, Bool.not_eq_true', Bool.not_eq_false', Int.not_lt, Int.not_le, cond_true, cond_false, reduceCtorEq, Int.toNat_natCast, Int.reduceToNat, addI] at hb); (try replace hb := of_decide_eq_true hb); (try replace hb := of_decide_eq_false hb)))
          | (refine D.branch rfl (fun hb => ?_) (fun hb => ?_) <;> ((try simp only [decide_eq_true_eq, decide_eq_false_iff_not, Bool.not_eq_true', Bool.not_eq_false', Int.not_lt, Int.not_le, cond_true, cond_false, reduceCtorEq, Int.toNat_natCast, Int.reduceToNat, addI] at hb); (try replace hb := of_decide_eq_true hb); (try replace hb := of_decide_eq_false hb)))
          | ((first | (refine D.callA (of_0 d) rfl rfl rfl rfl hΓ rfl ?_; (conv => whnf); refine ⟨rfl, rfl, rfl, ?_, ?_, ?_, ?_⟩) | (refine W.callA (of_0 d) rfl rfl rfl rfl hΓ rfl ?_; (conv => whnf); refine ⟨rfl, rfl, ?_, ?_, ?_, ?_⟩)); iterate 3 (focus ((repeat' apply And.intro) <;> first | exact trivial | (intro i _; rw [Nat.zero_add]; exact A.sim.refl _) | with_reducible exact rfl | exact fun _ _ => A.sim.refl _ | exact A.sim.refl _ | exact rfl | exact Nat.le_refl _ | omega | exact fun i _ => shift_sim _ _ i | exact fun _ _ => trivial | exact fun _ h => absurd h (Nat.not_lt_zero _) | exact c1 | exact c1.symm | exact c2 | exact c3 | (simp only [addO, subO, hiN, loN]; omega))); (conv => whnf))
          | ((first | (refine D.callA (fails_does d ho) rfl rfl rfl rfl hΓ rfl ?_; (conv => whnf); refine ⟨rfl, rfl, rfl, ?_, ?_, ?_, ?_⟩) | (refine W.callA (fails_does d ho) rfl rfl rfl rfl hΓ rfl ?_; (conv => whnf); refine ⟨rfl, rfl, ?_, ?_, ?_, ?_⟩)); iterate 3 (focus ((repeat' apply And.intro) <;> first | exact trivial | (intro i _; rw [Nat.zero_add]; exact A.sim.refl _) | with_reducible exact rfl | exact fun _ _ => A.sim.refl _ | exact A.sim.refl _ | exact rfl | exact Nat.le_refl _ | omega | exact fun i _ => shift_sim _ _ i | exact fun _ _ => trivial | exact fun _ h => absurd h (Nat.not_lt_zero _) | exact c1 | exact c1.symm | exact c2 | exact c3 | (simp only [addO, subO, hiN, loN]; omega))); (conv => whnf))
          | ((first | (refine D.callA (clone_does n.toNat (byteAt d.f0.b) (by omega)) rfl rfl rfl rfl hΓ rfl ?_; (conv => whnf); refine ⟨rfl, rfl, rfl, ?_, ?_, ?_, ?_⟩) | (refine W.callA (clone_does n.toNat (byteAt d.f0.b) (by omega)) rfl rfl rfl rfl hΓ rfl ?_; (conv => whnf); refine ⟨rfl, rfl, ?_, ?_, ?_, ?_⟩)); iterate 3 (focus ((repeat' apply And.intro) <;> first | exact trivial | (intro i _; rw [Nat.zero_add]; exact A.sim.refl _) | with_reducible exact rfl | exact fun _ _ => A.sim.refl _ | exact A.sim.refl _ | exact rfl | exact Nat.le_refl _ | omega | exact fun i _ => shift_sim _ _ i | exact fun _ _ => trivial | exact fun _ h => absurd h (Nat.not_lt_zero _) | exact c1 | exact c1.symm | exact c2 | exact c3 | (simp only [addO, subO, hiN, loN]; omega))); (conv => whnf))
          | ((first | (refine D.callA (cutdel_does d.f0 n n0 h4) rfl rfl rfl rfl hΓ rfl ?_; (conv => whnf); refine ⟨rfl, rfl, rfl, ?_, ?_, ?_, ?_⟩) | (refine W.callA (cutdel_does d.f0 n n0 h4) rfl rfl rfl rfl hΓ rfl ?_; (conv => whnf); refine ⟨rfl, rfl, ?_, ?_, ?_, ?_⟩)); iterate 3 (focus ((repeat' apply And.intro) <;> first | exact trivial | (intro i _; rw [Nat.zero_add]; exact A.sim.refl _) | with_reducible exact rfl | exact fun _ _ => A.sim.refl _ | exact A.sim.refl _ | exact rfl | exact Nat.le_refl _ | omega | exact fun i _ => shift_sim _ _ i | exact fun _ _ => trivial | exact fun _ h => absurd h (Nat.not_lt_zero _) | exact c1 | exact c1.symm | exact c2 | exact c3 | (simp only [addO, subO, hiN, loN]; omega))); (conv => whnf))
          | (refine W.go TOK 58 hΓ 1000 rfl ?_; (conv => whnf); refine ⟨?_, ?_⟩)
          | (refine D.go TOK 58 hΓ 1000 rfl ?_; (conv => whnf); refine ⟨?_, ?_⟩)
          | (refine W.drawn rfl rfl ?_; refine D.run TOK 58 hΓ 1000 ?_; (conv => whnf); refine ⟨?_, ?_⟩)
        all_goals (repeat' apply And.intro)
        all_goals try (first
          | exact trivial
          | exact rfl
          | exact fun _ _ => A.sim.refl _
          | exact A.sim.refl _
          | exact Nat.le_refl _
          | omega
          | exact fun _ _ => trivial
          | exact fun i _ => shift_sim _ _ i
          | exact fun _ h => absurd h (Nat.not_lt_zero _)
          | exact fun i _ => isInt_byteAt _ i
          | exact c1
          | exact c1.symm
          | exact c2
          | exact c3
          | exact c3.symm
          | exact Nat.le_of_eq c1
          | (intro i hi; exact c2 i (c1 ▸ hi))
          | (show (DK.cutF _ n.toNat).b.length ≤ n.toNat; rw [c1])
          | (intro i hi; exact c2 i (Nat.lt_of_lt_of_le hi (Nat.le_of_eq c1)))
          | (simp only [allP, List.nil_append, List.append_nil, List.cons_append, List.append_eq, and_true, true_and, inr_i64, inr_u8, inr_u64, min_i64, max_i64, min_u64, max_u64, min_u8, max_u8, A.purePL, A.pureP, A.sureP, A.surePL, Int.toNat_natCast, Int.reduceToNat, addI, cHi, cLo, hiN, loN, subO, addO, hasIdx, cond_true, cond_false]; first | done | omega | ((repeat' apply And.intro) <;> first | exact trivial | rfl | omega | decide))
          )
  · by_cases hr : n < 0 ∨ (d.f1.b.length : Int) < n
    · have e1 : DK.cutE d 1 n = 36 := by unfold DK.cutE; rw [if_neg h]; exact if_pos hr
      have e2 : DK.cutD d 1 n = d := by unfold DK.cutD; rw [if_neg h]; exact if_pos hr
      rw [e1, e2]
      refine Does.intro (fn := Try.f16) Try.func16 rfl rfl fun Γ hΓ => ?_
      refine W.run TOK 58 hΓ 1000 ?_
      conv => whnf
      refine ⟨?_, ?_⟩
      repeat' first
        | assumption
        | exact Bool.noConfusion hb
        | exact absurd hb (by decide)
        | (exfalso; omega)
        | (exfalso; simp at hb; done)
        | (refine W.retA TOK rfl ?_; (conv => whnf); refine ⟨rfl, rfl, rfl, rfl, rfl, rfl, ?_, ?_, ?_⟩)
        | (refine W.branch rfl (fun hb => ?_) (fun hb => ?_) <;> ((try simp only [decide_eq_true_eq, decide_eq_false_iff_not, Bool.not_eq_true', Bool.not_eq_false', Int.not_lt, Int.not_le, cond_true, cond_false, reduceCtorEq, Int.toNat_natCast, Int.reduceToNat, addI] at hb); (try replace hb := of_decide_eq_true hb); (try replace hb := of_decide_eq_false hb)))
        | (refine D.branch rfl (fun hb => ?_) (fun hb => ?_) <;> ((try simp only [decide_eq_true_eq, decide_eq_false_iff_not, Bool.not_eq_true', Bool.not_eq_false', Int.not_lt, Int.not_le, cond_true, cond_false, reduceCtorEq, Int.toNat_natCast, Int.reduceToNat, addI] at hb); (try replace hb := of_decide_eq_true hb); (try replace hb := of_decide_eq_false hb)))
        | ((first | (refine D.callA (of_1 d) rfl rfl rfl rfl hΓ rfl ?_; (conv => whnf); refine ⟨rfl, rfl, rfl, ?_, ?_, ?_, ?_⟩) | (refine W.callA (of_1 d) rfl rfl rfl rfl hΓ rfl ?_; (conv => whnf); refine ⟨rfl, rfl, ?_, ?_, ?_, ?_⟩)); iterate 3 (focus ((repeat' apply And.intro) <;> first | exact trivial | (intro i _; rw [Nat.zero_add]; exact A.sim.refl _) | with_reducible exact rfl | exact fun _ _ => A.sim.refl _ | exact A.sim.refl _ | exact rfl | exact Nat.le_refl _ | omega | exact fun i _ => shift_sim _ _ i | exact fun _ _ => trivial | exact fun _ h => absurd h (Nat.not_lt_zero _))); (conv => whnf))
        | (refine W.go TOK 58 hΓ 1000 rfl ?_; (conv => whnf); refine ⟨?_, ?_⟩)
        | (refine D.go TOK 58 hΓ 1000 rfl ?_; (conv => whnf); refine ⟨?_, ?_⟩)
        | (refine W.drawn rfl rfl ?_; refine D.run TOK 58 hΓ 1000 ?_; (conv => whnf); refine ⟨?_, ?_⟩)
      all_goals (repeat' apply And.intro)
      all_goals try (first
        | exact trivial
        | exact rfl
        | exact fun _ _ => A.sim.refl _
        | exact A.sim.refl _
        | exact Nat.le_refl _
        | omega
        | exact fun _ _ => trivial
        | exact fun i _ => shift_sim _ _ i
        | exact fun _ h => absurd h (Nat.not_lt_zero _)
        | exact fun i _ => isInt_byteAt _ i
        | (simp only [allP, List.nil_append, List.append_nil, List.cons_append, List.append_eq, and_true, true_and, inr_i64, inr_u8, inr_u64, min_i64, max_i64, min_u64, max_u64, min_u8, max_u8, A.purePL, A.pureP, A.sureP, A.surePL, Int.toNat_natCast, Int.reduceToNat, addI, cHi, cLo, hiN, loN, subO, addO, hasIdx, cond_true, cond_false]; first | done | omega | ((repeat' apply And.intro) <;> first | exact trivial | rfl | omega | decide))
        )
    · by_cases hx : DK.failB d = true
      · have e1 : DK.cutE d 1 n = 32 := by unfold DK.cutE; rw [if_neg h]; exact (if_neg hr).trans (if_pos hx)
        have e2 : DK.cutD d 1 n = DK.failD d := by unfold DK.cutD; rw [if_neg h]; exact (if_neg hr).trans (if_pos hx)
        rw [e1, e2]
        refine Does.intro (fn := Try.f16) Try.func16 rfl rfl fun Γ hΓ => ?_
        refine W.run TOK 58 hΓ 1000 ?_
        conv => whnf
        refine ⟨?_, ?_⟩
        repeat' first
          | assumption
          | exact Bool.noConfusion hb
          | exact absurd hb (by decide)
          | (exfalso; omega)
          | (exfalso; simp at hb; done)
          | exact absurd (hx.symm.trans hb) (by decide)
          | exact absurd hb hx
          | (refine W.retA TOK rfl ?_; (conv => whnf); refine ⟨rfl, rfl, rfl, rfl, rfl, rfl, ?_, ?_, ?_⟩)
          | (refine W.branch rfl (fun hb => ?_) (fun hb => ?_) <;> ((try simp only [decide_eq_true_eq, decide_eq_false_iff_not, Bool.not_eq_true', Bool.not_eq_false', Int.not_lt, Int.not_le, cond_true, cond_false, reduceCtorEq, Int.toNat_natCast, Int.reduceToNat, addI] at hb); (try replace hb := of_decide_eq_true hb); (try replace hb := of_decide_eq_false hb)))
          | (refine D.branch rfl (fun hb => ?_) (fun hb => ?_) <;> ((try simp only [decide_eq_true_eq, decide_eq_false_iff_not, Bool.not_eq_true', Bool.not_eq_false', Int.not_lt, Int.not_le, cond_true, cond_false, reduceCtorEq, Int.toNat_natCast, Int.reduceToNat, addI] at hb); (try replace hb := of_decide_eq_true hb); (try replace hb := of_decide_eq_false hb)))
          | ((first | (refine D.callA (of_1 d) rfl rfl rfl rfl hΓ rfl ?_; (conv => whnf); refine ⟨rfl, rfl, rfl, ?_, ?_, ?_, ?_⟩) | (refine W.callA (of_1 d) rfl rfl rfl rfl hΓ rfl ?_; (conv => whnf); refine ⟨rfl, rfl, ?_, ?_, ?_, ?_⟩)); iterate 3 (focus ((repeat' apply And.intro) <;> first | exact trivial | (intro i _; rw [Nat.zero_add]; exact A.sim.refl _) | with_reducible exact rfl | exact fun _ _ => A.sim.refl _ | exact A.sim.refl _ | exact rfl | exact Nat.le_refl _ | omega | exact fun i _ => shift_sim _ _ i | exact fun _ _ => trivial | exact fun _ h => absurd h (Nat.not_lt_zero _))); (conv => whnf))
          | ((first | (refine D.callA (fails_does d ho) rfl rfl rfl rfl hΓ rfl ?_; (conv => whnf); refine ⟨rfl, rfl, rfl, ?_, ?_, ?_, ?_⟩) | (refine W.callA (fails_does d ho) rfl rfl rfl rfl hΓ rfl ?_; (conv => whnf); refine ⟨rfl, rfl, ?_, ?_, ?_, ?_⟩)); iterate 3 (focus ((repeat' apply And.intro) <;> first | exact trivial | (intro i _; rw [Nat.zero_add]; exact A.sim.refl _) | with_reducible exact rfl | exact fun _ _ => A.sim.refl _ | exact A.sim.refl _ | exact rfl | exact Nat.le_refl _ | omega | exact fun i _ => shift_sim _ _ i | exact fun _ _ => trivial | exact fun _ h => absurd h (Nat.not_lt_zero _))); (conv => whnf))
          | (refine W.go TOK 58 hΓ 1000 rfl ?_; (conv => whnf); refine ⟨?_, ?_⟩)
          | (refine D.go TOK 58 hΓ 1000 rfl ?_; (conv => whnf); refine ⟨?_, ?_⟩)
          | (refine W.drawn rfl rfl ?_; refine D.run TOK 58 hΓ 1000 ?_; (conv => whnf); refine ⟨?_, ?_⟩)
        all_goals (repeat' apply And.intro)
        all_goals try (first
          | exact trivial
          | exact rfl
          | exact fun _ _ => A.sim.refl _
          | exact A.sim.refl _
          | exact Nat.le_refl _
          | omega
          | exact fun _ _ => trivial
          | exact fun i _ => shift_sim _ _ i
          | exact fun _ h => absurd h (Nat.not_lt_zero _)
          | exact fun i _ => isInt_byteAt _ i
          | (simp only [allP, List.nil_append, List.append_nil, List.cons_append, List.append_eq, and_true, true_and, inr_i64, inr_u8, inr_u64, min_i64, max_i64, min_u64, max_u64, min_u8, max_u8, A.purePL, A.pureP, A.sureP, A.surePL, Int.toNat_natCast, Int.reduceToNat, addI, cHi, cLo, hiN, loN, subO, addO, hasIdx, cond_true, cond_false]; first | done | omega | ((repeat' apply And.intro) <;> first | exact trivial | rfl | omega | decide))
          )
      · have e1 : DK.cutE d 1 n = 0 := by unfold DK.cutE; rw [if_neg h]; exact (if_neg hr).trans (if_neg hx)
        have e2 : DK.cutD d 1 n = DK.set (DK.failD d) 1 (DK.cutF d.f1 n.toNat) := by unfold DK.cutD; rw [if_neg h]; exact (if_neg hr).trans (if_neg hx)
        have n0 : 0 ≤ n := by omega
        have n1 : n ≤ (d.f1.b.length : Int) := by omega
        have c1 := cut_len d.f1 n0 n1
        have c2 := cut_sim d.f1 n.toNat
        have c3 := cut_sure d.f1 n0
        have n2 : n.toNat ≤ d.f1.b.length := by omega
        have n3 : n ≤ ((DK.failD d).f1.b.length : Int) := n1
        have n4 : n.toNat ≤ (DK.failD d).f1.b.length := n2
        rw [e1, e2]
        refine Does.intro (fn := Try.f16) Try.func16 rfl rfl fun Γ hΓ => ?_
        refine W.run TOK 58 hΓ 1000 ?_
        conv => whnf
        refine ⟨?_, ?_⟩
        repeat' first
          | assumption
          | exact Bool.noConfusion hb
          | exact absurd hb (by decide)
          | (exfalso; omega)
          | (exfalso; simp at hb; done)
          | exact absurd (hx.symm.trans hb) (by decide)
          | exact absurd hb hx
          | (refine W.retA TOK rfl ?_; (conv => whnf); refine ⟨rfl, rfl, rfl, rfl, rfl, rfl, ?_, ?_, ?_⟩)
          | (refine W.branch rfl (fun hb => ?_) (fun hb => ?_) <;> ((try simp only [decide_eq_true_eq, decide_eq_false_iff_not, Bool.not_eq_true', Bool.not_eq_false', Int.not_lt, Int.not_le, cond_true, cond_false, reduceCtorEq, Int.toNat_natCast, Int.reduceToNat, addI] at hb); (try replace hb := of_decide_eq_true hb); (try replace hb := of_decide_eq_false hb)))
          | (refine D.branch rfl (fun hb => ?_) (fun hb => ?_) <;> ((try simp only [decide_eq_true_eq, decide_eq_false_iff_not, Bool.not_eq_true', Bool.not_eq_false', Int.not_lt, Int.not_le, cond_true, cond_false, reduceCtorEq, Int.toNat_natCast, Int.reduceToNat, addI] at hb); (try replace hb := of_decide_eq_true hb); (try replace hb := of_decide_eq_false hb)))
          | ((first | (refine D.callA (of_1 d) rfl rfl rfl rfl hΓ rfl ?_; (conv => whnf); refine ⟨rfl, rfl, rfl, ?_, ?_, ?_, ?_⟩) | (refine W.callA (of_1 d) rfl rfl rfl rfl hΓ rfl ?_; (conv => whnf); refine ⟨rfl, rfl, ?_, ?_, ?_, ?_⟩)); iterate 3 (focus ((repeat' apply And.intro) <;> first | exact trivial | (intro i _; rw [Nat.zero_add]; exact A.sim.refl _) | with_reducible exact rfl | exact fun _ _ => A.sim.refl _ | exact A.sim.refl _ | exact rfl | exact Nat.le_refl _ | omega | exact fun i _ => shift_sim _ _ i | exact fun _ _ => trivial | exact fun _ h => absurd h (Nat.not_lt_zero _) | exact c1 | exact c1.symm | exact c2 | exact c3 | (simp only [addO, subO, hiN, loN]; omega))); (conv => whnf))
          | ((first | (refine D.callA (fails_does d ho) rfl rfl rfl rfl hΓ rfl ?_; (conv => whnf); refine ⟨rfl, rfl, rfl, ?_, ?_, ?_, ?_⟩) | (refine W.callA (fails_does d ho) rfl rfl rfl rfl hΓ rfl ?_; (conv => whnf); refine ⟨rfl, rfl, ?_, ?_, ?_, ?_⟩)); iterate 3 (focus ((repeat' apply And.intro) <;> first | exact trivial | (intro i _; rw [Nat.zero_add]; exact A.sim.refl _) | with_reducible exact rfl | exact fun _ _ => A.sim.refl _ | exact A.sim.refl _ | exact rfl | exact Nat.le_refl _ | omega | exact fun i _ => shift_sim _ _ i | exact fun _ _ => trivial | exact fun _ h => absurd h (Nat.not_lt_zero _) | exact c1 | exact c1.symm | exact c2 | exact c3 | (simp only [addO, subO, hiN, loN]; omega))); (conv => whnf))
          | ((first | (refine D.callA (clone_does n.toNat (byteAt d.f1.b) (by omega)) rfl rfl rfl rfl hΓ rfl ?_; (conv => whnf); refine ⟨rfl, rfl, rfl, ?_, ?_, ?_, ?_⟩) | (refine W.callA (clone_does n.toNat (byteAt d.f1.b) (by omega)) rfl rfl rfl rfl hΓ rfl ?_; (conv => whnf); refine ⟨rfl, rfl, ?_, ?_, ?_, ?_⟩)); iterate 3 (focus ((repeat' apply And.intro) <;> first | exact trivial | (intro i _; rw [Nat.zero_add]; exact A.sim.refl _) | with_reducible exact rfl | exact fun _ _ => A.sim.refl _ | exact A.sim.refl _ | exact rfl | exact Nat.le_refl _ | omega | exact fun i _ => shift_sim _ _ i | exact fun _ _ => trivial | exact fun _ h => absurd h (Nat.not_lt_zero _) | exact c1 | exact c1.symm | exact c2 | exact c3 | (simp only [addO, subO, hiN, loN]; omega))); (conv => whnf))
          | ((first | (refine D.callA (cutdel_does d.f1 n n0 h5) rfl rfl rfl rfl hΓ rfl ?_; (conv => whnf); refine ⟨rfl, rfl, rfl, ?_, ?_, ?_, ?_⟩) | (refine W.callA (cutdel_does d.f1 n n0 h5) rfl rfl rfl rfl hΓ rfl ?_; (conv => whnf); refine ⟨rfl, rfl, ?_, ?_, ?_, ?_⟩)); iterate 3 (focus ((repeat' apply And.intro) <;> first | exact trivial | (intro i _; rw [Nat.zero_add]; exact A.sim.refl _) | with_reducible exact rfl | exact fun _ _ => A.sim.refl _ | exact A.sim.refl _ | exact rfl | exact Nat.le_refl _ | omega | exact fun i _ => shift_sim _ _ i | exact fun _ _ => trivial | exact fun _ h => absurd h (Nat.not_lt_zero _) | exact c1 | exact c1.symm | exact c2 | exact c3 | (simp only [addO, subO, hiN, loN]; omega))); (conv => whnf))
          | (refine W.go TOK 58 hΓ 1000 rfl ?_; (conv => whnf); refine ⟨?_, ?_⟩)
          | (refine D.go TOK 58 hΓ 1000 rfl ?_; (conv => whnf); refine ⟨?_, ?_⟩)
          | (refine W.drawn rfl rfl ?_; refine D.run TOK 58 hΓ 1000 ?_; (conv => whnf); refine ⟨?_, ?_⟩)
        all_goals (repeat' apply And.intro)
        all_goals try (first
          | exact trivial
          | exact rfl
          | exact fun _ _ => A.sim.refl _
          | exact A.sim.refl _
          | exact Nat.le_refl _
          | omega
          | exact fun _ _ => trivial
          | exact fun i _ => shift_sim _ _ i
          | exact fun _ h => absurd h (Nat.not_lt_zero _)
          | exact fun i _ => isInt_byteAt _ i
          | exact c1
          | exact c1.symm
          | exact c2
          | exact c3
          | exact c3.symm
          | exact Nat.le_of_eq c1
          | (intro i hi; exact c2 i (c1 ▸ hi))
          | (show (DK.cutF _ n.toNat).b.length ≤ n.toNat; rw [c1])
          | (intro i hi; exact c2 i (Nat.lt_of_lt_of_le hi (Nat.le_of_eq c1)))
          | (simp only [allP, List.nil_append, List.append_nil, List.cons_append, List.append_eq, and_true, true_and, inr_i64, inr_u8, inr_u64, min_i64, max_i64, min_u64, max_u64, min_u8, max_u8, A.purePL, A.pureP, A.sureP, A.surePL, Int.toNat_natCast, Int.reduceToNat, addI, cHi, cLo, hiN, loN, subO, addO, hasIdx, cond_true, cond_false]; first | done | omega | ((repeat' apply And.intro) <;> first | exact trivial | rfl | omega | decide))
          )
  · by_cases hr : n < 0 ∨ (d.f2.b.length : Int) < n
    · have e1 : DK.cutE d 2 n = 36 := by unfold DK.cutE; rw [if_neg h]; exact if_pos hr
      have e2 : DK.cutD d 2 n = d := by unfold DK.cutD; rw [if_neg h]; exact if_pos hr
      rw [e1, e2]
      refine Does.intro (fn := Try.f16) Try.func16 rfl rfl fun Γ hΓ => ?_
      refine W.run TOK 58 hΓ 1000 ?_
      conv => whnf
      refine ⟨?_, ?_⟩
      repeat' first
        | assumption
        | exact Bool.noConfusion hb
        | exact absurd hb (by decide)
        | (exfalso; omega)
        | (exfalso; simp at hb; done)
        | (refine W.retA TOK rfl ?_; (conv => whnf); refine ⟨rfl, rfl, rfl, rfl, rfl, rfl, ?_, ?_, ?_⟩)
        | (refine W.branch rfl (fun hb => ?_) (fun hb => ?_) <;> ((try simp only [decide_eq_true_eq, decide_eq_false_iff_not, Bool.not_eq_true', Bool.not_eq_false', Int.not_lt, Int.not_le, cond_true, cond_false, reduceCtorEq, Int.toNat_natCast, Int.reduceToNat, addI] at hb); (try replace hb := of_decide_eq_true hb); (try replace hb := of_decide_eq_false hb)))
        | (refine D.branch rfl (fun hb => ?_) (fun hb => ?_) <;> ((try simp only [decide_eq_true_eq, decide_eq_false_iff_not, Bool.not_eq_true', Bool.not_eq_false', Int.not_lt, Int.not_le, cond_true, cond_false, reduceCtorEq, Int.toNat_natCast, Int.reduceToNat, addI] at hb); (try replace hb := of_decide_eq_true hb); (try replace hb := of_decide_eq_false hb)))
        | ((first | (refine D.callA (of_2 d) rfl rfl rfl rfl hΓ rfl ?_; (conv => whnf); refine ⟨rfl, rfl, rfl, ?_, ?_, ?_, ?_⟩) | (refine W.callA (of_2 d) rfl rfl rfl rfl hΓ rfl ?_; (conv => whnf); refine ⟨rfl, rfl, ?_, ?_, ?_, ?_⟩)); iterate 3 (focus ((repeat' apply And.intro) <;> first | exact trivial | (intro i _; rw [Nat.zero_add]; exact A.sim.refl _) | with_reducible exact rfl | exact fun _ _ => A.sim.refl _ | exact A.sim.refl _ | exact rfl | exact Nat.le_refl _ | omega | exact fun i _ => shift_sim _ _ i | exact fun _ _ => trivial | exact fun _ h => absurd h (Nat.not_lt_zero _))); (conv => whnf))
        | (refine W.go TOK 58 hΓ 1000 rfl ?_; (conv => whnf); refine ⟨?_, ?_⟩)
        | (refine D.go TOK 58 hΓ 1000 rfl ?_; (conv => whnf); refine ⟨?_, ?_⟩)
        | (refine W.drawn rfl rfl ?_; refine D.run TOK 58 hΓ 1000 ?_; (conv => whnf); refine ⟨?_, ?_⟩)
      all_goals (repeat' apply And.intro)
      all_goals try (first
        | exact trivial
        | exact rfl
        | exact fun _ _ => A.sim.refl _
        | exact A.sim.refl _
        | exact Nat.le_refl _
        | omega
        | exact fun _ _ => trivial
        | exact fun i _ => shift_sim _ _ i
        | exact fun _ h => absurd h (Nat.not_lt_zero _)
        | exact fun i _ => isInt_byteAt _ i
        | (simp only [allP, List.nil_append, List.append_nil, List.cons_append, List.append_eq, and_true, true_and, inr_i64, inr_u8, inr_u64, min_i64, max_i64, min_u64, max_u64, min_u8, max_u8, A.purePL, A.pureP, A.sureP, A.surePL, Int.toNat_natCast, Int.reduceToNat, addI, cHi, cLo, hiN, loN, subO, addO, hasIdx, cond_true, cond_false]; first | done | omega | ((repeat' apply And.intro) <;> first | exact trivial | rfl | omega | decide))
        )
    · by_cases hx : DK.failB d = true
      · have e1 : DK.cutE d 2 n = 32 := by unfold DK.cutE; rw [if_neg h]; exact (if_neg hr).trans (if_pos hx)
        have e2 : DK.cutD d 2 n = DK.failD d := by unfold DK.cutD; rw [if_neg h]; exact (if_neg hr).trans (if_pos hx)
        rw [e1, e2]
        refine Does.intro (fn := Try.f16) Try.func16 rfl rfl fun Γ hΓ => ?_
        refine W.run TOK 58 hΓ 1000 ?_
        conv => whnf
        refine ⟨?_, ?_⟩
        repeat' first
          | assumption
          | exact Bool.noConfusion hb
          | exact absurd hb (by decide)
          | (exfalso; omega)
          | (exfalso; simp at hb; done)
          | exact absurd (hx.symm.trans hb) (by decide)
          | exact absurd hb hx
          | (refine W.retA TOK rfl ?_; (conv => whnf); refine ⟨rfl, rfl, rfl, rfl, rfl, rfl, ?_, ?_, ?_⟩)
          | (refine W.branch rfl (fun hb => ?_) (fun hb => ?_) <;> ((try simp only [decide_eq_true_eq, decide_eq_false_iff_not, Bool.not_eq_true', Bool.not_eq_false', Int.not_lt, Int.not_le, cond_true, cond_false, reduceCtorEq, Int.toNat_natCast, Int.reduceToNat, addI] at hb); (try replace hb := of_decide_eq_true hb); (try replace hb := of_decide_eq_false hb)))
          | (refine D.branch rfl (fun hb => ?_) (fun hb => ?_) <;> ((try simp only [decide_eq_true_eq, decide_eq_false_iff_not, Bool.not_eq_true', Bool.not_eq_false', Int.not_lt, Int.not_le, cond_true, cond_false, reduceCtorEq, Int.toNat_natCast, Int.reduceToNat, addI] at hb); (try replace hb := of_decide_eq_true hb); (try replace hb := of_decide_eq_false hb)))
          | ((first | (refine D.callA (of_2 d) rfl rfl rfl rfl hΓ rfl ?_; (conv => whnf); refine ⟨rfl, rfl, rfl, ?_, ?_, ?_, ?_⟩) | (refine W.callA (of_2 d) rfl rfl rfl rfl hΓ rfl ?_; (conv => whnf); refine ⟨rfl, rfl, ?_, ?_, ?_, ?_⟩)); iterate 3 (focus ((repeat' apply And.intro) <;> first | exact trivial | (intro i _; rw [Nat.zero_add]; exact A.sim.refl _) | with_reducible exact rfl | exact fun _ _ => A.sim.refl _ | exact A.sim.refl _ | exact rfl | exact Nat.le_refl _ | omega | exact fun i _ => shift_sim _ _ i | exact fun _ _ => trivial | exact fun _ h => absurd h (Nat.not_lt_zero _))); (conv => whnf))
          | ((first | (refine D.callA (fails_does d ho) rfl rfl rfl rfl hΓ rfl ?_; (conv => whnf); refine ⟨rfl, rfl, rfl, ?_, ?_, ?_, ?_⟩) | (refine W.callA (fails_does d ho) rfl rfl rfl rfl hΓ rfl ?_; (conv => whnf); refine ⟨rfl, rfl, ?_, ?_, ?_, ?_⟩)); iterate 3 (focus ((repeat' apply And.intro) <;> first | exact trivial | (intro i _; rw [Nat.zero_add]; exact A.sim.refl _) | with_reducible exact rfl | exact fun _ _ => A.sim.refl _ | exact A.sim.refl _ | exact rfl | exact Nat.le_refl _ | omega | exact fun i _ => shift_sim _ _ i | exact fun _ _ => trivial | exact fun _ h => absurd h (Nat.not_lt_zero _))); (conv => whnf))
          | (refine W.go TOK 58 hΓ 1000 rfl ?_; (conv => whnf); refine ⟨?_, ?_⟩)
          | (refine D.go TOK 58 hΓ 1000 rfl ?_; (conv => whnf); refine ⟨?_, ?_⟩)
          | (refine W.drawn rfl rfl ?_; refine D.run TOK 58 hΓ 1000 ?_; (conv => whnf); refine ⟨?_, ?_⟩)
        all_goals (repeat' apply And.intro)
        all_goals try (first
          | exact trivial
          | exact rfl
          | exact fun _ _ => A.sim.refl _
          | exact A.sim.refl _
          | exact Nat.le_refl _
          | omega
          | exact fun _ _ => trivial
          | exact fun i _ => shift_sim _ _ i
          | exact fun _ h => absurd h (Nat.not_lt_zero _)
          | exact fun i _ => isInt_byteAt _ i
          | (simp only [allP, List.nil_append, List.append_nil, List.cons_append, List.append_eq, and_true, true_and, inr_i64, inr_u8, inr_u64, min_i64, max_i64, min_u64, max_u64, min_u8, max_u8, A.purePL, A.pureP, A.sureP, A.surePL, Int.toNat_natCast, Int.reduceToNat, addI, cHi, cLo, hiN, loN, subO, addO, hasIdx, cond_true, cond_false]; first | done | omega | ((repeat' apply And.intro) <;> first | exact trivial | rfl | omega | decide))
          )
      · have e1 : DK.cutE d 2 n = 0 := by unfold DK.cutE; rw [if_neg h]; exact (if_neg hr).trans (if_neg hx)
        have e2 : DK.cutD d 2 n = DK.set (DK.failD d) 2 (DK.cutF d.f2 n.toNat) := by unfold DK.cutD; rw [if_neg h]; exact (if_neg hr).trans (if_neg hx)
        have n0 : 0 ≤ n := by omega
        have n1 : n ≤ (d.f2.b.length : Int) := by omega
        have c1 := cut_len d.f2 n0 n1
        have c2 := cut_sim d.f2 n.toNat
        have c3 := cut_sure d.f2 n0
        have n2 : n.toNat ≤ d.f2.b.length := by omega
        have n3 : n ≤ ((DK.failD d).f2.b.length : Int) := n1
        have n4 : n.toNat ≤ (DK.failD d).f2.b.length := n2
        rw [e1, e2]
        refine Does.intro (fn := Try.f16) Try.func16 rfl rfl fun Γ hΓ => ?_
        refine W.run TOK 58 hΓ 1000 ?_
        conv => whnf
        refine ⟨?_, ?_⟩
        repeat' first
          | assumption
          | exact Bool.noConfusion hb
          | exact absurd hb (by decide)
          | (exfalso; omega)
          | (exfalso; simp at hb; done)
          | exact absurd (hx.symm.trans hb) (by decide)
          | exact absurd hb hx
          | (refine W.retA TOK rfl ?_; (conv => whnf); refine ⟨rfl, rfl, rfl, rfl, rfl, rfl, ?_, ?_, ?_⟩)
          | (refine W.branch rfl (fun hb => ?_) (fun hb => ?_) <;> ((try simp only [decide_eq_true_eq, decide_eq_false_iff_not, Bool.not_eq_true', Bool.not_eq_false', Int.not_lt, Int.not_le, cond_true, cond_false, reduceCtorEq, Int.toNat_natCast, Int.reduceToNat, addI] at hb); (try replace hb := of_decide_eq_true hb); (try replace hb := of_decide_eq_false hb)))
          | (refine D.branch rfl (fun hb => ?_) (fun hb => ?_) <;> ((try simp only [decide_eq_true_eq, decide_eq_false_iff_not, Bool.not_eq_true', Bool.not_eq_false', Int.not_lt, Int.not_le, cond_true, cond_false, reduceCtorEq, Int.toNat_natCast, Int.reduceToNat, addI] at hb); (try replace hb := of_decide_eq_true hb); (try replace hb := of_decide_eq_false hb)))
          | ((first | (refine D.callA (of_2 d) rfl rfl rfl rfl hΓ rfl ?_; (conv => whnf); refine ⟨rfl, rfl, rfl, ?_, ?_, ?_, ?_⟩) | (refine W.callA (of_2 d) rfl rfl rfl rfl hΓ rfl ?_; (conv => whnf); refine ⟨rfl, rfl, ?_, ?_, ?_, ?_⟩)); iterate 3 (focus ((repeat' apply And.intro) <;> first | exact trivial | (intro i _; rw [Nat.zero_add]; exact A.sim.refl _) | with_reducible exact rfl | exact fun _ _ => A.sim.refl _ | exact A.sim.refl _ | exact rfl | exact Nat.le_refl _ | omega | exact fun i _ => shift_sim _ _ i | exact fun _ _ => trivial | exact fun _ h => absurd h (Nat.not_lt_zero _) | exact c1 | exact c1.symm | exact c2 | exact c3 | (simp only [addO, subO, hiN, loN]; omega))); (conv => whnf))
          | ((first | (refine D.callA (fails_does d ho) rfl rfl rfl rfl hΓ rfl ?_; (conv => whnf); refine ⟨rfl, rfl, rfl, ?_, ?_, ?_, ?_⟩) | (refine W.callA (fails_does d ho) rfl rfl rfl rfl hΓ rfl ?_; (conv => whnf); refine ⟨rfl, rfl, ?_, ?_, ?_, ?_⟩)); iterate 3 (focus ((repeat' apply And.intro) <;> first | exact trivial | (intro i _; rw [Nat.zero_add]; exact A.sim.refl _) | with_reducible exact rfl | exact fun _ _ => A.sim.refl _ | exact A.sim.refl _ | exact rfl | exact Nat.le_refl _ | omega | exact fun i _ => shift_sim _ _ i | exact fun _ _ => trivial | exact fun _ h => absurd h (Nat.not_lt_zero _) | exact c1 | exact c1.symm | exact c2 | exact c3 | (simp only [addO, subO, hiN, loN]; omega))); (conv => whnf))
          | ((first | (refine D.callA (clone_does n.toNat (byteAt d.f2.b) (by omega)) rfl rfl rfl rfl hΓ rfl ?_; (conv => whnf); refine ⟨rfl, rfl, rfl, ?_, ?_, ?_, ?_⟩) | (refine W.callA (clone_does n.toNat (byteAt d.f2.b) (by omega)) rfl rfl rfl rfl hΓ rfl ?_; (conv => whnf); refine ⟨rfl, rfl, ?_, ?_, ?_, ?_⟩)); iterate 3 (focus ((repeat' apply And.intro) <;> first | exact trivial | (intro i _; rw [Nat.zero_add]; exact A.sim.refl _) | with_reducible exact rfl | exact fun _ _ => A.sim.refl _ | exact A.sim.refl _ | exact rfl | exact Nat.le_refl _ | omega | exact fun i _ => shift_sim _ _ i | exact fun _ _ => trivial | exact fun _ h => absurd h (Nat.not_lt_zero _) | exact c1 | exact c1.symm | exact c2 | exact c3 | (simp only [addO, subO, hiN, loN]; omega))); (conv => whnf))
          | ((first | (refine D.callA (cutdel_does d.f2 n n0 h6) rfl rfl rfl rfl hΓ rfl ?_; (conv => whnf); refine ⟨rfl, rfl, rfl, ?_, ?_, ?_, ?_⟩) | (refine W.callA (cutdel_does d.f2 n n0 h6) rfl rfl rfl rfl hΓ rfl ?_; (conv => whnf); refine ⟨rfl, rfl, ?_, ?_, ?_, ?_⟩)); iterate 3 (focus ((repeat' apply And.intro) <;> first | exact trivial | (intro i _; rw [Nat.zero_add]; exact A.sim.refl _) | with_reducible exact rfl | exact fun _ _ => A.sim.refl _ | exact A.sim.refl _ | exact rfl | exact Nat.le_refl _ | omega | exact fun i _ => shift_sim _ _ i | exact fun _ _ => trivial | exact fun _ h => absurd h (Nat.not_lt_zero _) | exact c1 | exact c1.symm | exact c2 | exact c3 | (simp only [addO, subO, hiN, loN]; omega))); (conv => whnf))
          | (refine W.go TOK 58 hΓ 1000 rfl ?_; (conv => whnf); refine ⟨?_, ?_⟩)
          | (refine D.go TOK 58 hΓ 1000 rfl ?_; (conv => whnf); refine ⟨?_, ?_⟩)
          | (refine W.drawn rfl rfl ?_; refine D.run TOK 58 hΓ 1000 ?_; (conv => whnf); refine ⟨?_, ?_⟩)
        all_goals (repeat' apply And.intro)
        all_goals try (first
          | exact trivial
          | exact rfl
          | exact fun _ _ => A.sim.refl _
          | exact A.sim.refl _
          | exact Nat.le_refl _
          | omega
          | exact fun _ _ => trivial
          | exact fun i _ => shift_sim _ _ i
          | exact fun _ h => absurd h (Nat.not_lt_zero _)
          | exact fun i _ => isInt_byteAt _ i
          | exact c1
          | exact c1.symm
          | exact c2
          | exact c3
          | exact c3.symm
          | exact Nat.le_of_eq c1
          | (intro i hi; exact c2 i (c1 ▸ hi))
          | (show (DK.cutF _ n.toNat).b.length ≤ n.toNat; rw [c1])
          | (intro i hi; exact c2 i (Nat.lt_of_lt_of_le hi (Nat.le_of_eq c1)))
          | (simp only [allP, List.nil_append, List.append_nil, List.cons_append, List.append_eq, and_true, true_and, inr_i64, inr_u8, inr_u64, min_i64, max_i64, min_u64, max_u64, min_u8, max_u8, A.purePL, A.pureP, A.sureP, A.surePL, Int.toNat_natCast, Int.reduceToNat, addI, cHi, cLo, hiN, loN, subO, addO, hasIdx, cond_true, cond_false]; first | done | omega | ((repeat' apply And.intro) <;> first | exact trivial | rfl | omega | decide))
          )

end Go.Proofs.Ytiapjcncfoefeaa
