/- Walks: the statements of layer 2. -/
import Derived.Test.YtkcloienempifaaSp2K
import Derived.Test.YtkcloienempifaaSpMore
set_option linter.unusedSimpArgs false
set_option linter.unusedVariables false
namespace Go.Proofs.Ytkcloienempifaa
open VX
set_option maxRecDepth 100000
set_option maxHeartbeats 4000000

def Sl2 (c : UInt8) (K i : Nat) : St := ⟨[(1, VX.byte c), (5, .int .i64 K), (6, .own 1 500 0 (K + 1)), (7, .int .i64 i)], [(500, some (.arr 1 (K + 1) (byteAt (fillB c (K + 1) i))))], [500]⟩
theorem blocks_does (n c : UInt8) : Does Try.prog 4 [VX.byte n, VX.byte c] [] [] Yes := by
  obtain ⟨K, hK, hk⟩ : ∃ K : Nat, K < 40 ∧ IntKind.i64.wrap (((n.toNat : Nat) : Int) % 40) = (K : Int) := ⟨n.toNat % 40, Nat.mod_lt _ (by omega), by rw [wrap_i64_in (by omega) (by omega)]; omega⟩
  have hk1 : (IntKind.i64.wrap (((n.toNat : Nat) : Int) % 40) + 1).toNat = K + 1 := by rw [hk]; omega
  refine Does.intro (fn := Try.f4) Try.func4 rfl rfl fun Γ hΓ => ?_
  refine W.run TOK 63 hΓ 1000 ?_
  conv => whnf
  refine ⟨?_, ?_⟩
  repeat' first
    | assumption
    | exact Bool.noConfusion hb
    | exact absurd hb (by decide)
    | (apply W.atRet (π := []) (r' := []) TOK; refine ⟨rfl, rfl, rfl, rfl, rfl, ?_, ?_, ?_⟩)
    | (refine W.branch rfl (fun hb => ?_) (fun hb => ?_) <;> ((try simp only [decide_eq_true_eq, decide_eq_false_iff_not, Bool.not_eq_true', Bool.not_eq_false', Int.not_lt, Int.not_le, cond_true, cond_false, reduceCtorEq, Int.toNat_natCast, addI] at hb); (try replace hb := of_decide_eq_true hb); (try replace hb := of_decide_eq_false hb)))
    | (refine D.branch rfl (fun hb => ?_) (fun hb => ?_) <;> ((try simp only [decide_eq_true_eq, decide_eq_false_iff_not, Bool.not_eq_true', Bool.not_eq_false', Int.not_lt, Int.not_le, cond_true, cond_false, reduceCtorEq, Int.toNat_natCast, addI] at hb); (try replace hb := of_decide_eq_true hb); (try replace hb := of_decide_eq_false hb)))
    | (refine D.callF (known_does) rfl rfl rfl rfl [] [] [] rfl rfl hΓ rfl trivial trivial (.inl rfl) rfl ?_; (conv => whnf))
    | (refine W.callF (known_does) rfl rfl rfl rfl [] [] [] rfl rfl hΓ rfl trivial trivial (.inl rfl) ?_)
    | (refine W.go TOK 63 hΓ 1000 rfl ?_; (conv => whnf); refine ⟨?_, ?_⟩)
    | (refine D.go TOK 63 hΓ 1000 rfl ?_; (conv => whnf); refine ⟨?_, ?_⟩)
    | (refine W.drawn rfl rfl ?_; refine D.run TOK 63 hΓ 1000 ?_; (conv => whnf); refine ⟨?_, ?_⟩)
  all_goals try (exact trivial)
  all_goals try (exact rfl)
  all_goals try omega
  all_goals try (first
    | (simp only [allP, List.nil_append, List.append_nil, List.cons_append, List.append_eq, and_true, true_and, inr_i64, inr_u8, inr_u64, A.purePL, A.pureP, A.sureP, A.surePL, Int.toNat_natCast, addI, cHi, cLo, hiN, loN, subO, addO, hasIdx, cond_true, cond_false, hk]; done)
    | (simp only [allP, List.nil_append, List.append_nil, List.cons_append, List.append_eq, and_true, true_and, inr_i64, inr_u8, inr_u64, A.purePL, A.pureP, A.sureP, A.surePL, Int.toNat_natCast, addI, cHi, cLo, hiN, loN, subO, addO, hasIdx, cond_true, cond_false, hk]; omega)
    | (simp only [allP, List.nil_append, List.append_nil, List.cons_append, List.append_eq, and_true, true_and, inr_i64, inr_u8, inr_u64, A.purePL, A.pureP, A.sureP, A.surePL, Int.toNat_natCast, addI, cHi, cLo, hiN, loN, subO, addO, hasIdx, cond_true, cond_false, hk]; (repeat' apply And.intro) <;> first | exact trivial | rfl | omega | decide))
  refine W.loop (fun i => i ≤ K + 1) (fun i => K + 1 - i) (Sl2 c K) 0 (Nat.zero_le _) (Weak.via [(500, 17)] rfl rfl rfl ⟨⟨rfl, rfl⟩, ⟨rfl, hk⟩, ⟨rfl, rfl, rfl, hk1⟩, ⟨rfl, rfl⟩, trivial⟩ ⟨⟨rfl, Nat.le_of_eq hk1.symm, fun j hj => zero_fill c _ j hj⟩, trivial⟩) ?_
  intro i hi ih
  dsimp only [Sl2]
  by_cases hi2 : i < K + 1
  · skip
    refine W.run TOK 63 hΓ 1000 ?_
    conv => whnf
    refine ⟨?_, ?_⟩
    repeat' first
      | assumption
      | exact Bool.noConfusion hb
      | exact absurd hb (by decide)
      | (refine W.to (ih (i + 1) ?_ ?_) (Weak.via [(500, 500)] rfl rfl rfl ⟨⟨rfl, rfl⟩, ⟨rfl, rfl⟩, ⟨rfl, rfl, rfl, rfl⟩, ⟨rfl, rfl⟩, trivial⟩ ⟨⟨rfl, Nat.le_refl _, fun j hj => ?_⟩, trivial⟩))
      | (apply W.atRet (π := []) (r' := []) TOK; refine ⟨rfl, rfl, rfl, rfl, rfl, ?_, ?_, ?_⟩)
      | (refine W.branch rfl (fun hb => ?_) (fun hb => ?_) <;> ((try simp only [decide_eq_true_eq, decide_eq_false_iff_not, Bool.not_eq_true', Bool.not_eq_false', Int.not_lt, Int.not_le, cond_true, cond_false, reduceCtorEq, Int.toNat_natCast, addI] at hb); (try replace hb := of_decide_eq_true hb); (try replace hb := of_decide_eq_false hb)))
      | (refine W.go TOK 63 hΓ 1000 rfl ?_; (conv => whnf); refine ⟨?_, ?_⟩)
    all_goals try (exact trivial)
    all_goals try (exact rfl)
    all_goals try omega
    all_goals try (first
      | (simp only [allP, List.nil_append, List.append_nil, List.cons_append, List.append_eq, and_true, true_and, inr_i64, inr_u8, inr_u64, A.purePL, A.pureP, A.sureP, A.surePL, Int.toNat_natCast, addI, cHi, cLo, hiN, loN, subO, addO, hasIdx, cond_true, cond_false]; done)
      | (simp only [allP, List.nil_append, List.append_nil, List.cons_append, List.append_eq, and_true, true_and, inr_i64, inr_u8, inr_u64, A.purePL, A.pureP, A.sureP, A.surePL, Int.toNat_natCast, addI, cHi, cLo, hiN, loN, subO, addO, hasIdx, cond_true, cond_false]; omega)
      | (simp only [allP, List.nil_append, List.append_nil, List.cons_append, List.append_eq, and_true, true_and, inr_i64, inr_u8, inr_u64, A.purePL, A.pureP, A.sureP, A.surePL, Int.toNat_natCast, addI, cHi, cLo, hiN, loN, subO, addO, hasIdx, cond_true, cond_false]; (repeat' apply And.intro) <;> first | exact trivial | rfl | omega | decide))
    all_goals try (rw [← fillB_set c (K + 1) i hi2]; exact set_bytes _ i (by rw [fillB_length c (K + 1) i (by omega)]; exact hi2) c j)
    all_goals (exact absurd ‹_› (by omega))
  have ei : i = K + 1 := by omega
  subst ei
  clear ih
  have hBl := fillB_length c (K + 1) (K + 1) (Nat.le_refl _)
  generalize fillB c (K + 1) (K + 1) = B at hBl ⊢
  have hBk : (B.take K).length = K := by rw [List.length_take]; omega
  have hBa : (B.take K ++ [1]).length = K + 1 := by rw [List.length_append, hBk]; rfl
  have h0K : 0 + K ≤ K + 1 := by omega
  have h0m : 0 + (K + 1) ≤ K + 1 := by omega
  have h0n : 0 + (K + 1) ≤ K + 1 := by omega
  have hKB : K ≤ B.length := by omega
  have q1 : (B.take K).length ≤ 1000000000000 := by omega
  have q2 : B.length ≤ 1000000000000 := by omega
  have q3 : (B.take K ++ [1]).length ≤ 1000000000000 := by omega
  refine W.run TOK 63 hΓ 1000 ?_
  conv => whnf
  refine ⟨?_, ?_⟩
  repeat' first
    | assumption
    | exact Bool.noConfusion hb
    | exact absurd hb (by decide)
    | (exfalso; simp only [all_aeq_bytes] at hb; simp at hb; done)
    | (apply W.atRet (π := []) (r' := []) TOK; refine ⟨rfl, rfl, rfl, rfl, rfl, ?_, ?_, ?_⟩)
    | (refine W.branch rfl (fun hb => ?_) (fun hb => ?_) <;> ((try simp only [decide_eq_true_eq, decide_eq_false_iff_not, Bool.not_eq_true', Bool.not_eq_false', Int.not_lt, Int.not_le, cond_true, cond_false, reduceCtorEq, Int.toNat_natCast, addI] at hb); (try replace hb := of_decide_eq_true hb); (try replace hb := of_decide_eq_false hb)))
    | (refine D.branch rfl (fun hb => ?_) (fun hb => ?_) <;> ((try simp only [decide_eq_true_eq, decide_eq_false_iff_not, Bool.not_eq_true', Bool.not_eq_false', Int.not_lt, Int.not_le, cond_true, cond_false, reduceCtorEq, Int.toNat_natCast, addI] at hb); (try replace hb := of_decide_eq_true hb); (try replace hb := of_decide_eq_false hb)))
    | (refine D.callF (sum_does (B.take K) q1) rfl rfl rfl rfl [] [500] [] rfl rfl hΓ rfl ⟨⟨rfl, rfl, hBk.symm, rfl, h0K, fun i hi => lent_take B K hi⟩, trivial⟩ trivial (.inr ⟨fun _ _ => trivial, trivial⟩) rfl ?_; (conv => whnf))
    | (refine W.callF (sum_does (B.take K) q1) rfl rfl rfl rfl [] [500] [] rfl rfl hΓ rfl ⟨⟨rfl, rfl, hBk.symm, rfl, h0K, fun i hi => lent_take B K hi⟩, trivial⟩ trivial (.inr ⟨fun _ _ => trivial, trivial⟩) ?_)
    | (refine D.callF (sum_does B q2) rfl rfl rfl rfl [] [500] [] rfl rfl hΓ rfl ⟨⟨rfl, rfl, hBl.symm, rfl, h0m, fun i _ => lent_all B i⟩, trivial⟩ trivial (.inr ⟨fun _ _ => trivial, trivial⟩) rfl ?_; (conv => whnf))
    | (refine W.callF (sum_does B q2) rfl rfl rfl rfl [] [500] [] rfl rfl hΓ rfl ⟨⟨rfl, rfl, hBl.symm, rfl, h0m, fun i _ => lent_all B i⟩, trivial⟩ trivial (.inr ⟨fun _ _ => trivial, trivial⟩) ?_)
    | (refine D.callF (rsum_does (B.take K) q1) rfl rfl rfl rfl [] [500] [] rfl rfl hΓ rfl ⟨⟨rfl, rfl, hBk.symm, rfl, h0K, fun i hi => lent_take B K hi⟩, trivial⟩ trivial (.inr ⟨fun _ _ => trivial, trivial⟩) rfl ?_; (conv => whnf))
    | (refine W.callF (rsum_does (B.take K) q1) rfl rfl rfl rfl [] [500] [] rfl rfl hΓ rfl ⟨⟨rfl, rfl, hBk.symm, rfl, h0K, fun i hi => lent_take B K hi⟩, trivial⟩ trivial (.inr ⟨fun _ _ => trivial, trivial⟩) ?_)
    | (refine D.callF (rsum_does B q2) rfl rfl rfl rfl [] [500] [] rfl rfl hΓ rfl ⟨⟨rfl, rfl, hBl.symm, rfl, h0m, fun i _ => lent_all B i⟩, trivial⟩ trivial (.inr ⟨fun _ _ => trivial, trivial⟩) rfl ?_; (conv => whnf))
    | (refine W.callF (rsum_does B q2) rfl rfl rfl rfl [] [500] [] rfl rfl hΓ rfl ⟨⟨rfl, rfl, hBl.symm, rfl, h0m, fun i _ => lent_all B i⟩, trivial⟩ trivial (.inr ⟨fun _ _ => trivial, trivial⟩) ?_)
    | (refine D.callF (sum_does (B.take K ++ [1]) q3) rfl rfl rfl rfl [] [52] [] rfl rfl hΓ rfl ⟨⟨rfl, rfl, hBa.symm, rfl, h0n, fun i hi => lent_cat B K 1 rfl hKB hi⟩, trivial⟩ trivial (.inr ⟨fun _ _ => trivial, trivial⟩) rfl ?_; (conv => whnf))
    | (refine W.callF (sum_does (B.take K ++ [1]) q3) rfl rfl rfl rfl [] [52] [] rfl rfl hΓ rfl ⟨⟨rfl, rfl, hBa.symm, rfl, h0n, fun i hi => lent_cat B K 1 rfl hKB hi⟩, trivial⟩ trivial (.inr ⟨fun _ _ => trivial, trivial⟩) ?_)
    | (refine D.callF (rsum_does (B.take K ++ [1]) q3) rfl rfl rfl rfl [] [59] [] rfl rfl hΓ rfl ⟨⟨rfl, rfl, hBa.symm, rfl, h0n, fun i hi => lent_cat B K 1 rfl hKB hi⟩, trivial⟩ trivial (.inr ⟨fun _ _ => trivial, trivial⟩) rfl ?_; (conv => whnf))
    | (refine W.callF (rsum_does (B.take K ++ [1]) q3) rfl rfl rfl rfl [] [59] [] rfl rfl hΓ rfl ⟨⟨rfl, rfl, hBa.symm, rfl, h0n, fun i hi => lent_cat B K 1 rfl hKB hi⟩, trivial⟩ trivial (.inr ⟨fun _ _ => trivial, trivial⟩) ?_)
    | (refine W.go TOK 63 hΓ 1000 rfl ?_; (conv => whnf); refine ⟨?_, ?_⟩)
    | (refine D.go TOK 63 hΓ 1000 rfl ?_; (conv => whnf); refine ⟨?_, ?_⟩)
    | (refine W.drawn rfl rfl ?_; refine D.run TOK 63 hΓ 1000 ?_; (conv => whnf); refine ⟨?_, ?_⟩)
  all_goals try (exact trivial)
  all_goals try (exact rfl)
  all_goals try omega
  all_goals try (first
    | (simp only [allP, List.nil_append, List.append_nil, List.cons_append, List.append_eq, and_true, true_and, inr_i64, inr_u8, inr_u64, A.purePL, A.pureP, A.sureP, A.surePL, Int.toNat_natCast, addI, cHi, cLo, hiN, loN, subO, addO, hasIdx, cond_true, cond_false]; done)
    | (simp only [allP, List.nil_append, List.append_nil, List.cons_append, List.append_eq, and_true, true_and, inr_i64, inr_u8, inr_u64, A.purePL, A.pureP, A.sureP, A.surePL, Int.toNat_natCast, addI, cHi, cLo, hiN, loN, subO, addO, hasIdx, cond_true, cond_false]; omega)
    | (simp only [allP, List.nil_append, List.append_nil, List.cons_append, List.append_eq, and_true, true_and, inr_i64, inr_u8, inr_u64, A.purePL, A.pureP, A.sureP, A.surePL, Int.toNat_natCast, addI, cHi, cLo, hiN, loN, subO, addO, hasIdx, cond_true, cond_false]; (repeat' apply And.intro) <;> first | exact trivial | rfl | omega | decide))
  all_goals try (simp only [allP, List.nil_append, List.append_nil, List.cons_append, List.append_eq, and_true, true_and, A.purePL, A.pureP, A.sureP, A.surePL, addI, shiftF]; (repeat' apply And.intro) <;> first | exact trivial | rfl | omega | exact fun i hi => ⟨⟨_, rfl⟩, ⟨_, rfl⟩⟩ | exact fun i hi => ⟨_, rfl⟩ | exact fun i hi => by match i, hi with | 0, _ | 1, _ | 2, _ | 3, _ | 4, _ => exact ⟨⟨_, rfl⟩, ⟨_, rfl⟩⟩)
  all_goals try (change _ = true; simp only [cond_true, cond_false, all_aeq_bytes, implies_true, decide_true]; done)
  all_goals (trace_state; sorry)

theorem spongeBlocks_law (x0 x1 : A) (s0 : Shaped (.int .u8) x0) (s1 : Shaped (.int .u8) x1) : Does Try.prog 4 [x0, x1] [] [] Yes := by
  obtain ⟨a, h0, _⟩ := Rep.byte x0 s0
  obtain ⟨b, h1, _⟩ := Rep.byte x1 s1
  exact Does.args (ys := [VX.byte a, VX.byte b]) ⟨h0, h1, trivial⟩ ⟨s0.pure, s1.pure, trivial⟩ (blocks_does a b)
end Go.Proofs.Ytkcloienempifaa
