/- Walks: the statements of layer 2. -/
import Derived.Test.YtkcloienempifaaSp2K
import Derived.Test.YtkcloienempifaaSpMore
set_option linter.unusedSimpArgs false
set_option linter.unusedVariables false
namespace Go.Proofs.Ytkcloienempifaa
open VX
set_option maxRecDepth 100000
set_option maxHeartbeats 4000000

def Tt : Tab := { l := tabL, frz := [24, 29, 36, 43, 44, 50, 55, 80, 86] }
theorem TtOK : TabOK Try.prog Tt.l := tabOK
theorem texts_does (a b : List UInt8) (tag other : UInt8) (ha : a.length ≤ 9223372036854775807) (hb0 : b.length ≤ 9223372036854775807) : Does Try.prog 5 [bytesA a, bytesA b, VX.byte tag, VX.byte other] [] [] Yes := by
  refine Does.intro (fn := Try.f5) Try.func5 rfl rfl fun Γ hΓ => ?_
  refine W.run TtOK 92 hΓ 1000 ?_
  conv => whnf
  refine ⟨?_, ?_⟩
  repeat' first
    | assumption
    | exact Bool.noConfusion hb
    | exact absurd hb (by decide)
    | (apply W.atRet (π := []) (r' := []) TtOK; refine ⟨rfl, rfl, rfl, rfl, rfl, ?_, ?_, ?_⟩)
    | (refine W.branch rfl (fun hb => ?_) (fun hb => ?_) <;> ((try simp only [decide_eq_true_eq, decide_eq_false_iff_not, Bool.not_eq_true', Bool.not_eq_false', Int.not_lt, Int.not_le, cond_true, cond_false, reduceCtorEq, Int.toNat_natCast, addI] at hb); (try replace hb := of_decide_eq_true hb); (try replace hb := of_decide_eq_false hb)))
    | (refine W.callF (known_does) rfl rfl rfl rfl [] [] [] rfl rfl hΓ rfl trivial trivial (.inl rfl) ?_)
    | (refine W.go TtOK 92 hΓ 1000 rfl ?_; (conv => whnf); refine ⟨?_, ?_⟩)
  all_goals try (exact trivial)
  all_goals try (exact rfl)
  all_goals try omega
  all_goals try (first
    | (simp only [allP, List.nil_append, List.append_nil, List.cons_append, List.append_eq, and_true, true_and, inr_i64, inr_u8, inr_u64, A.purePL, A.pureP, A.sureP, A.surePL, Int.toNat_natCast, addI, cHi, cLo, hiN, loN, subO, addO, hasIdx, cond_true, cond_false]; done)
    | (simp only [allP, List.nil_append, List.append_nil, List.cons_append, List.append_eq, and_true, true_and, inr_i64, inr_u8, inr_u64, A.purePL, A.pureP, A.sureP, A.surePL, Int.toNat_natCast, addI, cHi, cLo, hiN, loN, subO, addO, hasIdx, cond_true, cond_false]; omega)
    | (simp only [allP, List.nil_append, List.append_nil, List.cons_append, List.append_eq, and_true, true_and, inr_i64, inr_u8, inr_u64, A.purePL, A.pureP, A.sureP, A.surePL, Int.toNat_natCast, addI, cHi, cLo, hiN, loN, subO, addO, hasIdx, cond_true, cond_false]; (repeat' apply And.intro) <;> first | exact trivial | rfl | omega | decide))
  have a6 : a.length ≤ 60 := by omega
  have b6 : b.length ≤ 60 := by omega
  have t1 : (textS tag [a]).length ≤ 1000000000000 := by rw [textS_one, List.length_cons, List.length_append, numS_length]; omega
  have t2 : (textS tag [b]).length ≤ 1000000000000 := by rw [textS_one, List.length_cons, List.length_append, numS_length]; omega
  have t3 : (textS other [a]).length ≤ 1000000000000 := by rw [textS_one, List.length_cons, List.length_append, numS_length]; omega
  have t5 : (textS tag [a ++ b]).length ≤ 1000000000000 := by rw [textS_one, List.length_cons, List.length_append, numS_length, List.length_append]; omega
  have t4 : (textS tag [a, b]).length ≤ 1000000000000 := by simp [textS, lumpS_length]; omega
  have hab : a.length + b.length = (a ++ b).length := List.length_append.symm
  have d1 : decide (textS tag [a] = textS tag [b]) = decide (a = b) := decide_eq_decide.2 (textS_inj tag a b)
  have d2 : decide (textS tag [a, b] = textS tag [a ++ b]) = false := decide_eq_false (textS_two tag a b)
  have d3 : decide (textS tag [a] = textS other [a]) = decide (tag = other) := decide_eq_decide.2 (textS_tag tag other a)
  repeat' first
    | assumption
    | exact Bool.noConfusion hb
    | exact absurd hb (by decide)
    | (exfalso; simp only [shiftF, bytesOf_all, d1, d2, d3, u8_dec, not_true_eq_false] at hb; done)
    | (exfalso; simp only [shiftF, bytesOf_all] at hb; exact textS_two tag a b hb)
    | (apply W.atRet (π := []) (r' := []) TtOK; refine ⟨rfl, rfl, rfl, rfl, rfl, ?_, ?_, ?_⟩)
    | (refine W.branch rfl (fun hb => ?_) (fun hb => ?_) <;> ((try simp only [decide_eq_true_eq, decide_eq_false_iff_not, Bool.not_eq_true', Bool.not_eq_false', Int.not_lt, Int.not_le, cond_true, cond_false, reduceCtorEq, Int.toNat_natCast, addI] at hb); (try replace hb := of_decide_eq_true hb); (try replace hb := of_decide_eq_false hb)))
    | (refine D.branch rfl (fun hb => ?_) (fun hb => ?_) <;> ((try simp only [decide_eq_true_eq, decide_eq_false_iff_not, Bool.not_eq_true', Bool.not_eq_false', Int.not_lt, Int.not_le, cond_true, cond_false, reduceCtorEq, Int.toNat_natCast, addI] at hb); (try replace hb := of_decide_eq_true hb); (try replace hb := of_decide_eq_false hb)))
    | (refine D.callF (known_does) rfl rfl rfl rfl [] [] [] rfl rfl hΓ rfl trivial trivial (.inl rfl) rfl ?_; (conv => whnf))
    | (refine W.callF (known_does) rfl rfl rfl rfl [] [] [] rfl rfl hΓ rfl trivial trivial (.inl rfl) ?_)
    | (refine D.callF (text_does tag [a] t1) rfl rfl rfl rfl [] [] [25] rfl rfl hΓ rfl ⟨⟨rfl, rfl⟩, ⟨rfl, rfl, sim1 (A.sim.refl _)⟩, trivial⟩ trivial (.inl rfl) rfl ?_; (conv => whnf))
    | (refine W.callF (text_does tag [a] t1) rfl rfl rfl rfl [] [] [25] rfl rfl hΓ rfl ⟨⟨rfl, rfl⟩, ⟨rfl, rfl, sim1 (A.sim.refl _)⟩, trivial⟩ trivial (.inl rfl) ?_)
    | (refine D.callF (text_does tag [a] t1) rfl rfl rfl rfl [] [] [51] rfl rfl hΓ rfl ⟨⟨rfl, rfl⟩, ⟨rfl, rfl, sim1 (A.sim.refl _)⟩, trivial⟩ trivial (.inl rfl) rfl ?_; (conv => whnf))
    | (refine W.callF (text_does tag [a] t1) rfl rfl rfl rfl [] [] [51] rfl rfl hΓ rfl ⟨⟨rfl, rfl⟩, ⟨rfl, rfl, sim1 (A.sim.refl _)⟩, trivial⟩ trivial (.inl rfl) ?_)
    | (refine D.callF (text_does tag [b] t2) rfl rfl rfl rfl [] [] [30] rfl rfl hΓ rfl ⟨⟨rfl, rfl⟩, ⟨rfl, rfl, sim1 (A.sim.refl _)⟩, trivial⟩ trivial (.inl rfl) rfl ?_; (conv => whnf))
    | (refine W.callF (text_does tag [b] t2) rfl rfl rfl rfl [] [] [30] rfl rfl hΓ rfl ⟨⟨rfl, rfl⟩, ⟨rfl, rfl, sim1 (A.sim.refl _)⟩, trivial⟩ trivial (.inl rfl) ?_)
    | (refine D.callF (text_does other [a] t3) rfl rfl rfl rfl [] [] [56] rfl rfl hΓ rfl ⟨⟨rfl, rfl⟩, ⟨rfl, rfl, sim1 (A.sim.refl _)⟩, trivial⟩ trivial (.inl rfl) rfl ?_; (conv => whnf))
    | (refine W.callF (text_does other [a] t3) rfl rfl rfl rfl [] [] [56] rfl rfl hΓ rfl ⟨⟨rfl, rfl⟩, ⟨rfl, rfl, sim1 (A.sim.refl _)⟩, trivial⟩ trivial (.inl rfl) ?_)
    | (refine D.callF (text_does tag [a, b] t4) rfl rfl rfl rfl [] [] [37] rfl rfl hΓ rfl ⟨⟨rfl, rfl⟩, ⟨rfl, rfl, sim2 (A.sim.refl _) (A.sim.refl _)⟩, trivial⟩ trivial (.inl rfl) rfl ?_; (conv => whnf))
    | (refine W.callF (text_does tag [a, b] t4) rfl rfl rfl rfl [] [] [37] rfl rfl hΓ rfl ⟨⟨rfl, rfl⟩, ⟨rfl, rfl, sim2 (A.sim.refl _) (A.sim.refl _)⟩, trivial⟩ trivial (.inl rfl) ?_)
    | (refine D.callF (text_does tag [a ++ b] t5) rfl rfl rfl rfl [] [] [45] rfl rfl hΓ rfl ⟨⟨rfl, rfl⟩, ⟨rfl, rfl, sim1 (A.sim.ro' hab fun i hi => cat_sim (l := a) (m := b) rfl (fun _ _ => rfl) (fun _ _ => rfl) hi)⟩, trivial⟩ trivial (.inl rfl) rfl ?_; (conv => whnf))
    | (refine W.callF (text_does tag [a ++ b] t5) rfl rfl rfl rfl [] [] [45] rfl rfl hΓ rfl ⟨⟨rfl, rfl⟩, ⟨rfl, rfl, sim1 (A.sim.ro' hab fun i hi => cat_sim (l := a) (m := b) rfl (fun _ _ => rfl) (fun _ _ => rfl) hi)⟩, trivial⟩ trivial (.inl rfl) ?_)
    | (refine D.callF (tag_does tag [a] t1) rfl rfl rfl rfl [] [] [] rfl rfl hΓ rfl ⟨⟨rfl, rfl⟩, ⟨rfl, rfl, sim1 (A.sim.refl _)⟩, trivial⟩ trivial (.inl rfl) rfl ?_; (conv => whnf))
    | (refine W.callF (tag_does tag [a] t1) rfl rfl rfl rfl [] [] [] rfl rfl hΓ rfl ⟨⟨rfl, rfl⟩, ⟨rfl, rfl, sim1 (A.sim.refl _)⟩, trivial⟩ trivial (.inl rfl) ?_)
    | (refine D.callF (rtag_does tag [a] t1) rfl rfl rfl rfl [] [] [] rfl rfl hΓ rfl ⟨⟨rfl, rfl⟩, ⟨rfl, rfl, sim1 (A.sim.refl _)⟩, trivial⟩ trivial (.inl rfl) rfl ?_; (conv => whnf))
    | (refine W.callF (rtag_does tag [a] t1) rfl rfl rfl rfl [] [] [] rfl rfl hΓ rfl ⟨⟨rfl, rfl⟩, ⟨rfl, rfl, sim1 (A.sim.refl _)⟩, trivial⟩ trivial (.inl rfl) ?_)
    | (refine W.go TtOK 92 hΓ 1000 rfl ?_; (conv => whnf); refine ⟨?_, ?_⟩)
    | (refine D.go TtOK 92 hΓ 1000 rfl ?_; (conv => whnf); refine ⟨?_, ?_⟩)
    | (refine W.drawn rfl rfl ?_; refine D.run TtOK 92 hΓ 1000 ?_; (conv => whnf); refine ⟨?_, ?_⟩)
  all_goals try (exact trivial)
  all_goals try (exact rfl)
  all_goals try omega
  all_goals try (first
    | (simp only [allP, List.nil_append, List.append_nil, List.cons_append, List.append_eq, and_true, true_and, inr_i64, inr_u8, inr_u64, A.purePL, A.pureP, A.sureP, A.surePL, Int.toNat_natCast, addI, cHi, cLo, hiN, loN, subO, addO, hasIdx, cond_true, cond_false]; done)
    | (simp only [allP, List.nil_append, List.append_nil, List.cons_append, List.append_eq, and_true, true_and, inr_i64, inr_u8, inr_u64, A.purePL, A.pureP, A.sureP, A.surePL, Int.toNat_natCast, addI, cHi, cLo, hiN, loN, subO, addO, hasIdx, cond_true, cond_false]; omega)
    | (simp only [allP, List.nil_append, List.append_nil, List.cons_append, List.append_eq, and_true, true_and, inr_i64, inr_u8, inr_u64, A.purePL, A.pureP, A.sureP, A.surePL, Int.toNat_natCast, addI, cHi, cLo, hiN, loN, subO, addO, hasIdx, cond_true, cond_false]; (repeat' apply And.intro) <;> first | exact trivial | rfl | omega | decide))
  all_goals try (simp only [allP, List.nil_append, List.append_nil, List.cons_append, List.append_eq, and_true, true_and, A.purePL, A.pureP, A.sureP, A.surePL, addI, shiftF]; (repeat' apply And.intro) <;> first | exact trivial | rfl | omega | exact fun i hi => ⟨⟨_, rfl⟩, ⟨_, rfl⟩⟩ | exact fun i hi => ⟨_, rfl⟩ | exact fun i hi => ⟨⟨_, rfl⟩, isInt_rep _ _ _ _ i hi⟩ | exact fun i hi => by match i, hi with | 0, _ | 1, _ | 2, _ | 3, _ | 4, _ => exact ⟨⟨_, rfl⟩, ⟨_, rfl⟩⟩)
  all_goals try (change _ = true; simp only [cond_true, beq_self_eq_true]; done)
  all_goals (trace_state; sorry)

theorem spongeTexts_law (x0 x1 x2 x3 : A) (s0 : Shaped (.slice (.int .u8)) x0) (s1 : Shaped (.slice (.int .u8)) x1) (s2 : Shaped (.int .u8) x2) (s3 : Shaped (.int .u8) x3) : Does Try.prog 5 [x0, x1, x2, x3] [] [] Yes := by
  obtain ⟨a, h0, ha⟩ := Rep.bytes x0 s0
  obtain ⟨b, h1, hb⟩ := Rep.bytes x1 s1
  obtain ⟨t, h2, _⟩ := Rep.byte x2 s2
  obtain ⟨o, h3, _⟩ := Rep.byte x3 s3
  exact Does.args (ys := [bytesA a, bytesA b, VX.byte t, VX.byte o]) ⟨h0, h1, h2, h3, trivial⟩ ⟨s0.pure, s1.pure, s2.pure, s3.pure, trivial⟩ (texts_does a b t o ha hb)
end Go.Proofs.Ytkcloienempifaa
