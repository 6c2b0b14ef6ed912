/- Walks: the statements of layer 2. -/
import Derived.Test.YtkcloienempifaaSp2X
set_option linter.unusedSimpArgs false
set_option linter.unusedVariables false
namespace Go.Proofs.Ytkcloienempifaa
open VX
set_option maxRecDepth 100000
set_option maxHeartbeats 4000000

def Tk : Tab := { l := tabL, nowrap := false, frz := [3, 8, 19, 20] }
theorem TkOK : TabOK Try.prog Tk.l := tabOK
theorem known_does : Does Try.prog 8 [] [] [] (Is (.bool true) []) := by
  have k1 : (textS 97 []).length ≤ 1000000000000 := by decide
  have k2 : ([] : List UInt8).length ≤ 1000000000000 := by decide
  have k3 : (textS 97 [[98]]).length ≤ 1000000000000 := by decide
  have k4 : ([97] : List UInt8).length ≤ 1000000000000 := by decide
  have k5 : ([0] : List UInt8).length ≤ 1000000000000 := by decide
  refine Does.intro (fn := Try.f8) Try.func8 rfl rfl fun Γ hΓ => ?_
  refine W.run TkOK 31 hΓ 1000 ?_
  conv => whnf
  refine ⟨?_, ?_⟩
  repeat' first
    | assumption
    | exact Bool.noConfusion hb
    | exact absurd hb (by decide)
    | exact absurd hb (by decide +kernel)
    | (apply W.atRet (π := []) (r' := []) TkOK; refine ⟨rfl, rfl, rfl, rfl, ⟨rfl, rfl⟩, ?_, ?_, ?_⟩)
    | (refine W.branch rfl (fun hb => ?_) (fun hb => ?_) <;> ((try simp only [decide_eq_true_eq, decide_eq_false_iff_not, Bool.not_eq_true', Bool.not_eq_false', Int.not_lt, Int.not_le, cond_true, cond_false, reduceCtorEq, Int.toNat_natCast, addI] at hb); (try replace hb := of_decide_eq_true hb); (try replace hb := of_decide_eq_false hb)))
    | (refine D.branch rfl (fun hb => ?_) (fun hb => ?_) <;> ((try simp only [decide_eq_true_eq, decide_eq_false_iff_not, Bool.not_eq_true', Bool.not_eq_false', Int.not_lt, Int.not_le, cond_true, cond_false, reduceCtorEq, Int.toNat_natCast, addI] at hb); (try replace hb := of_decide_eq_true hb); (try replace hb := of_decide_eq_false hb)))
    | (refine D.callF (tag_does 97 [] k1) rfl rfl rfl rfl [] [] [] rfl rfl hΓ rfl ⟨⟨rfl, rfl⟩, rfl, trivial⟩ trivial (.inl rfl) rfl ?_; (conv => whnf))
    | (refine W.callF (tag_does 97 [] k1) rfl rfl rfl rfl [] [] [] rfl rfl hΓ rfl ⟨⟨rfl, rfl⟩, rfl, trivial⟩ trivial (.inl rfl) ?_)
    | (refine D.callF (sum_does [97] k4) rfl rfl rfl rfl [] [] [] rfl rfl hΓ rfl ⟨⟨rfl, rfl, sim1 (A.sim.of rfl)⟩, trivial⟩ trivial (.inl rfl) rfl ?_; (conv => whnf))
    | (refine W.callF (sum_does [97] k4) rfl rfl rfl rfl [] [] [] rfl rfl hΓ rfl ⟨⟨rfl, rfl, sim1 (A.sim.of rfl)⟩, trivial⟩ trivial (.inl rfl) ?_)
    | (refine D.callF (sum_does [] k2) rfl rfl rfl rfl [] [] [] rfl rfl hΓ rfl ⟨rfl, trivial⟩ trivial (.inl rfl) rfl ?_; (conv => whnf))
    | (refine W.callF (sum_does [] k2) rfl rfl rfl rfl [] [] [] rfl rfl hΓ rfl ⟨rfl, trivial⟩ trivial (.inl rfl) ?_)
    | (refine D.callF (sum_does [0] k5) rfl rfl rfl rfl [] [] [] rfl rfl hΓ rfl ⟨⟨rfl, rfl, sim1 (A.sim.of rfl)⟩, trivial⟩ trivial (.inl rfl) rfl ?_; (conv => whnf))
    | (refine W.callF (sum_does [0] k5) rfl rfl rfl rfl [] [] [] rfl rfl hΓ rfl ⟨⟨rfl, rfl, sim1 (A.sim.of rfl)⟩, trivial⟩ trivial (.inl rfl) ?_)
    | (refine D.callF (rsum_does [] k2) rfl rfl rfl rfl [] [] [] rfl rfl hΓ rfl ⟨rfl, trivial⟩ trivial (.inl rfl) rfl ?_; (conv => whnf))
    | (refine W.callF (rsum_does [] k2) rfl rfl rfl rfl [] [] [] rfl rfl hΓ rfl ⟨rfl, trivial⟩ trivial (.inl rfl) ?_)
    | (refine D.callF (text_does 97 [[98]] k3) rfl rfl rfl rfl [] [] [21] rfl rfl hΓ rfl ⟨⟨rfl, rfl⟩, ⟨rfl, rfl, sim1 (A.sim.ro (sim1 (A.sim.of rfl)))⟩, trivial⟩ trivial (.inl rfl) rfl ?_; (conv => whnf))
    | (refine W.callF (text_does 97 [[98]] k3) rfl rfl rfl rfl [] [] [21] rfl rfl hΓ rfl ⟨⟨rfl, rfl⟩, ⟨rfl, rfl, sim1 (A.sim.ro (sim1 (A.sim.of rfl)))⟩, trivial⟩ trivial (.inl rfl) ?_)
    | (refine D.callF (perm_does (fun _ => 0)) rfl rfl rfl rfl [] [] [] rfl rfl hΓ rfl ⟨⟨rfl, rfl, sim5 (A.sim.of rfl) (A.sim.of rfl) (A.sim.of rfl) (A.sim.of rfl) (A.sim.of rfl)⟩, trivial⟩ trivial (.inl rfl) rfl ?_; (conv => whnf))
    | (refine W.callF (perm_does (fun _ => 0)) rfl rfl rfl rfl [] [] [] rfl rfl hΓ rfl ⟨⟨rfl, rfl, sim5 (A.sim.of rfl) (A.sim.of rfl) (A.sim.of rfl) (A.sim.of rfl) (A.sim.of rfl)⟩, trivial⟩ trivial (.inl rfl) ?_)
    | (refine W.go TkOK 31 hΓ 1000 rfl ?_; (conv => whnf); refine ⟨?_, ?_⟩)
    | (refine D.go TkOK 31 hΓ 1000 rfl ?_; (conv => whnf); refine ⟨?_, ?_⟩)
    | (refine W.drawn rfl rfl ?_; refine D.run TkOK 31 hΓ 1000 ?_; (conv => whnf); refine ⟨?_, ?_⟩)
  all_goals try (exact trivial)
  all_goals try (exact rfl)
  all_goals try omega
  all_goals try (first
    | (simp only [allP, List.nil_append, List.append_nil, List.cons_append, List.append_eq, and_true, true_and, inr_i64, inr_u8, inr_u64, A.purePL, A.pureP, A.sureP, A.surePL, Int.toNat_natCast, addI, cHi, cLo, hiN, loN, subO, hasIdx, cond_true, cond_false]; done)
    | (simp only [allP, List.nil_append, List.append_nil, List.cons_append, List.append_eq, and_true, true_and, inr_i64, inr_u8, inr_u64, A.purePL, A.pureP, A.sureP, A.surePL, Int.toNat_natCast, addI, cHi, cLo, hiN, loN, subO, hasIdx, cond_true, cond_false]; omega)
    | (simp only [allP, List.nil_append, List.append_nil, List.cons_append, List.append_eq, and_true, true_and, inr_i64, inr_u8, inr_u64, A.purePL, A.pureP, A.sureP, A.surePL, Int.toNat_natCast, addI, cHi, cLo, hiN, loN, subO, hasIdx, cond_true, cond_false]; (repeat' apply And.intro) <;> first | exact trivial | rfl | omega | decide))
  all_goals try (simp only [allP, List.nil_append, List.append_nil, List.cons_append, List.append_eq, and_true, true_and, A.purePL, A.pureP, A.sureP, A.surePL, addI, shiftF]; (repeat' apply And.intro) <;> first | exact trivial | rfl | omega | exact fun i hi => ⟨⟨_, rfl⟩, ⟨_, rfl⟩⟩ | exact fun i hi => ⟨_, rfl⟩ | exact fun i hi => by match i, hi with | 0, _ | 1, _ | 2, _ | 3, _ | 4, _ => exact ⟨⟨_, rfl⟩, ⟨_, rfl⟩⟩)
  all_goals (trace_state; sorry)

end Go.Proofs.Ytkcloienempifaa
