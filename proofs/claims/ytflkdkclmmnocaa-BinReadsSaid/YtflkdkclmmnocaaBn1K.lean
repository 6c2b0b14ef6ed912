/- Walks: the statements of layer 1. -/
import Derived.Test.YtflkdkclmmnocaaBn1R
import Derived.Test.YtflkdkclmmnocaaSpMore
set_option linter.unusedSimpArgs false
set_option linter.unusedVariables false
namespace Go.Proofs.Ytflkdkclmmnocaa
open VX
set_option maxRecDepth 100000
set_option maxHeartbeats 4000000

def Tk : Tab := { l := tabL, nowrap := false, frz := [8, 10, 51, 53, 54] }
theorem TkOK : TabOK Try.prog Tk.l := tabOK
theorem known_does : Does Try.prog 7 [] [] [] (Is (.bool true) []) := by
  have k0 : inr .u64 258 := inr_u64.2 ⟨by decide, by decide⟩
  have k1 : ([97, 98] : List UInt8).length ≤ 1000000000000 := by decide
  have k2 : ([2, 1, 0, 0, 0, 0, 0, 0, 2, 0, 0, 0, 0, 0, 0, 0, 97, 98] : List UInt8).length ≤ 1000000000000 := by decide
  have k2' : ([2, 0, 0, 0, 0, 0, 0, 0, 97, 98] : List UInt8).length ≤ 1000000000000 := by decide
  have k3 : ([[97], [], [98]] : List (List UInt8)).length ≤ 1000000000000 := by decide
  have k4 : ([[97], [], [98]] : List (List UInt8)).flatten.length ≤ 1000000000000 := by decide
  have k5 : ([] : List UInt8).length ≤ 1000000000000 := by decide
  have eX : numS 258 ++ lumpS [97, 98] = [2, 1, 0, 0, 0, 0, 0, 0, 2, 0, 0, 0, 0, 0, 0, 0, 97, 98] := by decide +kernel
  have hX : ∀ j, j < 18 → (catF 8 (byteAt (numS 258)) (byteAt (lumpS [97, 98])) j).sim (byteAt [2, 1, 0, 0, 0, 0, 0, 0, 2, 0, 0, 0, 0, 0, 0, 0, 97, 98] j) := fun j hj => by
    rw [← eX]
    exact cat_sim (by rw [numS_length]) (fun _ _ => rfl) (fun _ _ => rfl) (by rw [lumpS_length]; exact hj)
  have c1 := getn_does [2, 1, 0, 0, 0, 0, 0, 0, 2, 0, 0, 0, 0, 0, 0, 0, 97, 98] 0 k2
  rw [show numR ⟨[2, 1, 0, 0, 0, 0, 0, 0, 2, 0, 0, 0, 0, 0, 0, 0, 97, 98], 0⟩ = (258, ⟨[2, 0, 0, 0, 0, 0, 0, 0, 97, 98], 0⟩) by decide +kernel] at c1
  have c2 := getl_does [2, 0, 0, 0, 0, 0, 0, 0, 97, 98] 0 5 k2' (inr_i64.2 ⟨by decide, by decide⟩)
  rw [show lumpR ⟨[2, 0, 0, 0, 0, 0, 0, 0, 97, 98], 0⟩ 5 = ([97, 98], ⟨[], 0⟩) by decide +kernel] at c2
  have c3 := getn_does [] 0 k5
  rw [show numR ⟨[], 0⟩ = (0, ⟨[], 21⟩) by decide +kernel] at c3
  refine Does.intro (fn := Try.f7) Try.func7 rfl rfl fun Γ hΓ => ?_
  refine W.run TkOK 59 hΓ 1000 ?_
  conv => whnf
  refine ⟨?_, ?_⟩
  repeat' first
    | assumption
    | exact Bool.noConfusion hb
    | exact absurd hb (by decide)
    | exact absurd hb (by decide +kernel)
    | (apply W.atRet (π := []) (r' := []) TkOK; refine ⟨rfl, rfl, rfl, rfl, ⟨rfl, rfl⟩, ?_, ?_, ?_⟩)
    | (refine W.branch rfl (fun hb => ?_) (fun hb => ?_) <;> ((try simp only [decide_eq_true_eq, decide_eq_false_iff_not, Bool.not_eq_true', Bool.not_eq_false', Int.not_lt, Int.not_le, cond_true, cond_false, reduceCtorEq, Int.toNat_natCast, addI] at hb); (try replace hb := of_decide_eq_true hb); (try replace hb := of_decide_eq_false hb)))
    | (refine D.branch rfl (fun hb => ?_) (fun hb => ?_) <;> ((try simp only [decide_eq_true_eq, decide_eq_false_iff_not, Bool.not_eq_true', Bool.not_eq_false', Int.not_lt, Int.not_le, cond_true, cond_false, reduceCtorEq, Int.toNat_natCast, addI] at hb); (try replace hb := of_decide_eq_true hb); (try replace hb := of_decide_eq_false hb)))
    | (refine D.callF (num_does 258 k0) rfl rfl rfl rfl [] [] [301] rfl rfl hΓ rfl ⟨⟨rfl, rfl⟩, trivial⟩ trivial (.inl rfl) rfl ?_; (conv => whnf))
    | (refine W.callF (num_does 258 k0) rfl rfl rfl rfl [] [] [301] rfl rfl hΓ rfl ⟨⟨rfl, rfl⟩, trivial⟩ trivial (.inl rfl) ?_)
    | (refine D.callF (lump_does [97, 98] k1) rfl rfl rfl rfl [] [] [302] rfl rfl hΓ rfl ⟨⟨rfl, rfl, sim2 (A.sim.of rfl) (A.sim.of rfl)⟩, trivial⟩ trivial (.inl rfl) rfl ?_; (conv => whnf))
    | (refine W.callF (lump_does [97, 98] k1) rfl rfl rfl rfl [] [] [302] rfl rfl hΓ rfl ⟨⟨rfl, rfl, sim2 (A.sim.of rfl) (A.sim.of rfl)⟩, trivial⟩ trivial (.inl rfl) ?_)
    | (refine D.callF (new_does [2, 1, 0, 0, 0, 0, 0, 0, 2, 0, 0, 0, 0, 0, 0, 0, 97, 98] k2) rfl rfl rfl rfl [] [] [303] rfl rfl hΓ rfl ⟨⟨rfl, rfl, hX⟩, trivial⟩ trivial (.inl rfl) rfl ?_; (conv => whnf))
    | (refine W.callF (new_does [2, 1, 0, 0, 0, 0, 0, 0, 2, 0, 0, 0, 0, 0, 0, 0, 97, 98] k2) rfl rfl rfl rfl [] [] [303] rfl rfl hΓ rfl ⟨⟨rfl, rfl, hX⟩, trivial⟩ trivial (.inl rfl) ?_)
    | (refine D.callF (c1) rfl rfl rfl rfl [(1000, 303)] [] [] rfl rfl hΓ rfl ⟨⟨rfl, rfl⟩, trivial⟩ ⟨⟨⟨rfl, rfl, fun _ _ => A.sim.refl _⟩, ⟨rfl, rfl⟩, trivial⟩, trivial⟩ (.inl rfl) rfl ?_; (conv => whnf))
    | (refine W.callF (c1) rfl rfl rfl rfl [(1000, 303)] [] [] rfl rfl hΓ rfl ⟨⟨rfl, rfl⟩, trivial⟩ ⟨⟨⟨rfl, rfl, fun _ _ => A.sim.refl _⟩, ⟨rfl, rfl⟩, trivial⟩, trivial⟩ (.inl rfl) ?_)
    | (refine D.callF (c2) rfl rfl rfl rfl [(1000, 303)] [] [] rfl rfl hΓ rfl ⟨⟨rfl, rfl⟩, ⟨rfl, rfl⟩, trivial⟩ ⟨⟨⟨rfl, rfl, fun _ _ => A.sim.refl _⟩, ⟨rfl, rfl⟩, trivial⟩, trivial⟩ (.inl rfl) rfl ?_; (conv => whnf))
    | (refine W.callF (c2) rfl rfl rfl rfl [(1000, 303)] [] [] rfl rfl hΓ rfl ⟨⟨rfl, rfl⟩, ⟨rfl, rfl⟩, trivial⟩ ⟨⟨⟨rfl, rfl, fun _ _ => A.sim.refl _⟩, ⟨rfl, rfl⟩, trivial⟩, trivial⟩ (.inl rfl) ?_)
    | (refine D.callF ((left_does [] 0)) rfl rfl rfl rfl [(1000, 303)] [] [] rfl rfl hΓ rfl ⟨⟨rfl, rfl⟩, trivial⟩ ⟨⟨⟨rfl, rfl, fun _ _ => A.sim.refl _⟩, ⟨rfl, rfl⟩, trivial⟩, trivial⟩ (.inl rfl) rfl ?_; (conv => whnf))
    | (refine W.callF ((left_does [] 0)) rfl rfl rfl rfl [(1000, 303)] [] [] rfl rfl hΓ rfl ⟨⟨rfl, rfl⟩, trivial⟩ ⟨⟨⟨rfl, rfl, fun _ _ => A.sim.refl _⟩, ⟨rfl, rfl⟩, trivial⟩, trivial⟩ (.inl rfl) ?_)
    | (refine D.callF ((err_does [] 0)) rfl rfl rfl rfl [(1000, 303)] [] [] rfl rfl hΓ rfl ⟨⟨rfl, rfl⟩, trivial⟩ ⟨⟨⟨rfl, rfl, fun _ _ => A.sim.refl _⟩, ⟨rfl, rfl⟩, trivial⟩, trivial⟩ (.inl rfl) rfl ?_; (conv => whnf))
    | (refine W.callF ((err_does [] 0)) rfl rfl rfl rfl [(1000, 303)] [] [] rfl rfl hΓ rfl ⟨⟨rfl, rfl⟩, trivial⟩ ⟨⟨⟨rfl, rfl, fun _ _ => A.sim.refl _⟩, ⟨rfl, rfl⟩, trivial⟩, trivial⟩ (.inl rfl) ?_)
    | (refine D.callF (c3) rfl rfl rfl rfl [(1000, 303)] [] [] rfl rfl hΓ rfl ⟨⟨rfl, rfl⟩, trivial⟩ ⟨⟨⟨rfl, rfl, fun _ _ => A.sim.refl _⟩, ⟨rfl, rfl⟩, trivial⟩, trivial⟩ (.inl rfl) rfl ?_; (conv => whnf))
    | (refine W.callF (c3) rfl rfl rfl rfl [(1000, 303)] [] [] rfl rfl hΓ rfl ⟨⟨rfl, rfl⟩, trivial⟩ ⟨⟨⟨rfl, rfl, fun _ _ => A.sim.refl _⟩, ⟨rfl, rfl⟩, trivial⟩, trivial⟩ (.inl rfl) ?_)
    | (refine D.callF ((err_does [] 21)) rfl rfl rfl rfl [(1000, 303)] [] [] rfl rfl hΓ rfl ⟨⟨rfl, rfl⟩, trivial⟩ ⟨⟨⟨rfl, rfl, fun _ _ => A.sim.refl _⟩, ⟨rfl, rfl⟩, trivial⟩, trivial⟩ (.inl rfl) rfl ?_; (conv => whnf))
    | (refine W.callF ((err_does [] 21)) rfl rfl rfl rfl [(1000, 303)] [] [] rfl rfl hΓ rfl ⟨⟨rfl, rfl⟩, trivial⟩ ⟨⟨⟨rfl, rfl, fun _ _ => A.sim.refl _⟩, ⟨rfl, rfl⟩, trivial⟩, trivial⟩ (.inl rfl) ?_)
    | (refine D.callF (num_does 258 k0) rfl rfl rfl rfl [] [] [304] rfl rfl hΓ rfl ⟨⟨rfl, rfl⟩, trivial⟩ trivial (.inl rfl) rfl ?_; (conv => whnf))
    | (refine W.callF (num_does 258 k0) rfl rfl rfl rfl [] [] [304] rfl rfl hΓ rfl ⟨⟨rfl, rfl⟩, trivial⟩ trivial (.inl rfl) ?_)
    | (refine D.callF (join_does [[97], [], [98]] k3 k4) rfl rfl rfl rfl [] [] [305] rfl rfl hΓ rfl ⟨⟨rfl, rfl, sim3 (A.sim.ro (sim1 (A.sim.of rfl))) A.sim.nil0 (A.sim.ro (sim1 (A.sim.of rfl)))⟩, trivial⟩ trivial (.inl rfl) rfl ?_; (conv => whnf))
    | (refine W.callF (join_does [[97], [], [98]] k3 k4) rfl rfl rfl rfl [] [] [305] rfl rfl hΓ rfl ⟨⟨rfl, rfl, sim3 (A.sim.ro (sim1 (A.sim.of rfl))) A.sim.nil0 (A.sim.ro (sim1 (A.sim.of rfl)))⟩, trivial⟩ trivial (.inl rfl) ?_)
    | (refine W.go TkOK 59 hΓ 1000 rfl ?_; (conv => whnf); refine ⟨?_, ?_⟩)
    | (refine D.go TkOK 59 hΓ 1000 rfl ?_; (conv => whnf); refine ⟨?_, ?_⟩)
    | (refine W.drawn rfl rfl ?_; refine D.run TkOK 59 hΓ 1000 ?_; (conv => whnf); refine ⟨?_, ?_⟩)
  all_goals try (exact trivial)
  all_goals try (exact rfl)
  all_goals try omega
  all_goals try (first
    | (simp only [allP, List.nil_append, List.append_nil, List.cons_append, List.append_eq, and_true, true_and, inr_i64, inr_u8, inr_u64, A.purePL, A.pureP, A.sureP, A.surePL, Int.toNat_natCast, addI, cHi, cLo, hiN, loN, subO, addO, hasIdx, cond_true, cond_false]; done)
    | (simp only [allP, List.nil_append, List.append_nil, List.cons_append, List.append_eq, and_true, true_and, inr_i64, inr_u8, inr_u64, A.purePL, A.pureP, A.sureP, A.surePL, Int.toNat_natCast, addI, cHi, cLo, hiN, loN, subO, addO, hasIdx, cond_true, cond_false]; omega)
    | (simp only [allP, List.nil_append, List.append_nil, List.cons_append, List.append_eq, and_true, true_and, inr_i64, inr_u8, inr_u64, A.purePL, A.pureP, A.sureP, A.surePL, Int.toNat_natCast, addI, cHi, cLo, hiN, loN, subO, addO, hasIdx, cond_true, cond_false]; (repeat' apply And.intro) <;> first | exact trivial | rfl | omega | decide))
  all_goals try (simp only [allP, List.nil_append, List.append_nil, List.cons_append, List.append_eq, and_true, true_and, A.purePL, A.pureP, A.sureP, A.surePL, addI, shiftF]; (repeat' apply And.intro) <;> first | exact trivial | rfl | omega | exact fun i hi => ⟨⟨_, rfl⟩, ⟨_, rfl⟩⟩ | exact fun i hi => ⟨_, rfl⟩ | exact fun i hi => by match i, hi with | 0, _ | 1, _ | 2, _ | 3, _ | 4, _ => exact ⟨⟨_, rfl⟩, ⟨_, rfl⟩⟩)
  all_goals first
    | (show _ = _; decide +kernel)

end Go.Proofs.Ytflkdkclmmnocaa
