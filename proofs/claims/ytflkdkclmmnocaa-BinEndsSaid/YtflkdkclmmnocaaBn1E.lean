/- Walks: the statements of layer 1. -/
import Derived.Test.YtflkdkclmmnocaaBn1K
import Derived.Test.YtflkdkclmmnocaaSpMore
set_option linter.unusedSimpArgs false
set_option linter.unusedVariables false
namespace Go.Proofs.Ytflkdkclmmnocaa
open VX
set_option maxRecDepth 100000
set_option maxHeartbeats 4000000

def Te : Tab := { l := tabL, frz := [29] }
theorem TeOK : TabOK Try.prog Te.l := tabOK
theorem ends_does (b : List UInt8) (n m : UInt8) (hb0 : b.length ≤ 9223372036854775807) : Does Try.prog 5 [bytesA b, VX.byte n, VX.byte m] [] [] Yes := by
  have k5 : ([] : List UInt8).length ≤ 1000000000000 := by decide
  obtain ⟨k, hk⟩ : ∃ k : _root_.Fin 20, k.val = m.toNat % 20 := ⟨⟨m.toNat % 20, Nat.mod_lt _ (by decide)⟩, rfl⟩
  have hk0 : (List.replicate (k.val + 1) (0 : UInt8)).length ≤ 1000000000000 := by rw [List.length_replicate]; omega
  have hk1 : (lumpS (List.replicate (k.val + 1) 0)).length ≤ 1000000000000 := by rw [lumpS_length, List.length_replicate]; omega
  have hwn : IntKind.i64.wrap (n.toNat : Int) = n.toNat := wrap_i64_in (by omega) (by have := n.toNat_lt; omega)
  have hwm : IntKind.i64.wrap ((m.toNat : Int) % 20) = (k.val : Int) := by
    rw [hk, wrap_i64_in (by omega) (by omega)]; omega
  have hn8 := n.toNat_lt
  have hk20 := k.isLt
  have hlz : 8 + (List.replicate (k.val + 1) (0 : UInt8)).length = (lumpS (List.replicate (k.val + 1) 0)).length := (lumpS_length _).symm
  have hrl : (List.replicate (k.val + 1) (0 : UInt8)).length = k.val + 1 := List.length_replicate
  have hze : ∀ i, (A.int .u8 0).sim (byteAt (List.replicate (k.val + 1) 0) i) := zeros_sim (k.val + 1)
  have c2 := getl_does (lumpS (List.replicate (k.val + 1) 0)) 0 k.val hk1 (inr_i64.2 ⟨by omega, by omega⟩)
  rw [ends_lump k] at c2
  have c3 := getn_does [] 21 k5
  rw [show numR ⟨[], 21⟩ = (0, ⟨[], 21⟩) by decide +kernel] at c3
  have c6 := getn_does [] 22 k5
  rw [show numR ⟨[], 22⟩ = (0, ⟨[], 22⟩) by decide +kernel] at c6
  have c4 := getl_does [] 21 9 k5 (inr_i64.2 ⟨by decide, by decide⟩)
  rw [show lumpR ⟨[], 21⟩ 9 = ([], ⟨[], 21⟩) by decide +kernel] at c4
  have c5 := raw_does [] 21 1 k5
  rw [show rawS ⟨[], 21⟩ 1 = ([], ⟨[], 21⟩) by decide +kernel] at c5
  refine Does.intro (fn := Try.f5) Try.func5 rfl rfl fun Γ hΓ => ?_
  refine W.run TeOK 87 hΓ 1000 ?_
  conv => whnf
  refine ⟨?_, ?_⟩
  repeat' first
    | assumption
    | exact Bool.noConfusion hb
    | exact absurd hb (by decide)
    | (apply W.atRet (π := []) (r' := []) TeOK; refine ⟨rfl, rfl, rfl, rfl, rfl, ?_, ?_, ?_⟩)
    | (refine W.branch rfl (fun hb => ?_) (fun hb => ?_) <;> ((try simp only [decide_eq_true_eq, decide_eq_false_iff_not, Bool.not_eq_true', Bool.not_eq_false', Int.not_lt, Int.not_le, cond_true, cond_false, reduceCtorEq, Int.toNat_natCast, addI] at hb); (try replace hb := of_decide_eq_true hb); (try replace hb := of_decide_eq_false hb)))
    | (refine D.branch rfl (fun hb => ?_) (fun hb => ?_) <;> ((try simp only [decide_eq_true_eq, decide_eq_false_iff_not, Bool.not_eq_true', Bool.not_eq_false', Int.not_lt, Int.not_le, cond_true, cond_false, reduceCtorEq, Int.toNat_natCast, addI] at hb); (try replace hb := of_decide_eq_true hb); (try replace hb := of_decide_eq_false hb)))
    | (refine D.callF (known_does) rfl rfl rfl rfl [] [] [] rfl rfl hΓ rfl trivial trivial (.inl rfl) rfl ?_; (conv => whnf))
    | (refine W.callF (known_does) rfl rfl rfl rfl [] [] [] rfl rfl hΓ rfl trivial trivial (.inl rfl) ?_)
    | (refine W.go TeOK 87 hΓ 1000 rfl ?_; (conv => whnf); refine ⟨?_, ?_⟩)
    | (refine D.go TeOK 87 hΓ 1000 rfl ?_; (conv => whnf); refine ⟨?_, ?_⟩)
    | (refine W.drawn rfl rfl ?_; refine D.run TeOK 87 hΓ 1000 ?_; (conv => whnf); refine ⟨?_, ?_⟩)
  all_goals try (exact trivial)
  all_goals try (exact rfl)
  all_goals try omega
  all_goals try (first
    | (simp only [allP, List.nil_append, List.append_nil, List.cons_append, List.append_eq, and_true, true_and, inr_i64, inr_u8, inr_u64, A.purePL, A.pureP, A.sureP, A.surePL, Int.toNat_natCast, addI, cHi, cLo, hiN, loN, subO, addO, hasIdx, cond_true, cond_false]; done)
    | (simp only [allP, List.nil_append, List.append_nil, List.cons_append, List.append_eq, and_true, true_and, inr_i64, inr_u8, inr_u64, A.purePL, A.pureP, A.sureP, A.surePL, Int.toNat_natCast, addI, cHi, cLo, hiN, loN, subO, addO, hasIdx, cond_true, cond_false]; omega)
    | (simp only [allP, List.nil_append, List.append_nil, List.cons_append, List.append_eq, and_true, true_and, inr_i64, inr_u8, inr_u64, A.purePL, A.pureP, A.sureP, A.surePL, Int.toNat_natCast, addI, cHi, cLo, hiN, loN, subO, addO, hasIdx, cond_true, cond_false]; (repeat' apply And.intro) <;> first | exact trivial | rfl | omega | decide))
  have h60 : b.length ≤ 1000000000000 := by omega
  have c1 := raw_does b 0 (b.length + 1 + n.toNat) h60
  rw [rawS_n rfl (by omega) (by omega)] at c1
  repeat' first
    | assumption
    | exact Bool.noConfusion hb
    | exact absurd hb (by decide)
    | exact absurd hb (by decide +kernel)
    | (apply W.atRet (π := []) (r' := []) TeOK; refine ⟨rfl, rfl, rfl, rfl, rfl, ?_, ?_, ?_⟩)
    | (refine W.branch rfl (fun hb => ?_) (fun hb => ?_) <;> ((try simp only [decide_eq_true_eq, decide_eq_false_iff_not, Bool.not_eq_true', Bool.not_eq_false', Int.not_lt, Int.not_le, cond_true, cond_false, reduceCtorEq, Int.toNat_natCast, addI] at hb); (try replace hb := of_decide_eq_true hb); (try replace hb := of_decide_eq_false hb)))
    | (refine D.branch rfl (fun hb => ?_) (fun hb => ?_) <;> ((try simp only [decide_eq_true_eq, decide_eq_false_iff_not, Bool.not_eq_true', Bool.not_eq_false', Int.not_lt, Int.not_le, cond_true, cond_false, reduceCtorEq, Int.toNat_natCast, addI] at hb); (try replace hb := of_decide_eq_true hb); (try replace hb := of_decide_eq_false hb)))
    | (refine D.callF (known_does) rfl rfl rfl rfl [] [] [] rfl rfl hΓ rfl trivial trivial (.inl rfl) rfl ?_; (conv => whnf))
    | (refine W.callF (known_does) rfl rfl rfl rfl [] [] [] rfl rfl hΓ rfl trivial trivial (.inl rfl) ?_)
    | (refine D.callF (new_does b h60) rfl rfl rfl rfl [] [] [303] rfl rfl hΓ rfl ⟨⟨rfl, rfl, fun _ _ => A.sim.refl _⟩, trivial⟩ trivial (.inl rfl) rfl ?_; (conv => whnf))
    | (refine W.callF (new_does b h60) rfl rfl rfl rfl [] [] [303] rfl rfl hΓ rfl ⟨⟨rfl, rfl, fun _ _ => A.sim.refl _⟩, trivial⟩ trivial (.inl rfl) ?_)
    | (refine D.callF (new_does (lumpS (List.replicate (k.val + 1) 0)) hk1) rfl rfl rfl rfl [] [] [305] rfl rfl hΓ rfl ⟨⟨rfl, hlz, fun _ _ => A.sim.refl _⟩, trivial⟩ trivial (.inl rfl) rfl ?_; (conv => whnf))
    | (refine W.callF (new_does (lumpS (List.replicate (k.val + 1) 0)) hk1) rfl rfl rfl rfl [] [] [305] rfl rfl hΓ rfl ⟨⟨rfl, hlz, fun _ _ => A.sim.refl _⟩, trivial⟩ trivial (.inl rfl) ?_)
    | (refine D.callF (c1) rfl rfl rfl rfl [(1000, 303)] [] [] rfl rfl hΓ rfl ⟨⟨rfl, rfl⟩, ⟨rfl, ?_⟩, trivial⟩ ⟨⟨⟨rfl, rfl, fun _ _ => A.sim.refl _⟩, ⟨rfl, rfl⟩, trivial⟩, trivial⟩ (.inl rfl) rfl ?_; (conv => whnf))
    | (refine W.callF (c1) rfl rfl rfl rfl [(1000, 303)] [] [] rfl rfl hΓ rfl ⟨⟨rfl, rfl⟩, ⟨rfl, ?_⟩, trivial⟩ ⟨⟨⟨rfl, rfl, fun _ _ => A.sim.refl _⟩, ⟨rfl, rfl⟩, trivial⟩, trivial⟩ (.inl rfl) ?_)
    | (refine D.callZ (lump_does (List.replicate (k.val + 1) 0) hk0) rfl rfl rfl rfl [] [] [304] rfl rfl hΓ rfl ⟨⟨rfl, ?_, ?_⟩, trivial⟩ trivial (Nat.le_refl _) (.inl rfl) rfl ?_; (conv => whnf))
    | (refine W.callZ (lump_does (List.replicate (k.val + 1) 0) hk0) rfl rfl rfl rfl [] [] [304] rfl rfl hΓ rfl ⟨⟨rfl, ?_, ?_⟩, trivial⟩ trivial (Nat.le_refl _) (.inl rfl) ?_)
    | (refine D.callF (c2) rfl rfl rfl rfl [(1000, 305)] [] [] rfl rfl hΓ rfl ⟨⟨rfl, rfl⟩, ⟨rfl, ?_⟩, trivial⟩ ⟨⟨⟨rfl, rfl, fun _ _ => A.sim.refl _⟩, ⟨rfl, rfl⟩, trivial⟩, trivial⟩ (.inl rfl) rfl ?_; (conv => whnf))
    | (refine W.callF (c2) rfl rfl rfl rfl [(1000, 305)] [] [] rfl rfl hΓ rfl ⟨⟨rfl, rfl⟩, ⟨rfl, ?_⟩, trivial⟩ ⟨⟨⟨rfl, rfl, fun _ _ => A.sim.refl _⟩, ⟨rfl, rfl⟩, trivial⟩, trivial⟩ (.inl rfl) ?_)
    | (refine D.callF ((err_does [] 21)) rfl rfl rfl rfl [(1000, 303)] [] [] rfl rfl hΓ rfl ⟨⟨rfl, rfl⟩, trivial⟩ ⟨⟨⟨rfl, rfl, fun _ _ => A.sim.refl _⟩, ⟨rfl, rfl⟩, trivial⟩, trivial⟩ (.inl rfl) rfl ?_; (conv => whnf))
    | (refine W.callF ((err_does [] 21)) rfl rfl rfl rfl [(1000, 303)] [] [] rfl rfl hΓ rfl ⟨⟨rfl, rfl⟩, trivial⟩ ⟨⟨⟨rfl, rfl, fun _ _ => A.sim.refl _⟩, ⟨rfl, rfl⟩, trivial⟩, trivial⟩ (.inl rfl) ?_)
    | (refine D.callF (c3) rfl rfl rfl rfl [(1000, 303)] [] [] rfl rfl hΓ rfl ⟨⟨rfl, rfl⟩, trivial⟩ ⟨⟨⟨rfl, rfl, fun _ _ => A.sim.refl _⟩, ⟨rfl, rfl⟩, trivial⟩, trivial⟩ (.inl rfl) rfl ?_; (conv => whnf))
    | (refine W.callF (c3) rfl rfl rfl rfl [(1000, 303)] [] [] rfl rfl hΓ rfl ⟨⟨rfl, rfl⟩, trivial⟩ ⟨⟨⟨rfl, rfl, fun _ _ => A.sim.refl _⟩, ⟨rfl, rfl⟩, trivial⟩, trivial⟩ (.inl rfl) ?_)
    | (refine D.callF (c4) rfl rfl rfl rfl [(1000, 303)] [] [] rfl rfl hΓ rfl ⟨⟨rfl, rfl⟩, ⟨rfl, rfl⟩, trivial⟩ ⟨⟨⟨rfl, rfl, fun _ _ => A.sim.refl _⟩, ⟨rfl, rfl⟩, trivial⟩, trivial⟩ (.inl rfl) rfl ?_; (conv => whnf))
    | (refine W.callF (c4) rfl rfl rfl rfl [(1000, 303)] [] [] rfl rfl hΓ rfl ⟨⟨rfl, rfl⟩, ⟨rfl, rfl⟩, trivial⟩ ⟨⟨⟨rfl, rfl, fun _ _ => A.sim.refl _⟩, ⟨rfl, rfl⟩, trivial⟩, trivial⟩ (.inl rfl) ?_)
    | (refine D.callF (c5) rfl rfl rfl rfl [(1000, 303)] [] [] rfl rfl hΓ rfl ⟨⟨rfl, rfl⟩, ⟨rfl, rfl⟩, trivial⟩ ⟨⟨⟨rfl, rfl, fun _ _ => A.sim.refl _⟩, ⟨rfl, rfl⟩, trivial⟩, trivial⟩ (.inl rfl) rfl ?_; (conv => whnf))
    | (refine W.callF (c5) rfl rfl rfl rfl [(1000, 303)] [] [] rfl rfl hΓ rfl ⟨⟨rfl, rfl⟩, ⟨rfl, rfl⟩, trivial⟩ ⟨⟨⟨rfl, rfl, fun _ _ => A.sim.refl _⟩, ⟨rfl, rfl⟩, trivial⟩, trivial⟩ (.inl rfl) ?_)
    | (refine D.callF ((left_does [] 21)) rfl rfl rfl rfl [(1000, 303)] [] [] rfl rfl hΓ rfl ⟨⟨rfl, rfl⟩, trivial⟩ ⟨⟨⟨rfl, rfl, fun _ _ => A.sim.refl _⟩, ⟨rfl, rfl⟩, trivial⟩, trivial⟩ (.inl rfl) rfl ?_; (conv => whnf))
    | (refine W.callF ((left_does [] 21)) rfl rfl rfl rfl [(1000, 303)] [] [] rfl rfl hΓ rfl ⟨⟨rfl, rfl⟩, trivial⟩ ⟨⟨⟨rfl, rfl, fun _ _ => A.sim.refl _⟩, ⟨rfl, rfl⟩, trivial⟩, trivial⟩ (.inl rfl) ?_)
    | (refine D.callF ((err_does [] 22)) rfl rfl rfl rfl [(1000, 305)] [] [] rfl rfl hΓ rfl ⟨⟨rfl, rfl⟩, trivial⟩ ⟨⟨⟨rfl, rfl, fun _ _ => A.sim.refl _⟩, ⟨rfl, rfl⟩, trivial⟩, trivial⟩ (.inl rfl) rfl ?_; (conv => whnf))
    | (refine W.callF ((err_does [] 22)) rfl rfl rfl rfl [(1000, 305)] [] [] rfl rfl hΓ rfl ⟨⟨rfl, rfl⟩, trivial⟩ ⟨⟨⟨rfl, rfl, fun _ _ => A.sim.refl _⟩, ⟨rfl, rfl⟩, trivial⟩, trivial⟩ (.inl rfl) ?_)
    | (refine D.callF ((left_does [] 22)) rfl rfl rfl rfl [(1000, 305)] [] [] rfl rfl hΓ rfl ⟨⟨rfl, rfl⟩, trivial⟩ ⟨⟨⟨rfl, rfl, fun _ _ => A.sim.refl _⟩, ⟨rfl, rfl⟩, trivial⟩, trivial⟩ (.inl rfl) rfl ?_; (conv => whnf))
    | (refine W.callF ((left_does [] 22)) rfl rfl rfl rfl [(1000, 305)] [] [] rfl rfl hΓ rfl ⟨⟨rfl, rfl⟩, trivial⟩ ⟨⟨⟨rfl, rfl, fun _ _ => A.sim.refl _⟩, ⟨rfl, rfl⟩, trivial⟩, trivial⟩ (.inl rfl) ?_)
    | (refine D.callF (c6) rfl rfl rfl rfl [(1000, 305)] [] [] rfl rfl hΓ rfl ⟨⟨rfl, rfl⟩, trivial⟩ ⟨⟨⟨rfl, rfl, fun _ _ => A.sim.refl _⟩, ⟨rfl, rfl⟩, trivial⟩, trivial⟩ (.inl rfl) rfl ?_; (conv => whnf))
    | (refine W.callF (c6) rfl rfl rfl rfl [(1000, 305)] [] [] rfl rfl hΓ rfl ⟨⟨rfl, rfl⟩, trivial⟩ ⟨⟨⟨rfl, rfl, fun _ _ => A.sim.refl _⟩, ⟨rfl, rfl⟩, trivial⟩, trivial⟩ (.inl rfl) ?_)
    | (refine W.go TeOK 87 hΓ 1000 rfl ?_; (conv => whnf); refine ⟨?_, ?_⟩)
    | (refine D.go TeOK 87 hΓ 1000 rfl ?_; (conv => whnf); refine ⟨?_, ?_⟩)
    | (refine W.drawn rfl rfl ?_; refine D.run TeOK 87 hΓ 1000 ?_; (conv => whnf); refine ⟨?_, ?_⟩)
  all_goals try (exact trivial)
  all_goals try (exact rfl)
  all_goals try omega
  all_goals try (first
    | (simp only [allP, List.nil_append, List.append_nil, List.cons_append, List.append_eq, and_true, true_and, inr_i64, inr_u8, inr_u64, A.purePL, A.pureP, A.sureP, A.surePL, Int.toNat_natCast, addI, cHi, cLo, hiN, loN, subO, addO, hasIdx, cond_true, cond_false, hwn, hwm, hrl]; done)
    | (simp only [allP, List.nil_append, List.append_nil, List.cons_append, List.append_eq, and_true, true_and, inr_i64, inr_u8, inr_u64, A.purePL, A.pureP, A.sureP, A.surePL, Int.toNat_natCast, addI, cHi, cLo, hiN, loN, subO, addO, hasIdx, cond_true, cond_false, hwn, hwm, hrl]; omega)
    | (simp only [allP, List.nil_append, List.append_nil, List.cons_append, List.append_eq, and_true, true_and, inr_i64, inr_u8, inr_u64, A.purePL, A.pureP, A.sureP, A.surePL, Int.toNat_natCast, addI, cHi, cLo, hiN, loN, subO, addO, hasIdx, cond_true, cond_false, hwn, hwm, hrl]; (repeat' apply And.intro) <;> first | exact trivial | rfl | omega | decide))
  all_goals first
    | exact fun i _ => hze i
    | (show _ = _; decide +kernel)

theorem binEnds_law (x0 x1 x2 : A) (s0 : Shaped (.slice (.int .u8)) x0) (s1 : Shaped (.int .u8) x1) (s2 : Shaped (.int .u8) x2) : Does Try.prog 5 [x0, x1, x2] [] [] Yes := by
  obtain ⟨a, h0, ha⟩ := Rep.bytes x0 s0
  obtain ⟨n, h1, _⟩ := Rep.byte x1 s1
  obtain ⟨m, h2, _⟩ := Rep.byte x2 s2
  exact Does.args (ys := [bytesA a, VX.byte n, VX.byte m]) ⟨h0, h1, h2, trivial⟩ ⟨s0.pure, s1.pure, s2.pure, trivial⟩ (ends_does a n m ha)

end Go.Proofs.Ytflkdkclmmnocaa
