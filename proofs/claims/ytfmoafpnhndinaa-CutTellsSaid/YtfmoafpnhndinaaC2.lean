/- Walks through functions of the program, and what they come to. -/
import Derived.Test.YtfmoafpnhndinaaC1
import Derived.Test.YtfmoafpnhndinaaVxG
set_option linter.unusedSimpArgs false
set_option linter.unusedVariables false
namespace Go.Proofs.Ytfmoafpnhndinaa
open VX
set_option maxRecDepth 100000
set_option maxHeartbeats 4000000

def ends : List Int := [0, -1, 9223372036854775807, -9223372036854775808, 9223372036854775806, -9223372036854775807]
theorem ends_inr (i : Nat) : inr .i64 (ends.getD i 0) := by
  rw [inr_i64]
  match i with
  | 0 | 1 | 2 | 3 | 4 | 5 => exact ⟨by decide, by decide⟩
  | n + 6 => exact ⟨by simp [ends], by simp [ends]⟩
theorem tells_does (now last n near k j m : Int) (h1 : inr .i64 now) (h2 : inr .i64 last) (h3 : inr .i64 n) (h4 : inr .i64 near) (h5 : inr .u8 k) (h6 : inr .u8 j) (h7 : inr .u8 m) :
    Does Try.prog 3 [.int .i64 now, .int .i64 last, .int .i64 n, .int .i64 near, .int .u8 k, .int .u8 j, .int .u8 m] [] [] Yes := by
  refine Does.intro (fn := Try.f3) Try.func3 rfl rfl fun Γ hΓ => ?_
  refine W.run TwOK 121 hΓ 1000 ?_
  conv => whnf
  refine ⟨trivial, ?_⟩
  refine W.callF (known_does) rfl rfl rfl rfl [] [] [] rfl rfl hΓ rfl trivial trivial (.inl rfl) ?_
  refine W.go TwOK 121 hΓ 1000 rfl ?_; (conv => whnf); refine ⟨?_, ?_⟩
  · trivial
  refine W.branch rfl (fun hb => ?_) (fun hb => ?_)
  · exact Bool.noConfusion hb
  refine W.go TwOK 121 hΓ 1000 rfl ?_; (conv => whnf); refine ⟨?_, ?_⟩
  · simp only [allP, List.nil_append, List.append_nil, List.cons_append, and_true, A.purePL, A.pureP, A.sureP]
  refine W.weak (Weak.via [(22, 22)] (τ' := [(0, .int .i64 now), (1, .int .i64 last), (2, .int .i64 n), (3, .int .i64 near), (4, .int .u8 k), (5, .int .u8 j), (6, .int .u8 m), (15, .own 1 22 0 6)])
     (r' := [(22, some (.arr 1 6 fun i => .int .i64 (ends.getD i 0)))]) (us' := [22]) rfl rfl rfl ?_ ?_) ?_
  · exact ⟨⟨rfl, rfl⟩, ⟨rfl, rfl⟩, ⟨rfl, rfl⟩, ⟨rfl, rfl⟩, ⟨rfl, rfl⟩, ⟨rfl, rfl⟩, ⟨rfl, rfl⟩, ⟨rfl, rfl, rfl, rfl⟩, trivial⟩
  · refine ⟨⟨rfl, Nat.le_refl _, fun i hi => ?_⟩, trivial⟩
    match i, hi with
    | 0, _ | 1, _ | 2, _ | 3, _ | 4, _ | 5, _ => exact A.sim.refl _
  refine W.drawn rfl rfl ?_
  refine D.run TwOK 121 hΓ 1000 ?_
  conv => whnf
  have k0 := h5; have j0 := h6; have m0 := h7
  rw [inr_u8] at k0 j0 m0
  rw [inr_i64] at h3
  have e1 : k.tmod 6 = k % 6 := Int.tmod_eq_emod_of_nonneg k0.1
  have e2 : j.tmod 6 = j % 6 := Int.tmod_eq_emod_of_nonneg j0.1
  have e3 : m.tmod 6 = m % 6 := Int.tmod_eq_emod_of_nonneg m0.1
  have h3' := h3
  rw [← inr_i64] at h3'
  refine ⟨?_, ?_⟩
  repeat' first
    | assumption
    | exact Bool.noConfusion hb
    | exact absurd hb (by decide)
    | (exfalso; simp at hb; done)
    | (refine W.weak (Weak.via [(65, 65)] (τ' := [(0, .int .i64 now), (1, .int .i64 last), (2, .int .i64 n), (3, .int .i64 near), (4, .int .u8 k), (5, .int .u8 j), (6, .int .u8 m), (65, .own 3 65 0 4), (66, .int .i64 4), (67, .int .i64 _)]) (r' := [(65, some (.arr 3 4 _))]) (us' := [65]) rfl rfl rfl ⟨⟨rfl, rfl⟩, ⟨rfl, rfl⟩, ⟨rfl, rfl⟩, ⟨rfl, rfl⟩, ⟨rfl, rfl⟩, ⟨rfl, rfl⟩, ⟨rfl, rfl⟩, ⟨rfl, rfl, rfl, rfl⟩, ⟨rfl, rfl⟩, ⟨rfl, rfl⟩, trivial⟩ ⟨⟨rfl, Nat.le_refl _, fun _ _ => A.sim.refl _⟩, trivial⟩) (W.again (k := .inBlock 0 :: _) ?_))
    | (apply W.atRet (π := []) (r' := []) TwOK; refine ⟨rfl, rfl, rfl, rfl, rfl, ?_, ?_, ?_⟩)
    | (refine W.branch rfl (fun hb => ?_) (fun hb => ?_))
    | (refine D.branch rfl (fun hb => ?_) (fun hb => ?_))
    | (refine D.callF (due_does _ _ _ _ ?_ ?_ ?_ ?_) rfl rfl rfl rfl [] [] [] rfl rfl hΓ rfl ⟨⟨rfl, rfl⟩, ⟨rfl, rfl⟩, ⟨rfl, rfl⟩, ⟨rfl, rfl⟩, trivial⟩ trivial (.inl rfl) rfl ?_; (conv => whnf))
    | (refine W.callF (due_does _ _ _ _ ?_ ?_ ?_ ?_) rfl rfl rfl rfl [] [] [] rfl rfl hΓ rfl ⟨⟨rfl, rfl⟩, ⟨rfl, rfl⟩, ⟨rfl, rfl⟩, ⟨rfl, rfl⟩, trivial⟩ trivial (.inl rfl) ?_)
    | (refine D.callF (cut_does _ _ _ _ ?_ ?_ ?_ ?_) rfl rfl rfl rfl [] [] [] rfl rfl hΓ rfl ⟨⟨rfl, rfl⟩, ⟨rfl, rfl⟩, ⟨rfl, rfl⟩, ⟨rfl, rfl⟩, trivial⟩ trivial (.inl rfl) rfl ?_; (conv => whnf))
    | (refine W.callF (cut_does _ _ _ _ ?_ ?_ ?_ ?_) rfl rfl rfl rfl [] [] [] rfl rfl hΓ rfl ⟨⟨rfl, rfl⟩, ⟨rfl, rfl⟩, ⟨rfl, rfl⟩, ⟨rfl, rfl⟩, trivial⟩ trivial (.inl rfl) ?_)
    | (refine D.callF (rounds_does _ _ ?_) rfl rfl rfl rfl [] [] [] rfl rfl hΓ rfl ⟨⟨rfl, rfl⟩, ⟨rfl, rfl⟩, trivial⟩ trivial (.inl rfl) rfl ?_; (conv => whnf))
    | (refine W.callF (rounds_does _ _ ?_) rfl rfl rfl rfl [] [] [] rfl rfl hΓ rfl ⟨⟨rfl, rfl⟩, ⟨rfl, rfl⟩, trivial⟩ trivial (.inl rfl) ?_)
    | (refine D.callF (refRounds_does _ _ ?_) rfl rfl rfl rfl [] [] [] rfl rfl hΓ rfl ⟨⟨rfl, rfl⟩, ⟨rfl, rfl⟩, trivial⟩ trivial (.inl rfl) rfl ?_; (conv => whnf))
    | (refine W.callF (refRounds_does _ _ ?_) rfl rfl rfl rfl [] [] [] rfl rfl hΓ rfl ⟨⟨rfl, rfl⟩, ⟨rfl, rfl⟩, trivial⟩ trivial (.inl rfl) ?_)
    | (refine W.go TwOK 121 hΓ 1000 rfl ?_; (conv => whnf); refine ⟨?_, ?_⟩)
    | (refine D.go TwOK 121 hΓ 1000 rfl ?_; (conv => whnf); refine ⟨?_, ?_⟩)
    | (refine W.drawn rfl rfl ?_; refine D.run TwOK 121 hΓ 1000 ?_; (conv => whnf); refine ⟨?_, ?_⟩)
    | (refine W.enter ?_)
    | (refine W.again (k := .inBlock 2 :: _) ?_)
  all_goals try exact inr_wrap _ _
  all_goals try exact inr_bits _ _ _ _
  all_goals try exact ends_inr _
  all_goals try assumption
  all_goals try (exact trivial)
  all_goals try simp only [allP, List.nil_append, List.append_nil, List.cons_append, and_true, true_and, A.purePL, A.pureP, A.sureP, A.surePL, all_2, all_3, all_4]
  all_goals try ((repeat' apply And.intro) <;> (first | exact trivial | rfl | decide | omega | (simp only [addI]; omega)))
  all_goals try simp only [wrap_u8, wrap_i64, inr_i64, inr_u8, Yes, decide_eq_true_eq, decide_eq_false_iff_not, addI]
  all_goals try omega
  all_goals ((repeat' split) <;> omega)
theorem cutTells_law (x0 x1 x2 x3 x4 x5 x6 : A) (s0 : Shaped (.int .i64) x0) (s1 : Shaped (.int .i64) x1) (s2 : Shaped (.int .i64) x2) (s3 : Shaped (.int .i64) x3) (s4 : Shaped (.int .u8) x4) (s5 : Shaped (.int .u8) x5) (s6 : Shaped (.int .u8) x6) : Does Try.prog 3 [x0, x1, x2, x3, x4, x5, x6] [] [] Yes := by
  obtain ⟨n0, rfl, h0⟩ := s0
  obtain ⟨n1, rfl, h1⟩ := s1
  obtain ⟨n2, rfl, h2⟩ := s2
  obtain ⟨n3, rfl, h3⟩ := s3
  obtain ⟨n4, rfl, h4⟩ := s4
  obtain ⟨n5, rfl, h5⟩ := s5
  obtain ⟨n6, rfl, h6⟩ := s6
  exact tells_does n0 n1 n2 n3 n4 n5 n6 h0 h1 h2 h3 h4 h5 h6
end Go.Proofs.Ytfmoafpnhndinaa
