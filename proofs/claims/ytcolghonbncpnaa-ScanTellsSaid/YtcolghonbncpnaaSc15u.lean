/- Walk: a request of few numbers. -/
import Derived.Test.YtcolghonbncpnaaSc15m
import Derived.Test.YtcolghonbncpnaaPlB
import Derived.Test.YtcolghonbncpnaaVxI
set_option linter.unusedSimpArgs false
set_option linter.unusedVariables false
namespace Go.Proofs.Ytcolghonbncpnaa
open VX
set_option maxRecDepth 100000
set_option maxHeartbeats 4000000
theorem qSc15u1 {P : Prop} (h : P := by (focus ((repeat' apply And.intro) <;> first | exact qlf0 | exact ⟨rfl, rfl, rfl⟩ | exact ⟨rfl, rfl, rfl, rfl, ⟨rfl, rfl⟩⟩ | ((repeat' apply And.intro) <;> rfl) | exact wc | exact hmx | exact decide_eq_true h6 | exact decide_eq_false h6 | exact decide_eq_true h1 | exact decide_eq_false h1 | exact congrArg A.bool (decide_eq_true h6) | exact congrArg A.bool (decide_eq_false h6)))) : P := h
theorem qSc15u2 {P : Prop} (h : P := by first | exact qcl0 | exact wc | exact hmx | exact qsm0) : P := h
theorem qSc15u3 {P : Prop} (h : P := by
  refine Does.intro (fn := Try.f21) Try.func21 rfl rfl fun Γ hΓ => ?_
  refine W.run TOK 49 hΓ 1000 ?_
  conv => whnf
  refine ⟨?_, ?_⟩
  repeat' first
    | assumption
    | exact Bool.noConfusion hb
    | exact absurd hb (by decide)
    | (exfalso; omega)
    | (exfalso; simp at hb; done)
    | exact absurd h6 hb
    | exact absurd hb h6
    | exact absurd h1 hb
    | exact absurd hb h1
    | (refine W.retA TOK rfl ?_; (conv => whnf); refine ⟨rfl, rfl, rfl, rfl, rfl, rfl, ?_, ?_, ?_⟩)
    | (refine W.branch rfl (fun hb => ?_) (fun hb => ?_) <;> ((try simp only [qhb, addI, reduceCtorEq, Int.reduceToNat] at hb); (try replace hb := of_decide_eq_true hb); (try replace hb := of_decide_eq_false hb)))
    | (refine W.callA (ck) rfl rfl rfl rfl hΓ rfl ?_; (conv => whnf); refine ⟨rfl, rfl, ?_, ?_, ?_, ?_⟩; iterate 3 exact qSc15u1; (conv => whnf))
    | (refine W.callA (cb) rfl rfl rfl rfl hΓ rfl ?_; (conv => whnf); refine ⟨rfl, rfl, ?_, ?_, ?_, ?_⟩; iterate 3 exact qSc15u1; (conv => whnf))
    | (refine W.callA (cs) rfl rfl rfl rfl hΓ rfl ?_; (conv => whnf); refine ⟨rfl, rfl, ?_, ?_, ?_, ?_⟩; iterate 3 exact qSc15u1; (conv => whnf))
    | (refine W.go TOK 49 hΓ 1000 rfl ?_; (conv => whnf); refine ⟨?_, ?_⟩)
  all_goals (repeat' apply And.intro)
  all_goals try exact qSc15u2) : P := h
theorem sup_does (s : List UInt8) (v c h : Int) (h9 : s.length ≤ 100000) (hv : 1 ≤ v ∧ v ≤ 2000000000) (hc : inr .u8 c) (hh : inr .u8 h) : Does Try.prog 21 [.str s, .int .i64 v, .int .u8 c, .int .u8 h] [] [] (Is (updA (updN s v c h)) []) := by
  have hc1 := inr_u8.1 hc
  have hh1 := inr_u8.1 hh
  have wc : IntKind.i64.wrap (c % 2) = c % 2 := wrap_i64_in (by omega) (by omega)
  have cb := secret_does s (mxv v) (decide (h % 8 = 6 ∧ v = 1)) h9
  have hmx : (if v - 1 < 1 then (1 : Int) else v - 1) = mxv v := rfl
  have ck := key_does s v (decide (h % 8 = 6)) h9
  have cs := rusign_does (byS s v h) ⟨s, v, keyS s v (decide (h % 8 = 6)), c % 2, 0, 0⟩ (byS_ok _ _ _) h9 (by show 0 ≤ v ∧ v ≤ _; omega) (keyS_ok _ _ _)
  have hby0 := inr_u64.1 (secS_ok s (mxv v) (decide (h % 8 = 6 ∧ v = 1)))
  unfold updN
  rw [show sgnU (byS s v h) ⟨s, v, keyS s v (decide (h % 8 = 6)), c % 2, 0, 0⟩ = upd1 s v c h from rfl] at cs
  have hst : ({ upd1 s v c h with cls := 5 } : Upd) = ⟨(upd1 s v c h).name, (upd1 s v c h).ver, (upd1 s v c h).key, 5, (upd1 s v c h).r, (upd1 s v c h).s⟩ := rfl
  rw [hst]
  clear hst
  generalize upd1 s v c h = u9 at cs ⊢
  by_cases h6 : h % 8 = 6
  · have n5 : ¬ h % 8 = 5 := by omega
    have n7 : ¬ h % 8 = 7 := by omega
    rw [if_neg n7]
    rw [show byS s v h = secS s (mxv v) (decide (h % 8 = 6 ∧ v = 1)) from if_neg n5] at cs
    rw [decide_eq_true h6] at ck cs
    by_cases h1 : v = 1
    · rw [decide_eq_true (show h % 8 = 6 ∧ v = 1 from ⟨h6, h1⟩)] at cb cs hby0
      generalize keyS s v true = k9 at *
      generalize secS s (mxv v) true = s9 at *
      exact qSc15u3
    · rw [decide_eq_false (show ¬ (h % 8 = 6 ∧ v = 1) from fun q => h1 q.2)] at cb cs hby0
      generalize keyS s v true = k9 at *
      generalize secS s (mxv v) false = s9 at *
      exact qSc15u3
  rw [decide_eq_false h6] at ck cs
  rw [decide_eq_false (show ¬ (h % 8 = 6 ∧ v = 1) from fun q => h6 q.1)] at cb hby0
  generalize keyS s v false = k9 at *
  by_cases h5 : h % 8 = 5
  · have n7 : ¬ h % 8 = 7 := by omega
    rw [if_neg n7]
    rw [show byS s v h = IntKind.u64.wrap (secS s (mxv v) false + 3) by unfold byS; rw [if_pos h5, decide_eq_false (fun q => h6 q.1)]] at cs
    generalize secS s (mxv v) false = s9 at *
    exact qSc15u3
  rw [show byS s v h = secS s (mxv v) false by unfold byS; rw [if_neg h5, decide_eq_false (fun q => h6 q.1)]] at cs
  generalize secS s (mxv v) false = s9 at *
  by_cases h7 : h % 8 = 7
  · rw [if_pos h7]
    exact qSc15u3
  · rw [if_neg h7]
    exact qSc15u3
end Go.Proofs.Ytcolghonbncpnaa
