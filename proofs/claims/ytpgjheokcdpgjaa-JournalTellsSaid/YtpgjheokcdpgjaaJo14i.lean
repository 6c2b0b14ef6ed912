/- Walks: records of few numbers. -/
import Derived.Test.YtpgjheokcdpgjaaJo14h
import Derived.Test.YtpgjheokcdpgjaaPlB
import Derived.Test.YtpgjheokcdpgjaaVxI
set_option linter.unusedSimpArgs false
set_option linter.unusedVariables false
namespace Go.Proofs.Ytpgjheokcdpgjaa
open VX
set_option maxRecDepth 100000
set_option maxHeartbeats 4000000
theorem qJo14i1 {P : Prop} (h : P := by first | exact qcl0 | exact w4 | exact w2 | exact w3 | (rw [w1]; omega) | (simp only [w1]; omega) | exact qsm0) : P := h
theorem qJo14i2 {P : Prop} (h : P := by
  refine Does.intro (fn := Try.f10) Try.func10 rfl rfl fun Γ hΓ => ?_
  refine W.run TOK 41 hΓ 1000 ?_
  conv => whnf
  refine ⟨?_, ?_⟩
  repeat' first
    | assumption
    | exact Bool.noConfusion hb
    | exact absurd hb (by decide)
    | (exfalso; omega)
    | (exfalso; simp at hb; done)
    | (refine W.retA TOK rfl ?_; (conv => whnf); refine ⟨rfl, rfl, rfl, rfl, rfl, rfl, ?_, ?_, ?_⟩)
    | (refine W.branch rfl (fun hb => ?_) (fun hb => ?_) <;> ((try simp only [qhb, addI, reduceCtorEq, Int.reduceToNat] at hb); (try replace hb := of_decide_eq_true hb); (try replace hb := of_decide_eq_false hb)))
    | (refine W.go TOK 41 hΓ 1000 rfl ?_; (conv => whnf); refine ⟨?_, ?_⟩)
  all_goals (repeat' apply And.intro)
  all_goals try exact qcs0) : P := h
theorem qJo14i3 {P : Prop} (h : P := by
  refine Does.intro (fn := Try.f7) Try.func7 rfl rfl fun Γ hΓ => ?_
  refine W.run TOK 39 hΓ 1000 ?_
  conv => whnf
  refine ⟨?_, ?_⟩
  repeat' first
    | assumption
    | exact Bool.noConfusion hb
    | exact absurd hb (by decide)
    | (exfalso; omega)
    | (exfalso; rw [w1] at hb; omega)
    | (exfalso; simp at hb; done)
    | (refine W.retA TOK rfl ?_; (conv => whnf); refine ⟨rfl, rfl, rfl, rfl, rfl, rfl, ?_, ?_, ?_⟩)
    | (refine W.branch rfl (fun hb => ?_) (fun hb => ?_) <;> ((try simp only [qhb, addI, reduceCtorEq, Int.reduceToNat] at hb); (try replace hb := of_decide_eq_true hb); (try replace hb := of_decide_eq_false hb)))
    | (refine W.go TOK 39 hΓ 1000 rfl ?_; (conv => whnf); refine ⟨?_, ?_⟩)
  all_goals (repeat' apply And.intro)
  all_goals try exact qJo14i1) : P := h
theorem some_does (k a q : Int) (u : Upd) (hk : 0 ≤ k ∧ k ≤ 255) (ha : 0 ≤ a ∧ a ≤ 255) : Does Try.prog 7 [.int .u8 k, .int .u8 a, .int .i64 q, updA u] [] [] (Is (recA (someS k a q u)) []) := by
  have w1 : IntKind.i64.wrap (k % 3) = k % 3 := wrap_i64_in (by omega) (by omega)
  have w2 : IntKind.i64.wrap a = a := wrap_i64_in (by omega) (by omega)
  have w3 : IntKind.i64.wrap (a % 34) = a % 34 := wrap_i64_in (by omega) (by omega)
  unfold someS sq16
  by_cases h0 : k % 3 = 0
  · rw [if_pos h0]
    have w4 : IntKind.i64.wrap (k % 3) + 1 = 1 := by rw [w1]; omega
    exact qJo14i3
  rw [if_neg h0]
  by_cases h1 : k % 3 = 1
  · rw [if_pos h1]
    have w4 : IntKind.i64.wrap (k % 3) + 1 = 2 := by rw [w1]; omega
    exact qJo14i3
  · rw [if_neg h1]
    have w4 : IntKind.i64.wrap (k % 3) + 1 = 3 := by rw [w1]; omega
    exact qJo14i3
theorem bent_does (r : Rec) (w v : Int) (hw : 0 ≤ w ∧ w ≤ 255) : Does Try.prog 10 [recA r, .int .u8 w, .int .i64 v] [] [] (Is (recA (bentS r w v)) []) := by
  unfold bentS
  by_cases h0 : w % 8 = 0
  · rw [if_pos h0]
    exact qJo14i2
  rw [if_neg h0]
  by_cases h1 : w % 8 = 1
  · rw [if_pos h1]
    exact qJo14i2
  rw [if_neg h1]
  by_cases h2 : w % 8 = 2
  · rw [if_pos h2]
    exact qJo14i2
  rw [if_neg h2]
  by_cases h3 : w % 8 = 3
  · rw [if_pos h3]
    exact qJo14i2
  rw [if_neg h3]
  by_cases h4 : w % 8 = 4
  · rw [if_pos h4]
    exact qJo14i2
  rw [if_neg h4]
  by_cases h5 : w % 8 = 5
  · rw [if_pos h5]
    exact qJo14i2
  rw [if_neg h5]
  by_cases h6 : w % 8 = 6
  · rw [if_pos h6]
    exact qJo14i2
  rw [if_neg h6]
  exact qJo14i2

end Go.Proofs.Ytpgjheokcdpgjaa
