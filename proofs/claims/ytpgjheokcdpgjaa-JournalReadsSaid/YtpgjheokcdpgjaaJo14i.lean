/- Walks: records of few numbers. -/
import Derived.Test.YtpgjheokcdpgjaaJo14h
import Derived.Test.YtpgjheokcdpgjaaPlB
import Derived.Test.YtpgjheokcdpgjaaVxI
set_option linter.unusedSimpArgs false
set_option linter.unusedVariables false
namespace Go.Proofs.Ytpgjheokcdpgjaa
open VX
set_option maxRecDepth 100000
set_option maxHeartbeats 4000000
theorem qJo14i1 {P : Prop} (h : P := by first | exact qcl0 | exact w4 | exact w2 | exact w3 | (rw [w1]; omega) | (simp only [w1]; omega) | exact qsm0) : P := h
theorem qJo14i3 {P : Prop} (h : P := by
  refine Does.intro (fn := Try.f7) Try.func7 rfl rfl fun Γ hΓ => ?_
  refine W.run TOK 39 hΓ 1000 ?_
  conv => whnf
  refine ⟨?_, ?_⟩
  repeat' first
    | assumption
    | exact Bool.noConfusion hb
    | exact absurd hb (by decide)
    | (exfalso; omega)
    | (exfalso; rw [w1] at hb; omega)
    | (exfalso; simp at hb; done)
    | (refine W.retA TOK rfl ?_; (conv => whnf); refine ⟨rfl, rfl, rfl, rfl, rfl, rfl, ?_, ?_, ?_⟩)
    | (refine W.branch rfl (fun hb => ?_) (fun hb => ?_) <;> ((try simp only [qhb, addI, reduceCtorEq, Int.reduceToNat] at hb); (try replace hb := of_decide_eq_true hb); (try replace hb := of_decide_eq_false hb)))
    | (refine W.go TOK 39 hΓ 1000 rfl ?_; (conv => whnf); refine ⟨?_, ?_⟩)
  all_goals (repeat' apply And.intro)
  all_goals try exact qJo14i1) : P := h
theorem some_does (k a q : Int) (u : Upd) (hk : 0 ≤ k ∧ k ≤ 255) (ha : 0 ≤ a ∧ a ≤ 255) : Does Try.prog 7 [.int .u8 k, .int .u8 a, .int .i64 q, updA u] [] [] (Is (recA (someS k a q u)) []) := by
  have w1 : IntKind.i64.wrap (k % 3) = k % 3 := wrap_i64_in (by omega) (by omega)
  have w2 : IntKind.i64.wrap a = a := wrap_i64_in (by omega) (by omega)
  have w3 : IntKind.i64.wrap (a % 34) = a % 34 := wrap_i64_in (by omega) (by omega)
  unfold someS sq16
  by_cases h0 : k % 3 = 0
  · rw [if_pos h0]
    have w4 : IntKind.i64.wrap (k % 3) + 1 = 1 := by rw [w1]; omega
    exact qJo14i3
  rw [if_neg h0]
  by_cases h1 : k % 3 = 1
  · rw [if_pos h1]
    have w4 : IntKind.i64.wrap (k % 3) + 1 = 2 := by rw [w1]; omega
    exact qJo14i3
  · rw [if_neg h1]
    have w4 : IntKind.i64.wrap (k % 3) + 1 = 3 := by rw [w1]; omega
    exact qJo14i3
theorem records_does (r : Rec) : Does Try.prog 21 [.ro 12 1 (fun _ => recA r), .ro 12 1 (fun _ => recA r)] [] [] (Is (.bool true) []) := by
  refine Does.intro (fn := Try.f21) Try.func21 rfl rfl fun Γ hΓ => ?_
  refine W.run TOK 26 hΓ 1000 ?_
  conv => whnf
  refine ⟨?_, ?_⟩
  repeat' first
    | assumption
    | exact Bool.noConfusion hb
    | exact absurd hb (by decide)
    | (exfalso; omega)
    | ((first | refine W.branch rfl (fun hb => ?_) (fun hb => ?_) | refine D.branch rfl (fun hb => ?_) (fun hb => ?_)) <;> ((try simp only [qhb, addI, reduceCtorEq, Int.reduceToNat] at hb); (try replace hb := of_decide_eq_true hb); (try replace hb := of_decide_eq_false hb)))
    | (refine W.go TOK 26 hΓ 1000 rfl ?_; (conv => whnf); refine ⟨?_, ?_⟩)
    | (refine D.go TOK 26 hΓ 1000 rfl ?_; (conv => whnf); refine ⟨?_, ?_⟩)
    | (refine W.drawn rfl rfl ?_; refine D.run TOK 26 hΓ 1000 ?_; (conv => whnf); refine ⟨?_, ?_⟩)
  all_goals (repeat' apply And.intro)
  all_goals try exact qcs0
  refine W.loopA (Nat) (fun i => i ≤ 1) (fun i => 1 - i) (fun i => [(5, .int .i64 (i : Nat))]) (fun _ => []) [] (0) (Nat.zero_le _) ?_
  (conv => whnf); refine ⟨?_, ?_⟩; focus ((conv => whnf); refine ⟨rfl, rfl, rfl, rfl, rfl, rfl, ?_, ?_⟩; iterate 2 exact qlf1)
  rintro i hi ih
  by_cases hil : i < 1
  rotate_left
  · clear ih
    repeat' first
      | assumption
      | exact Bool.noConfusion hb
      | exact absurd hb (by decide)
      | (exfalso; omega)
      | (refine W.retA TOK rfl ?_; (conv => whnf); refine ⟨rfl, rfl, rfl, rfl, rfl, rfl, ?_, ?_, ?_⟩)
      | ((first | refine W.branch rfl (fun hb => ?_) (fun hb => ?_) | refine D.branch rfl (fun hb => ?_) (fun hb => ?_)) <;> ((try simp only [qhb, addI, reduceCtorEq, Int.reduceToNat] at hb); (try replace hb := of_decide_eq_true hb); (try replace hb := of_decide_eq_false hb)))
      | (refine W.go TOK 26 hΓ 1000 rfl ?_; (conv => whnf); refine ⟨?_, ?_⟩)
      | (refine D.go TOK 26 hΓ 1000 rfl ?_; (conv => whnf); refine ⟨?_, ?_⟩)
      | (refine W.drawn rfl rfl ?_; refine D.run TOK 26 hΓ 1000 ?_; (conv => whnf); refine ⟨?_, ?_⟩)
    all_goals (repeat' apply And.intro)
    all_goals try exact qcs0
  have h0 : i = 0 := by omega
  subst h0
  have ih2 := ih 1 (Nat.le_refl _) (by decide)
  clear ih
  repeat' first
    | assumption
    | exact Bool.noConfusion hb
    | exact absurd hb (by decide)
    | (exfalso; omega)
    | (exfalso; simp at hb; done)
    | (refine W.toA (ih2) ?_; rotate_left 0; (conv => whnf); refine ⟨rfl, rfl, rfl, rfl, rfl, rfl, ?_, ?_⟩; iterate 2 exact qlf1)
    | ((first | refine W.branch rfl (fun hb => ?_) (fun hb => ?_) | refine D.branch rfl (fun hb => ?_) (fun hb => ?_)) <;> ((try simp only [qhb, addI, reduceCtorEq, Int.reduceToNat] at hb); (try replace hb := of_decide_eq_true hb); (try replace hb := of_decide_eq_false hb)))
    | (refine W.go TOK 26 hΓ 1000 rfl ?_; (conv => whnf); refine ⟨?_, ?_⟩)
    | (refine D.go TOK 26 hΓ 1000 rfl ?_; (conv => whnf); refine ⟨?_, ?_⟩)
    | (refine W.drawn rfl rfl ?_; refine D.run TOK 26 hΓ 1000 ?_; (conv => whnf); refine ⟨?_, ?_⟩)
  all_goals (repeat' apply And.intro)
  all_goals try exact qcs0

end Go.Proofs.Ytpgjheokcdpgjaa
