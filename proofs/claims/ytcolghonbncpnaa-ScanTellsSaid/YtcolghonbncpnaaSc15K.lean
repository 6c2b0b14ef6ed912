/- Walks: a journal's records. -/
import Derived.Test.YtcolghonbncpnaaSc15V
import Derived.Test.YtcolghonbncpnaaPlB
import Derived.Test.YtcolghonbncpnaaVxI
set_option linter.unusedSimpArgs false
set_option linter.unusedVariables false
namespace Go.Proofs.Ytcolghonbncpnaa
open VX
set_option maxRecDepth 100000
set_option maxHeartbeats 4000000
theorem qSc15K1 {P : Prop} (h : P := by (focus ((repeat' apply And.intro) <;> first | exact qlf0 | exact ⟨rfl, rfl, rfl⟩ | exact ⟨rfl, rfl, rfl, rfl, ⟨rfl, rfl⟩⟩ | ((repeat' apply And.intro) <;> rfl)))) : P := h
theorem qSc15K2 {P : Prop} (h : P := by first | exact qcl0 | exact qsm0 | exact decide_eq_true (by omega) | exact decide_eq_false (by omega)) : P := h
theorem qSc15K3 {P : Prop} (h : P := by
  rw [e]
  refine Does.intro (fn := Try.f32) Try.func32 rfl rfl fun Γ hΓ => ?_
  refine W.run TOK 94 hΓ 1000 ?_
  conv => whnf
  refine ⟨?_, ?_⟩
  repeat' first
    | assumption
    | exact Bool.noConfusion hb
    | exact absurd hb (by decide)
    | (exfalso; omega)
    | (exfalso; simp at hb; done)
    | (exfalso; clear hΓ; simp_all; done)
    | (refine W.retA TOK rfl ?_; (conv => whnf); refine ⟨rfl, rfl, rfl, rfl, rfl, rfl, ?_, ?_, ?_⟩)
    | ((first | refine W.branch rfl (fun hb => ?_) (fun hb => ?_) | refine D.branch rfl (fun hb => ?_) (fun hb => ?_)) <;> ((try simp only [qhb, addI, reduceCtorEq, Int.reduceToNat] at hb); (try replace hb := of_decide_eq_true hb); (try replace hb := of_decide_eq_false hb)))
    | ((first | (refine D.callA (cu) rfl rfl rfl rfl hΓ rfl ?_; (conv => whnf); refine ⟨rfl, rfl, rfl, ?_, ?_, ?_, ?_⟩) | (refine W.callA (cu) rfl rfl rfl rfl hΓ rfl ?_; (conv => whnf); refine ⟨rfl, rfl, ?_, ?_, ?_, ?_⟩)); iterate 3 exact qSc15K1; (conv => whnf))
    | (refine W.go TOK 94 hΓ 1000 rfl ?_; (conv => whnf); refine ⟨?_, ?_⟩)
    | (refine D.go TOK 94 hΓ 1000 rfl ?_; (conv => whnf); refine ⟨?_, ?_⟩)
    | (refine W.drawn rfl rfl ?_; refine D.run TOK 94 hΓ 1000 ?_; (conv => whnf); refine ⟨?_, ?_⟩)
  all_goals (repeat' apply And.intro)
  all_goals try exact qSc15K2) : P := h
theorem rjright_does (r : Rec) : Does Try.prog 32 [recA r] [] [] (Is (.bool (rightS r)) []) := by
  have cu := rupdright_does r.u
  by_cases hq : 0 ≤ r.seq ∧ r.seq ≤ 1152921504606846976
  rotate_left
  · have e : rightS r = false := by
      rw [Bool.eq_false_iff]
      intro h
      unfold rightS tickR at h
      simp only [Bool.and_eq_true, decide_eq_true_eq] at h
      omega
    exact qSc15K3
  have hs : tickR r.seq = true := decide_eq_true hq
  by_cases k1 : r.kind = 1
  · by_cases hz : r.u = default ∧ r.tick = 0 ∧ r.epoch = 0
    · by_cases hc : (0 ≤ r.gen ∧ r.gen ≤ 1152921504606846976) ∧ 0 ≤ r.count ∧ r.count ≤ 32
      · have e : rightS r = true := by
          rw [right1 hs k1]
          unfold tickR
          rw [decide_eq_true hc.1, decide_eq_true hc.2, decide_eq_true hz]
          rfl
        rw [updD] at hz
        exact qSc15K3
      · have e : rightS r = false := by
          rw [right1 hs k1, Bool.eq_false_iff]
          intro h
          simp only [Bool.and_eq_true, decide_eq_true_eq, tickR] at h
          omega
        rw [updD] at hz
        exact qSc15K3
    · have e : rightS r = false := by
        rw [right1 hs k1, Bool.eq_false_iff]
        intro h
        simp only [Bool.and_eq_true, decide_eq_true_eq, tickR] at h
        exact hz h.2.2
      rw [updD] at hz
      exact qSc15K3
  by_cases k2 : r.kind = 2
  · by_cases hz : r.gen = 0 ∧ r.count = 0 ∧ r.epoch = 0
    · generalize hu : updRight r.u = bu at cu
      cases bu with
      | false =>
        have e : rightS r = false := by
          rw [right2 hs k2, Bool.eq_false_iff]
          intro h
          simp only [Bool.and_eq_true, decide_eq_true_eq, tickR] at h
          rw [hu] at h; exact Bool.noConfusion h.1
        rw [e]
        refine Does.intro (fn := Try.f32) Try.func32 rfl rfl fun Γ hΓ => ?_
        refine W.run TOK 94 hΓ 1000 ?_
        conv => whnf
        refine ⟨?_, ?_⟩
        repeat' first
          | assumption
          | exact Bool.noConfusion hb
          | exact absurd hb (by decide)
          | (exfalso; omega)
          | (exfalso; simp at hb; done)
          | (exfalso; clear hΓ; simp_all; done)
          | (refine W.retA TOK rfl ?_; (conv => whnf); refine ⟨rfl, rfl, rfl, rfl, rfl, rfl, ?_, ?_, ?_⟩)
          | ((first | refine W.branch rfl (fun hb => ?_) (fun hb => ?_) | refine D.branch rfl (fun hb => ?_) (fun hb => ?_)) <;> ((try simp only [qhb, addI, reduceCtorEq, Int.reduceToNat] at hb); (try replace hb := of_decide_eq_true hb); (try replace hb := of_decide_eq_false hb)))
          | ((first | (refine D.callA (cu) rfl rfl rfl rfl hΓ rfl ?_; (conv => whnf); refine ⟨rfl, rfl, rfl, ?_, ?_, ?_, ?_⟩) | (refine W.callA (cu) rfl rfl rfl rfl hΓ rfl ?_; (conv => whnf); refine ⟨rfl, rfl, ?_, ?_, ?_, ?_⟩)); iterate 3 exact qSc15K1; (conv => whnf))
          | (refine W.go TOK 94 hΓ 1000 rfl ?_; (conv => whnf); refine ⟨?_, ?_⟩)
          | (refine D.go TOK 94 hΓ 1000 rfl ?_; (conv => whnf); refine ⟨?_, ?_⟩)
          | (refine W.drawn rfl rfl ?_; refine D.run TOK 94 hΓ 1000 ?_; (conv => whnf); refine ⟨?_, ?_⟩)
        all_goals (repeat' apply And.intro)
        all_goals try exact qSc15K2
      | true =>
        by_cases hc : 0 ≤ r.tick ∧ r.tick ≤ 1152921504606846976
        · have e : rightS r = true := by
            rw [right2 hs k2, hu]
            unfold tickR
            rw [decide_eq_true hc, decide_eq_true hz]
            rfl
          exact qSc15K3
        · have e : rightS r = false := by
            rw [right2 hs k2, Bool.eq_false_iff]
            intro h
            simp only [Bool.and_eq_true, decide_eq_true_eq, tickR] at h
            omega
          exact qSc15K3
    · have e : rightS r = false := by
        rw [right2 hs k2, Bool.eq_false_iff]
        intro h
        simp only [Bool.and_eq_true, decide_eq_true_eq, tickR] at h
        exact hz h.2.2
      exact qSc15K3
  by_cases k3 : r.kind = 3
  · by_cases hz : r.gen = 0 ∧ r.count = 0 ∧ r.u = default ∧ r.tick = 0
    · by_cases hc : 1 ≤ r.epoch ∧ r.epoch ≤ 1073741824
      · have e : rightS r = true := by
          rw [right3 hs k3]
          rw [decide_eq_true hc, decide_eq_true hz]
          rfl
        rw [updD] at hz
        exact qSc15K3
      · have e : rightS r = false := by
          rw [right3 hs k3, Bool.eq_false_iff]
          intro h
          simp only [Bool.and_eq_true, decide_eq_true_eq, tickR] at h
          omega
        rw [updD] at hz
        exact qSc15K3
    · have e : rightS r = false := by
        rw [right3 hs k3, Bool.eq_false_iff]
        intro h
        simp only [Bool.and_eq_true, decide_eq_true_eq, tickR] at h
        exact hz h.2
      rw [updD] at hz
      exact qSc15K3
  have e : rightS r = false := by
    unfold rightS; rw [if_neg k1, if_neg k2, if_neg k3, Bool.and_false]
  exact qSc15K3

end Go.Proofs.Ytcolghonbncpnaa
