/- Walks: a journal's records. -/
import Derived.Test.YtcolghonbncpnaaSc15V
import Derived.Test.YtcolghonbncpnaaPlB
import Derived.Test.YtcolghonbncpnaaVxI
set_option linter.unusedSimpArgs false
set_option linter.unusedVariables false
namespace Go.Proofs.Ytcolghonbncpnaa
open VX
set_option maxRecDepth 100000
set_option maxHeartbeats 4000000
theorem qSc15J1 {P : Prop} (h : P := by (focus ((repeat' apply And.intro) <;> first | exact qlf0 | exact ⟨rfl, rfl, rfl⟩ | exact ⟨rfl, rfl, rfl, rfl, ⟨rfl, rfl⟩⟩ | ((repeat' apply And.intro) <;> rfl)))) : P := h
theorem qSc15J2 {P : Prop} (h : P := by first | exact qcl0 | exact qsm0 | exact decide_eq_false (by omega)) : P := h
theorem qSc15J3 {P : Prop} (h : P := by
  refine Does.intro (fn := Try.f81) Try.func81 rfl rfl fun Γ hΓ => ?_
  refine W.run TOK 9 hΓ 1000 ?_
  conv => whnf
  refine ⟨?_, ?_⟩
  repeat' first
    | assumption
    | exact Bool.noConfusion hb
    | exact absurd hb (by decide)
    | (exfalso; omega)
    | (refine W.retA TOK rfl ?_; (conv => whnf); refine ⟨rfl, rfl, rfl, rfl, rfl, rfl, ?_, ?_, ?_⟩)
    | (refine W.branch rfl (fun hb => ?_) (fun hb => ?_) <;> ((try simp only [qhb, addI, reduceCtorEq, Int.reduceToNat] at hb); (try replace hb := of_decide_eq_true hb); (try replace hb := of_decide_eq_false hb)))
    | (refine W.go TOK 9 hΓ 1000 rfl ?_; (conv => whnf); refine ⟨?_, ?_⟩)
  all_goals (repeat' apply And.intro)
  all_goals try exact qSc15J2) : P := h
theorem jtick_does (n : Int) : Does Try.prog 81 [.int .i64 n] [] [] (Is (.bool (tickR n)) []) := by
  unfold tickR
  by_cases h1 : 0 ≤ n
  · by_cases h2 : n ≤ 1152921504606846976
    · rw [decide_eq_true ⟨h1, h2⟩]
      refine Does.intro (fn := Try.f81) Try.func81 rfl rfl fun Γ hΓ => ?_
      refine W.run TOK 9 hΓ 1000 ?_
      conv => whnf
      refine ⟨?_, ?_⟩
      repeat' first
        | assumption
        | exact Bool.noConfusion hb
        | exact absurd hb (by decide)
        | (exfalso; omega)
        | (refine W.retA TOK rfl ?_; (conv => whnf); refine ⟨rfl, rfl, rfl, rfl, rfl, rfl, ?_, ?_, ?_⟩)
        | (refine W.branch rfl (fun hb => ?_) (fun hb => ?_) <;> ((try simp only [qhb, addI, reduceCtorEq, Int.reduceToNat] at hb); (try replace hb := of_decide_eq_true hb); (try replace hb := of_decide_eq_false hb)))
        | (refine W.go TOK 9 hΓ 1000 rfl ?_; (conv => whnf); refine ⟨?_, ?_⟩)
      all_goals (repeat' apply And.intro)
      all_goals try first | exact qcl0 | exact qsm0 | exact decide_eq_true (by omega)
    · rw [decide_eq_false (fun h => h2 h.2)]
      exact qSc15J3
  · rw [decide_eq_false (fun h => h1 h.1)]
    exact qSc15J3
theorem jright_does (r : Rec) : Does Try.prog 64 [recA r] [] [] (Is (.bool (rightS r)) []) := by
  have cs := jtick_does r.seq
  have cg := jtick_does r.gen
  have ct := jtick_does r.tick
  have cu := updright_does r.u
  cases hs : tickR r.seq with
  | false =>
    rw [hs] at cs
    rw [show rightS r = false by unfold rightS; rw [hs]; rfl]
    refine Does.intro (fn := Try.f64) Try.func64 rfl rfl fun Γ hΓ => ?_
    refine W.run TOK 69 hΓ 1000 ?_
    conv => whnf
    refine ⟨?_, ?_⟩
    repeat' first
      | assumption
      | exact Bool.noConfusion hb
      | exact absurd hb (by decide)
      | (exfalso; omega)
      | (exfalso; simp at hb; done)
      | (refine W.retA TOK rfl ?_; (conv => whnf); refine ⟨rfl, rfl, rfl, rfl, rfl, rfl, ?_, ?_, ?_⟩)
      | (refine W.branch rfl (fun hb => ?_) (fun hb => ?_) <;> ((try simp only [qhb, addI, reduceCtorEq, Int.reduceToNat] at hb); (try replace hb := of_decide_eq_true hb); (try replace hb := of_decide_eq_false hb)))
      | (refine W.callA (cs) rfl rfl rfl rfl hΓ rfl ?_; (conv => whnf); refine ⟨rfl, rfl, ?_, ?_, ?_, ?_⟩; iterate 3 exact qSc15J1; (conv => whnf))
      | (refine W.callA (cg) rfl rfl rfl rfl hΓ rfl ?_; (conv => whnf); refine ⟨rfl, rfl, ?_, ?_, ?_, ?_⟩; iterate 3 exact qSc15J1; (conv => whnf))
      | (refine W.callA (cu) rfl rfl rfl rfl hΓ rfl ?_; (conv => whnf); refine ⟨rfl, rfl, ?_, ?_, ?_, ?_⟩; iterate 3 exact qSc15J1; (conv => whnf))
      | (refine W.callA (ct) rfl rfl rfl rfl hΓ rfl ?_; (conv => whnf); refine ⟨rfl, rfl, ?_, ?_, ?_, ?_⟩; iterate 3 exact qSc15J1; (conv => whnf))
      | (refine W.go TOK 69 hΓ 1000 rfl ?_; (conv => whnf); refine ⟨?_, ?_⟩)
    all_goals (repeat' apply And.intro)
    all_goals try exact qcs0
  | true =>
    rw [hs] at cs
    by_cases k1 : r.kind = 1
    · rw [right1 hs k1]
      generalize tickR r.gen = bg at cg ⊢
      by_cases hc : 0 ≤ r.count
      · by_cases hc2 : r.count ≤ 32
        · cases bg with
          | true =>
            rw [decide_eq_true (show 0 ≤ r.count ∧ r.count ≤ 32 from ⟨hc, hc2⟩), Bool.true_and, Bool.true_and]
            refine Does.intro (fn := Try.f64) Try.func64 rfl rfl fun Γ hΓ => ?_
            refine W.run TOK 69 hΓ 1000 ?_
            conv => whnf
            refine ⟨?_, ?_⟩
            repeat' first
              | assumption
              | exact Bool.noConfusion hb
              | exact absurd hb (by decide)
              | (exfalso; omega)
              | (exfalso; simp at hb; done)
              | (refine W.retA TOK rfl ?_; (conv => whnf); refine ⟨rfl, rfl, rfl, rfl, rfl, rfl, ?_, ?_, ?_⟩)
              | (refine W.branch rfl (fun hb => ?_) (fun hb => ?_) <;> ((try simp only [qhb, addI, reduceCtorEq, Int.reduceToNat] at hb); (try replace hb := of_decide_eq_true hb); (try replace hb := of_decide_eq_false hb)))
              | (refine W.callA (cs) rfl rfl rfl rfl hΓ rfl ?_; (conv => whnf); refine ⟨rfl, rfl, ?_, ?_, ?_, ?_⟩; iterate 3 exact qSc15J1; (conv => whnf))
              | (refine W.callA (cg) rfl rfl rfl rfl hΓ rfl ?_; (conv => whnf); refine ⟨rfl, rfl, ?_, ?_, ?_, ?_⟩; iterate 3 exact qSc15J1; (conv => whnf))
              | (refine W.callA (cu) rfl rfl rfl rfl hΓ rfl ?_; (conv => whnf); refine ⟨rfl, rfl, ?_, ?_, ?_, ?_⟩; iterate 3 exact qSc15J1; (conv => whnf))
              | (refine W.callA (ct) rfl rfl rfl rfl hΓ rfl ?_; (conv => whnf); refine ⟨rfl, rfl, ?_, ?_, ?_, ?_⟩; iterate 3 exact qSc15J1; (conv => whnf))
              | (refine W.go TOK 69 hΓ 1000 rfl ?_; (conv => whnf); refine ⟨?_, ?_⟩)
            all_goals (repeat' apply And.intro)
            all_goals try first | exact qcl0 | exact qsm0 | exact recZ1 r
          | false =>
            rw [Bool.false_and]
            refine Does.intro (fn := Try.f64) Try.func64 rfl rfl fun Γ hΓ => ?_
            refine W.run TOK 69 hΓ 1000 ?_
            conv => whnf
            refine ⟨?_, ?_⟩
            repeat' first
              | assumption
              | exact Bool.noConfusion hb
              | exact absurd hb (by decide)
              | (exfalso; omega)
              | (exfalso; simp at hb; done)
              | (refine W.retA TOK rfl ?_; (conv => whnf); refine ⟨rfl, rfl, rfl, rfl, rfl, rfl, ?_, ?_, ?_⟩)
              | (refine W.branch rfl (fun hb => ?_) (fun hb => ?_) <;> ((try simp only [qhb, addI, reduceCtorEq, Int.reduceToNat] at hb); (try replace hb := of_decide_eq_true hb); (try replace hb := of_decide_eq_false hb)))
              | (refine W.callA (cs) rfl rfl rfl rfl hΓ rfl ?_; (conv => whnf); refine ⟨rfl, rfl, ?_, ?_, ?_, ?_⟩; iterate 3 exact qSc15J1; (conv => whnf))
              | (refine W.callA (cg) rfl rfl rfl rfl hΓ rfl ?_; (conv => whnf); refine ⟨rfl, rfl, ?_, ?_, ?_, ?_⟩; iterate 3 exact qSc15J1; (conv => whnf))
              | (refine W.callA (cu) rfl rfl rfl rfl hΓ rfl ?_; (conv => whnf); refine ⟨rfl, rfl, ?_, ?_, ?_, ?_⟩; iterate 3 exact qSc15J1; (conv => whnf))
              | (refine W.callA (ct) rfl rfl rfl rfl hΓ rfl ?_; (conv => whnf); refine ⟨rfl, rfl, ?_, ?_, ?_, ?_⟩; iterate 3 exact qSc15J1; (conv => whnf))
              | (refine W.go TOK 69 hΓ 1000 rfl ?_; (conv => whnf); refine ⟨?_, ?_⟩)
            all_goals (repeat' apply And.intro)
            all_goals try exact qcs0
        · rw [decide_eq_false (show ¬ (0 ≤ r.count ∧ r.count ≤ 32) from fun h => hc2 h.2), Bool.false_and, Bool.and_false]
          cases bg with
          | true =>
            refine Does.intro (fn := Try.f64) Try.func64 rfl rfl fun Γ hΓ => ?_
            refine W.run TOK 69 hΓ 1000 ?_
            conv => whnf
            refine ⟨?_, ?_⟩
            repeat' first
              | assumption
              | exact Bool.noConfusion hb
              | exact absurd hb (by decide)
              | (exfalso; omega)
              | (exfalso; simp at hb; done)
              | (refine W.retA TOK rfl ?_; (conv => whnf); refine ⟨rfl, rfl, rfl, rfl, rfl, rfl, ?_, ?_, ?_⟩)
              | (refine W.branch rfl (fun hb => ?_) (fun hb => ?_) <;> ((try simp only [qhb, addI, reduceCtorEq, Int.reduceToNat] at hb); (try replace hb := of_decide_eq_true hb); (try replace hb := of_decide_eq_false hb)))
              | (refine W.callA (cs) rfl rfl rfl rfl hΓ rfl ?_; (conv => whnf); refine ⟨rfl, rfl, ?_, ?_, ?_, ?_⟩; iterate 3 exact qSc15J1; (conv => whnf))
              | (refine W.callA (cg) rfl rfl rfl rfl hΓ rfl ?_; (conv => whnf); refine ⟨rfl, rfl, ?_, ?_, ?_, ?_⟩; iterate 3 exact qSc15J1; (conv => whnf))
              | (refine W.callA (cu) rfl rfl rfl rfl hΓ rfl ?_; (conv => whnf); refine ⟨rfl, rfl, ?_, ?_, ?_, ?_⟩; iterate 3 exact qSc15J1; (conv => whnf))
              | (refine W.callA (ct) rfl rfl rfl rfl hΓ rfl ?_; (conv => whnf); refine ⟨rfl, rfl, ?_, ?_, ?_, ?_⟩; iterate 3 exact qSc15J1; (conv => whnf))
              | (refine W.go TOK 69 hΓ 1000 rfl ?_; (conv => whnf); refine ⟨?_, ?_⟩)
            all_goals (repeat' apply And.intro)
            all_goals try first | exact qcl0 | exact qsm0 | exact decide_eq_false hc2
          | false =>
            refine Does.intro (fn := Try.f64) Try.func64 rfl rfl fun Γ hΓ => ?_
            refine W.run TOK 69 hΓ 1000 ?_
            conv => whnf
            refine ⟨?_, ?_⟩
            repeat' first
              | assumption
              | exact Bool.noConfusion hb
              | exact absurd hb (by decide)
              | (exfalso; omega)
              | (exfalso; simp at hb; done)
              | (refine W.retA TOK rfl ?_; (conv => whnf); refine ⟨rfl, rfl, rfl, rfl, rfl, rfl, ?_, ?_, ?_⟩)
              | (refine W.branch rfl (fun hb => ?_) (fun hb => ?_) <;> ((try simp only [qhb, addI, reduceCtorEq, Int.reduceToNat] at hb); (try replace hb := of_decide_eq_true hb); (try replace hb := of_decide_eq_false hb)))
              | (refine W.callA (cs) rfl rfl rfl rfl hΓ rfl ?_; (conv => whnf); refine ⟨rfl, rfl, ?_, ?_, ?_, ?_⟩; iterate 3 exact qSc15J1; (conv => whnf))
              | (refine W.callA (cg) rfl rfl rfl rfl hΓ rfl ?_; (conv => whnf); refine ⟨rfl, rfl, ?_, ?_, ?_, ?_⟩; iterate 3 exact qSc15J1; (conv => whnf))
              | (refine W.callA (cu) rfl rfl rfl rfl hΓ rfl ?_; (conv => whnf); refine ⟨rfl, rfl, ?_, ?_, ?_, ?_⟩; iterate 3 exact qSc15J1; (conv => whnf))
              | (refine W.callA (ct) rfl rfl rfl rfl hΓ rfl ?_; (conv => whnf); refine ⟨rfl, rfl, ?_, ?_, ?_, ?_⟩; iterate 3 exact qSc15J1; (conv => whnf))
              | (refine W.go TOK 69 hΓ 1000 rfl ?_; (conv => whnf); refine ⟨?_, ?_⟩)
            all_goals (repeat' apply And.intro)
            all_goals try exact qcs0
      · rw [decide_eq_false (show ¬ (0 ≤ r.count ∧ r.count ≤ 32) from fun h => hc h.1), Bool.false_and, Bool.and_false]
        cases bg with
        | true =>
          refine Does.intro (fn := Try.f64) Try.func64 rfl rfl fun Γ hΓ => ?_
          refine W.run TOK 69 hΓ 1000 ?_
          conv => whnf
          refine ⟨?_, ?_⟩
          repeat' first
            | assumption
            | exact Bool.noConfusion hb
            | exact absurd hb (by decide)
            | (exfalso; omega)
            | (exfalso; simp at hb; done)
            | (refine W.retA TOK rfl ?_; (conv => whnf); refine ⟨rfl, rfl, rfl, rfl, rfl, rfl, ?_, ?_, ?_⟩)
            | (refine W.branch rfl (fun hb => ?_) (fun hb => ?_) <;> ((try simp only [qhb, addI, reduceCtorEq, Int.reduceToNat] at hb); (try replace hb := of_decide_eq_true hb); (try replace hb := of_decide_eq_false hb)))
            | (refine W.callA (cs) rfl rfl rfl rfl hΓ rfl ?_; (conv => whnf); refine ⟨rfl, rfl, ?_, ?_, ?_, ?_⟩; iterate 3 exact qSc15J1; (conv => whnf))
            | (refine W.callA (cg) rfl rfl rfl rfl hΓ rfl ?_; (conv => whnf); refine ⟨rfl, rfl, ?_, ?_, ?_, ?_⟩; iterate 3 exact qSc15J1; (conv => whnf))
            | (refine W.callA (cu) rfl rfl rfl rfl hΓ rfl ?_; (conv => whnf); refine ⟨rfl, rfl, ?_, ?_, ?_, ?_⟩; iterate 3 exact qSc15J1; (conv => whnf))
            | (refine W.callA (ct) rfl rfl rfl rfl hΓ rfl ?_; (conv => whnf); refine ⟨rfl, rfl, ?_, ?_, ?_, ?_⟩; iterate 3 exact qSc15J1; (conv => whnf))
            | (refine W.go TOK 69 hΓ 1000 rfl ?_; (conv => whnf); refine ⟨?_, ?_⟩)
          all_goals (repeat' apply And.intro)
          all_goals try first | exact qcl0 | exact qsm0 | exact decide_eq_false hc
        | false =>
          refine Does.intro (fn := Try.f64) Try.func64 rfl rfl fun Γ hΓ => ?_
          refine W.run TOK 69 hΓ 1000 ?_
          conv => whnf
          refine ⟨?_, ?_⟩
          repeat' first
            | assumption
            | exact Bool.noConfusion hb
            | exact absurd hb (by decide)
            | (exfalso; omega)
            | (exfalso; simp at hb; done)
            | (refine W.retA TOK rfl ?_; (conv => whnf); refine ⟨rfl, rfl, rfl, rfl, rfl, rfl, ?_, ?_, ?_⟩)
            | (refine W.branch rfl (fun hb => ?_) (fun hb => ?_) <;> ((try simp only [qhb, addI, reduceCtorEq, Int.reduceToNat] at hb); (try replace hb := of_decide_eq_true hb); (try replace hb := of_decide_eq_false hb)))
            | (refine W.callA (cs) rfl rfl rfl rfl hΓ rfl ?_; (conv => whnf); refine ⟨rfl, rfl, ?_, ?_, ?_, ?_⟩; iterate 3 exact qSc15J1; (conv => whnf))
            | (refine W.callA (cg) rfl rfl rfl rfl hΓ rfl ?_; (conv => whnf); refine ⟨rfl, rfl, ?_, ?_, ?_, ?_⟩; iterate 3 exact qSc15J1; (conv => whnf))
            | (refine W.callA (cu) rfl rfl rfl rfl hΓ rfl ?_; (conv => whnf); refine ⟨rfl, rfl, ?_, ?_, ?_, ?_⟩; iterate 3 exact qSc15J1; (conv => whnf))
            | (refine W.callA (ct) rfl rfl rfl rfl hΓ rfl ?_; (conv => whnf); refine ⟨rfl, rfl, ?_, ?_, ?_, ?_⟩; iterate 3 exact qSc15J1; (conv => whnf))
            | (refine W.go TOK 69 hΓ 1000 rfl ?_; (conv => whnf); refine ⟨?_, ?_⟩)
          all_goals (repeat' apply And.intro)
          all_goals try exact qcs0
    · by_cases k2 : r.kind = 2
      · rw [right2 hs k2]
        generalize updRight r.u = bu at cu ⊢
        generalize tickR r.tick = bt at ct ⊢
        cases bu with
        | false =>
          rw [Bool.false_and]
          refine Does.intro (fn := Try.f64) Try.func64 rfl rfl fun Γ hΓ => ?_
          refine W.run TOK 69 hΓ 1000 ?_
          conv => whnf
          refine ⟨?_, ?_⟩
          repeat' first
            | assumption
            | exact Bool.noConfusion hb
            | exact absurd hb (by decide)
            | (exfalso; omega)
            | (exfalso; simp at hb; done)
            | (refine W.retA TOK rfl ?_; (conv => whnf); refine ⟨rfl, rfl, rfl, rfl, rfl, rfl, ?_, ?_, ?_⟩)
            | (refine W.branch rfl (fun hb => ?_) (fun hb => ?_) <;> ((try simp only [qhb, addI, reduceCtorEq, Int.reduceToNat] at hb); (try replace hb := of_decide_eq_true hb); (try replace hb := of_decide_eq_false hb)))
            | (refine W.callA (cs) rfl rfl rfl rfl hΓ rfl ?_; (conv => whnf); refine ⟨rfl, rfl, ?_, ?_, ?_, ?_⟩; iterate 3 exact qSc15J1; (conv => whnf))
            | (refine W.callA (cg) rfl rfl rfl rfl hΓ rfl ?_; (conv => whnf); refine ⟨rfl, rfl, ?_, ?_, ?_, ?_⟩; iterate 3 exact qSc15J1; (conv => whnf))
            | (refine W.callA (cu) rfl rfl rfl rfl hΓ rfl ?_; (conv => whnf); refine ⟨rfl, rfl, ?_, ?_, ?_, ?_⟩; iterate 3 exact qSc15J1; (conv => whnf))
            | (refine W.callA (ct) rfl rfl rfl rfl hΓ rfl ?_; (conv => whnf); refine ⟨rfl, rfl, ?_, ?_, ?_, ?_⟩; iterate 3 exact qSc15J1; (conv => whnf))
            | (refine W.go TOK 69 hΓ 1000 rfl ?_; (conv => whnf); refine ⟨?_, ?_⟩)
          all_goals (repeat' apply And.intro)
          all_goals try exact qcs0
        | true =>
          cases bt with
          | false =>
            rw [Bool.false_and, Bool.and_false]
            refine Does.intro (fn := Try.f64) Try.func64 rfl rfl fun Γ hΓ => ?_
            refine W.run TOK 69 hΓ 1000 ?_
            conv => whnf
            refine ⟨?_, ?_⟩
            repeat' first
              | assumption
              | exact Bool.noConfusion hb
              | exact absurd hb (by decide)
              | (exfalso; omega)
              | (exfalso; simp at hb; done)
              | (refine W.retA TOK rfl ?_; (conv => whnf); refine ⟨rfl, rfl, rfl, rfl, rfl, rfl, ?_, ?_, ?_⟩)
              | (refine W.branch rfl (fun hb => ?_) (fun hb => ?_) <;> ((try simp only [qhb, addI, reduceCtorEq, Int.reduceToNat] at hb); (try replace hb := of_decide_eq_true hb); (try replace hb := of_decide_eq_false hb)))
              | (refine W.callA (cs) rfl rfl rfl rfl hΓ rfl ?_; (conv => whnf); refine ⟨rfl, rfl, ?_, ?_, ?_, ?_⟩; iterate 3 exact qSc15J1; (conv => whnf))
              | (refine W.callA (cg) rfl rfl rfl rfl hΓ rfl ?_; (conv => whnf); refine ⟨rfl, rfl, ?_, ?_, ?_, ?_⟩; iterate 3 exact qSc15J1; (conv => whnf))
              | (refine W.callA (cu) rfl rfl rfl rfl hΓ rfl ?_; (conv => whnf); refine ⟨rfl, rfl, ?_, ?_, ?_, ?_⟩; iterate 3 exact qSc15J1; (conv => whnf))
              | (refine W.callA (ct) rfl rfl rfl rfl hΓ rfl ?_; (conv => whnf); refine ⟨rfl, rfl, ?_, ?_, ?_, ?_⟩; iterate 3 exact qSc15J1; (conv => whnf))
              | (refine W.go TOK 69 hΓ 1000 rfl ?_; (conv => whnf); refine ⟨?_, ?_⟩)
            all_goals (repeat' apply And.intro)
            all_goals try exact qcs0
          | true =>
            rw [Bool.true_and, Bool.true_and]
            refine Does.intro (fn := Try.f64) Try.func64 rfl rfl fun Γ hΓ => ?_
            refine W.run TOK 69 hΓ 1000 ?_
            conv => whnf
            refine ⟨?_, ?_⟩
            repeat' first
              | assumption
              | exact Bool.noConfusion hb
              | exact absurd hb (by decide)
              | (exfalso; omega)
              | (exfalso; simp at hb; done)
              | (refine W.retA TOK rfl ?_; (conv => whnf); refine ⟨rfl, rfl, rfl, rfl, rfl, rfl, ?_, ?_, ?_⟩)
              | (refine W.branch rfl (fun hb => ?_) (fun hb => ?_) <;> ((try simp only [qhb, addI, reduceCtorEq, Int.reduceToNat] at hb); (try replace hb := of_decide_eq_true hb); (try replace hb := of_decide_eq_false hb)))
              | (refine W.callA (cs) rfl rfl rfl rfl hΓ rfl ?_; (conv => whnf); refine ⟨rfl, rfl, ?_, ?_, ?_, ?_⟩; iterate 3 exact qSc15J1; (conv => whnf))
              | (refine W.callA (cg) rfl rfl rfl rfl hΓ rfl ?_; (conv => whnf); refine ⟨rfl, rfl, ?_, ?_, ?_, ?_⟩; iterate 3 exact qSc15J1; (conv => whnf))
              | (refine W.callA (cu) rfl rfl rfl rfl hΓ rfl ?_; (conv => whnf); refine ⟨rfl, rfl, ?_, ?_, ?_, ?_⟩; iterate 3 exact qSc15J1; (conv => whnf))
              | (refine W.callA (ct) rfl rfl rfl rfl hΓ rfl ?_; (conv => whnf); refine ⟨rfl, rfl, ?_, ?_, ?_, ?_⟩; iterate 3 exact qSc15J1; (conv => whnf))
              | (refine W.go TOK 69 hΓ 1000 rfl ?_; (conv => whnf); refine ⟨?_, ?_⟩)
            all_goals (repeat' apply And.intro)
            all_goals try first | exact qcl0 | exact qsm0 | exact recZ2 r
      · by_cases k3 : r.kind = 3
        · rw [right3 hs k3]
          by_cases he : 1 ≤ r.epoch
          · by_cases he2 : r.epoch ≤ 1073741824
            · rw [decide_eq_true (show 1 ≤ r.epoch ∧ r.epoch ≤ 1073741824 from ⟨he, he2⟩), Bool.true_and]
              refine Does.intro (fn := Try.f64) Try.func64 rfl rfl fun Γ hΓ => ?_
              refine W.run TOK 69 hΓ 1000 ?_
              conv => whnf
              refine ⟨?_, ?_⟩
              repeat' first
                | assumption
                | exact Bool.noConfusion hb
                | exact absurd hb (by decide)
                | (exfalso; omega)
                | (exfalso; simp at hb; done)
                | (refine W.retA TOK rfl ?_; (conv => whnf); refine ⟨rfl, rfl, rfl, rfl, rfl, rfl, ?_, ?_, ?_⟩)
                | (refine W.branch rfl (fun hb => ?_) (fun hb => ?_) <;> ((try simp only [qhb, addI, reduceCtorEq, Int.reduceToNat] at hb); (try replace hb := of_decide_eq_true hb); (try replace hb := of_decide_eq_false hb)))
                | (refine W.callA (cs) rfl rfl rfl rfl hΓ rfl ?_; (conv => whnf); refine ⟨rfl, rfl, ?_, ?_, ?_, ?_⟩; iterate 3 exact qSc15J1; (conv => whnf))
                | (refine W.callA (cg) rfl rfl rfl rfl hΓ rfl ?_; (conv => whnf); refine ⟨rfl, rfl, ?_, ?_, ?_, ?_⟩; iterate 3 exact qSc15J1; (conv => whnf))
                | (refine W.callA (cu) rfl rfl rfl rfl hΓ rfl ?_; (conv => whnf); refine ⟨rfl, rfl, ?_, ?_, ?_, ?_⟩; iterate 3 exact qSc15J1; (conv => whnf))
                | (refine W.callA (ct) rfl rfl rfl rfl hΓ rfl ?_; (conv => whnf); refine ⟨rfl, rfl, ?_, ?_, ?_, ?_⟩; iterate 3 exact qSc15J1; (conv => whnf))
                | (refine W.go TOK 69 hΓ 1000 rfl ?_; (conv => whnf); refine ⟨?_, ?_⟩)
              all_goals (repeat' apply And.intro)
              all_goals try first | exact qcl0 | exact qsm0 | exact recZ3 r
            · rw [decide_eq_false (show ¬ (1 ≤ r.epoch ∧ r.epoch ≤ 1073741824) from fun h => he2 h.2), Bool.false_and]
              refine Does.intro (fn := Try.f64) Try.func64 rfl rfl fun Γ hΓ => ?_
              refine W.run TOK 69 hΓ 1000 ?_
              conv => whnf
              refine ⟨?_, ?_⟩
              repeat' first
                | assumption
                | exact Bool.noConfusion hb
                | exact absurd hb (by decide)
                | (exfalso; omega)
                | (exfalso; simp at hb; done)
                | (refine W.retA TOK rfl ?_; (conv => whnf); refine ⟨rfl, rfl, rfl, rfl, rfl, rfl, ?_, ?_, ?_⟩)
                | (refine W.branch rfl (fun hb => ?_) (fun hb => ?_) <;> ((try simp only [qhb, addI, reduceCtorEq, Int.reduceToNat] at hb); (try replace hb := of_decide_eq_true hb); (try replace hb := of_decide_eq_false hb)))
                | (refine W.callA (cs) rfl rfl rfl rfl hΓ rfl ?_; (conv => whnf); refine ⟨rfl, rfl, ?_, ?_, ?_, ?_⟩; iterate 3 exact qSc15J1; (conv => whnf))
                | (refine W.callA (cg) rfl rfl rfl rfl hΓ rfl ?_; (conv => whnf); refine ⟨rfl, rfl, ?_, ?_, ?_, ?_⟩; iterate 3 exact qSc15J1; (conv => whnf))
                | (refine W.callA (cu) rfl rfl rfl rfl hΓ rfl ?_; (conv => whnf); refine ⟨rfl, rfl, ?_, ?_, ?_, ?_⟩; iterate 3 exact qSc15J1; (conv => whnf))
                | (refine W.callA (ct) rfl rfl rfl rfl hΓ rfl ?_; (conv => whnf); refine ⟨rfl, rfl, ?_, ?_, ?_, ?_⟩; iterate 3 exact qSc15J1; (conv => whnf))
                | (refine W.go TOK 69 hΓ 1000 rfl ?_; (conv => whnf); refine ⟨?_, ?_⟩)
              all_goals (repeat' apply And.intro)
              all_goals try first | exact qcl0 | exact qsm0 | exact decide_eq_false he2
          · rw [decide_eq_false (show ¬ (1 ≤ r.epoch ∧ r.epoch ≤ 1073741824) from fun h => he h.1), Bool.false_and]
            refine Does.intro (fn := Try.f64) Try.func64 rfl rfl fun Γ hΓ => ?_
            refine W.run TOK 69 hΓ 1000 ?_
            conv => whnf
            refine ⟨?_, ?_⟩
            repeat' first
              | assumption
              | exact Bool.noConfusion hb
              | exact absurd hb (by decide)
              | (exfalso; omega)
              | (exfalso; simp at hb; done)
              | (refine W.retA TOK rfl ?_; (conv => whnf); refine ⟨rfl, rfl, rfl, rfl, rfl, rfl, ?_, ?_, ?_⟩)
              | (refine W.branch rfl (fun hb => ?_) (fun hb => ?_) <;> ((try simp only [qhb, addI, reduceCtorEq, Int.reduceToNat] at hb); (try replace hb := of_decide_eq_true hb); (try replace hb := of_decide_eq_false hb)))
              | (refine W.callA (cs) rfl rfl rfl rfl hΓ rfl ?_; (conv => whnf); refine ⟨rfl, rfl, ?_, ?_, ?_, ?_⟩; iterate 3 exact qSc15J1; (conv => whnf))
              | (refine W.callA (cg) rfl rfl rfl rfl hΓ rfl ?_; (conv => whnf); refine ⟨rfl, rfl, ?_, ?_, ?_, ?_⟩; iterate 3 exact qSc15J1; (conv => whnf))
              | (refine W.callA (cu) rfl rfl rfl rfl hΓ rfl ?_; (conv => whnf); refine ⟨rfl, rfl, ?_, ?_, ?_, ?_⟩; iterate 3 exact qSc15J1; (conv => whnf))
              | (refine W.callA (ct) rfl rfl rfl rfl hΓ rfl ?_; (conv => whnf); refine ⟨rfl, rfl, ?_, ?_, ?_, ?_⟩; iterate 3 exact qSc15J1; (conv => whnf))
              | (refine W.go TOK 69 hΓ 1000 rfl ?_; (conv => whnf); refine ⟨?_, ?_⟩)
            all_goals (repeat' apply And.intro)
            all_goals try first | exact qcl0 | exact qsm0 | exact decide_eq_false he
        · rw [show rightS r = false by unfold rightS; rw [if_neg k1, if_neg k2, if_neg k3, Bool.and_false]]
          refine Does.intro (fn := Try.f64) Try.func64 rfl rfl fun Γ hΓ => ?_
          refine W.run TOK 69 hΓ 1000 ?_
          conv => whnf
          refine ⟨?_, ?_⟩
          repeat' first
            | assumption
            | exact Bool.noConfusion hb
            | exact absurd hb (by decide)
            | (exfalso; omega)
            | (exfalso; simp at hb; done)
            | (refine W.retA TOK rfl ?_; (conv => whnf); refine ⟨rfl, rfl, rfl, rfl, rfl, rfl, ?_, ?_, ?_⟩)
            | (refine W.branch rfl (fun hb => ?_) (fun hb => ?_) <;> ((try simp only [qhb, addI, reduceCtorEq, Int.reduceToNat] at hb); (try replace hb := of_decide_eq_true hb); (try replace hb := of_decide_eq_false hb)))
            | (refine W.callA (cs) rfl rfl rfl rfl hΓ rfl ?_; (conv => whnf); refine ⟨rfl, rfl, ?_, ?_, ?_, ?_⟩; iterate 3 exact qSc15J1; (conv => whnf))
            | (refine W.callA (cg) rfl rfl rfl rfl hΓ rfl ?_; (conv => whnf); refine ⟨rfl, rfl, ?_, ?_, ?_, ?_⟩; iterate 3 exact qSc15J1; (conv => whnf))
            | (refine W.callA (cu) rfl rfl rfl rfl hΓ rfl ?_; (conv => whnf); refine ⟨rfl, rfl, ?_, ?_, ?_, ?_⟩; iterate 3 exact qSc15J1; (conv => whnf))
            | (refine W.callA (ct) rfl rfl rfl rfl hΓ rfl ?_; (conv => whnf); refine ⟨rfl, rfl, ?_, ?_, ?_, ?_⟩; iterate 3 exact qSc15J1; (conv => whnf))
            | (refine W.go TOK 69 hΓ 1000 rfl ?_; (conv => whnf); refine ⟨?_, ?_⟩)
          all_goals (repeat' apply And.intro)
          all_goals try exact qcs0

end Go.Proofs.Ytcolghonbncpnaa
