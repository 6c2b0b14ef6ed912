/- Walks: records as bytes. -/
import Derived.Test.YtcolghonbncpnaaSc15I
import Derived.Test.YtcolghonbncpnaaSc15K
import Derived.Test.YtcolghonbncpnaaPlB
import Derived.Test.YtcolghonbncpnaaVxI
set_option linter.unusedSimpArgs false
set_option linter.unusedVariables false
namespace Go.Proofs.Ytcolghonbncpnaa
open VX
set_option maxRecDepth 100000
set_option maxHeartbeats 4000000
theorem qSc15Q1 {P : Prop} (h : P := by (focus ((repeat' apply And.intro) <;> first | exact qlf0 | exact ⟨rfl, rfl, rfl⟩ | exact ⟨rfl, rfl, rfl, rfl, ⟨rfl, rfl⟩⟩ | ((repeat' apply And.intro) <;> rfl)))) : P := h
theorem qSc15Q2 {P : Prop} (h : P := by (focus ((repeat' apply And.intro) <;> first | exact qlf0 | exact ⟨rfl, rfl, rfl⟩ | exact ⟨rfl, rfl, rfl, rfl, ⟨rfl, rfl⟩⟩ | ((repeat' apply And.intro) <;> rfl) | exact w1 | exact w2 | exact hl9 | exact hl9.symm | (intro i hi; rw [Nat.zero_add]; exact cc _ i hi) | exact cc _))) : P := h
theorem qSc15Q3 {P : Prop} (h : P := by (focus ((repeat' apply And.intro) <;> first | exact qlf0 | exact ⟨rfl, rfl, rfl⟩ | exact ⟨rfl, rfl, rfl, rfl, ⟨rfl, rfl⟩⟩ | ((repeat' apply And.intro) <;> rfl) | exact w1 | exact hl9 | exact hl9.symm | (intro i hi; rw [Nat.zero_add]; exact cc _ i hi) | exact cc _))) : P := h
theorem qSc15Q4 {P : Prop} (h : P := by (focus ((repeat' apply And.intro) <;> first | exact qlf0 | exact ⟨rfl, rfl, rfl⟩ | exact ⟨rfl, rfl, rfl, rfl, ⟨rfl, rfl⟩⟩ | ((repeat' apply And.intro) <;> rfl) | exact w1 | exact e8 | exact e8.symm | exact ⟨e8.symm, fun _ _ => A.sim.refl _⟩))) : P := h
theorem rjput_does (r : Rec) (ho : RecOK r) : Does Try.prog 23 [recA r] [] [1] (Is (.tup [.own 1 1 0 (jputS r).1.length, .int .i64 (jputS r).2]) [(1, some (.arr 1 ((jputS r).1).length (byteAt ((jputS r).1))))]) := by
  have cr := rjright_does r
  cases hr : rightS r with
  | false =>
    rw [hr] at cr
    rw [show jputS r = ([], 23) by unfold jputS; rw [hr]; rfl]
    refine Does.intro (fn := Try.f23) Try.func23 rfl rfl fun Γ hΓ => ?_
    refine W.run TOK 53 hΓ 1000 ?_
    conv => whnf
    refine ⟨?_, ?_⟩
    repeat' first
      | assumption
      | exact Bool.noConfusion hb
      | exact absurd hb (by decide)
      | (exfalso; omega)
      | (exfalso; simp at hb; done)
      | (refine W.retA TOK rfl ?_; (conv => whnf); refine ⟨rfl, rfl, rfl, rfl, rfl, rfl, ?_, ?_, ?_⟩)
      | ((first | refine W.branch rfl (fun hb => ?_) (fun hb => ?_) | refine D.branch rfl (fun hb => ?_) (fun hb => ?_)) <;> ((try simp only [qhb, addI, reduceCtorEq, Int.reduceToNat] at hb); (try replace hb := of_decide_eq_true hb); (try replace hb := of_decide_eq_false hb)))
      | ((first | (refine D.callA (cr) rfl rfl rfl rfl hΓ rfl ?_; (conv => whnf); refine ⟨rfl, rfl, rfl, ?_, ?_, ?_, ?_⟩) | (refine W.callA (cr) rfl rfl rfl rfl hΓ rfl ?_; (conv => whnf); refine ⟨rfl, rfl, ?_, ?_, ?_, ?_⟩)); iterate 3 exact qSc15Q1; (conv => whnf))
      | (refine W.go TOK 53 hΓ 1000 rfl ?_; (conv => whnf); refine ⟨?_, ?_⟩)
      | (refine D.go TOK 53 hΓ 1000 rfl ?_; (conv => whnf); refine ⟨?_, ?_⟩)
      | (refine W.drawn rfl rfl ?_; refine D.run TOK 53 hΓ 1000 ?_; (conv => whnf); refine ⟨?_, ?_⟩)
    all_goals (repeat' apply And.intro)
    all_goals try exact qcs0
  | true =>
  rw [hr] at cr
  have hlen := body_len hr
  rw [show jputS r = putS r.kind r.seq (bodyS r) by unfold jputS; rw [hr]; rfl]
  obtain ⟨h0, h1 | h1 | h1⟩ := right_facts hr
  · obtain ⟨k1, g1, g2, g3, g4⟩ := h1
    have hb9 := body1 k1
    rw [hb9] at hlen ⊢
    have w1 : IntKind.u64.wrap r.gen = r.gen := wrap_u64_in (by omega) (by omega)
    have w2 : IntKind.u64.wrap r.count = r.count := wrap_u64_in (by omega) (by omega)
    have c1 := rnum_does r.gen (inr_u64.2 ⟨by omega, by omega⟩)
    have c2 := rnum_does r.count (inr_u64.2 ⟨by omega, by omega⟩)
    have hl9 : 8 + 8 = (numS r.gen ++ numS r.count).length := by rw [List.length_append, numS_length, numS_length]
    have cc : ∀ q, ∀ i, i < q → (catF 8 (byteAt (numS r.gen)) (byteAt (numS r.count)) i).sim (byteAt (numS r.gen ++ numS r.count) i) := fun q => cat2B (numS_length _).symm
    have cp := rput_does r.kind r.seq (bodyS r) ho.kind ho.seq (by rw [hb9]; omega)
    rw [hb9] at cp
    have hp0 := jput_zero hr
    rw [hb9] at hp0
    generalize putS r.kind r.seq (numS r.gen ++ numS r.count) = p at cp hp0 ⊢
    refine Does.intro (fn := Try.f23) Try.func23 rfl rfl fun Γ hΓ => ?_
    refine W.run TOK 53 hΓ 1000 ?_
    conv => whnf
    refine ⟨?_, ?_⟩
    repeat' first
      | assumption
      | exact Bool.noConfusion hb
      | exact absurd hb (by decide)
      | (exfalso; omega)
      | (exfalso; simp at hb; done)
      | (refine W.retA TOK rfl ?_; (conv => whnf); refine ⟨rfl, rfl, rfl, rfl, rfl, rfl, ?_, ?_, ?_⟩)
      | ((first | refine W.branch rfl (fun hb => ?_) (fun hb => ?_) | refine D.branch rfl (fun hb => ?_) (fun hb => ?_)) <;> ((try simp only [qhb, addI, reduceCtorEq, Int.reduceToNat] at hb); (try replace hb := of_decide_eq_true hb); (try replace hb := of_decide_eq_false hb)))
      | ((first | (refine D.callA (cr) rfl rfl rfl rfl hΓ rfl ?_; (conv => whnf); refine ⟨rfl, rfl, rfl, ?_, ?_, ?_, ?_⟩) | (refine W.callA (cr) rfl rfl rfl rfl hΓ rfl ?_; (conv => whnf); refine ⟨rfl, rfl, ?_, ?_, ?_, ?_⟩)); iterate 3 exact qSc15Q2; (conv => whnf))
      | ((first | (refine D.callA (c1) rfl rfl rfl rfl hΓ rfl ?_; (conv => whnf); refine ⟨rfl, rfl, rfl, ?_, ?_, ?_, ?_⟩) | (refine W.callA (c1) rfl rfl rfl rfl hΓ rfl ?_; (conv => whnf); refine ⟨rfl, rfl, ?_, ?_, ?_, ?_⟩)); iterate 3 exact qSc15Q2; (conv => whnf))
      | ((first | (refine D.callA (c2) rfl rfl rfl rfl hΓ rfl ?_; (conv => whnf); refine ⟨rfl, rfl, rfl, ?_, ?_, ?_, ?_⟩) | (refine W.callA (c2) rfl rfl rfl rfl hΓ rfl ?_; (conv => whnf); refine ⟨rfl, rfl, ?_, ?_, ?_, ?_⟩)); iterate 3 exact qSc15Q2; (conv => whnf))
      | ((first | (refine D.callA (cp) rfl rfl rfl rfl hΓ rfl ?_; (conv => whnf); refine ⟨rfl, rfl, rfl, ?_, ?_, ?_, ?_⟩) | (refine W.callA (cp) rfl rfl rfl rfl hΓ rfl ?_; (conv => whnf); refine ⟨rfl, rfl, ?_, ?_, ?_, ?_⟩)); iterate 3 exact qSc15Q2; (conv => whnf))
      | (refine W.go TOK 53 hΓ 1000 rfl ?_; (conv => whnf); refine ⟨?_, ?_⟩)
      | (refine D.go TOK 53 hΓ 1000 rfl ?_; (conv => whnf); refine ⟨?_, ?_⟩)
      | (refine W.drawn rfl rfl ?_; refine D.run TOK 53 hΓ 1000 ?_; (conv => whnf); refine ⟨?_, ?_⟩)
    all_goals (repeat' apply And.intro)
    all_goals try first | exact qcl0 | exact hp0 | exact hp0.symm | exact w1 | exact w2 | exact hl9 | exact hl9.symm | exact Nat.le_of_eq hl9.symm | exact cc _ | exact qsm0
  · obtain ⟨k1, g1, g2, g3⟩ := h1
    have hb9 := body2 k1 g3
    rw [hb9] at hlen ⊢
    have w1 : IntKind.u64.wrap r.tick = r.tick := wrap_u64_in (by omega) (by omega)
    have c1 := rnum_does r.tick (inr_u64.2 ⟨by omega, by omega⟩)
    have cu := ruput_does r.u ho.u
    rw [show uputS r.u = (uB r.u, 0) by unfold uputS; rw [g3]; rfl] at cu
    have hl9 : 8 + (uB r.u).length = (numS r.tick ++ uB r.u).length := by rw [List.length_append, numS_length]
    have hub := uB_len r.u
    have cc : ∀ q, ∀ i, i < q → (catF 8 (byteAt (numS r.tick)) (byteAt (uB r.u)) i).sim (byteAt (numS r.tick ++ uB r.u) i) := fun q => cat2B (numS_length _).symm
    have cp := rput_does r.kind r.seq (bodyS r) ho.kind ho.seq (by rw [hb9]; omega)
    rw [hb9] at cp
    have hp0 := jput_zero hr
    rw [hb9] at hp0
    generalize putS r.kind r.seq (numS r.tick ++ uB r.u) = p at cp hp0 ⊢
    refine Does.intro (fn := Try.f23) Try.func23 rfl rfl fun Γ hΓ => ?_
    refine W.run TOK 53 hΓ 1000 ?_
    conv => whnf
    refine ⟨?_, ?_⟩
    repeat' first
      | assumption
      | exact Bool.noConfusion hb
      | exact absurd hb (by decide)
      | (exfalso; omega)
      | (exfalso; simp at hb; done)
      | (refine W.retA TOK rfl ?_; (conv => whnf); refine ⟨rfl, rfl, rfl, rfl, rfl, rfl, ?_, ?_, ?_⟩)
      | ((first | refine W.branch rfl (fun hb => ?_) (fun hb => ?_) | refine D.branch rfl (fun hb => ?_) (fun hb => ?_)) <;> ((try simp only [qhb, addI, reduceCtorEq, Int.reduceToNat] at hb); (try replace hb := of_decide_eq_true hb); (try replace hb := of_decide_eq_false hb)))
      | ((first | (refine D.callA (cr) rfl rfl rfl rfl hΓ rfl ?_; (conv => whnf); refine ⟨rfl, rfl, rfl, ?_, ?_, ?_, ?_⟩) | (refine W.callA (cr) rfl rfl rfl rfl hΓ rfl ?_; (conv => whnf); refine ⟨rfl, rfl, ?_, ?_, ?_, ?_⟩)); iterate 3 exact qSc15Q3; (conv => whnf))
      | ((first | (refine D.callA (cu) rfl rfl rfl rfl hΓ rfl ?_; (conv => whnf); refine ⟨rfl, rfl, rfl, ?_, ?_, ?_, ?_⟩) | (refine W.callA (cu) rfl rfl rfl rfl hΓ rfl ?_; (conv => whnf); refine ⟨rfl, rfl, ?_, ?_, ?_, ?_⟩)); iterate 3 exact qSc15Q3; (conv => whnf))
      | ((first | (refine D.callA (c1) rfl rfl rfl rfl hΓ rfl ?_; (conv => whnf); refine ⟨rfl, rfl, rfl, ?_, ?_, ?_, ?_⟩) | (refine W.callA (c1) rfl rfl rfl rfl hΓ rfl ?_; (conv => whnf); refine ⟨rfl, rfl, ?_, ?_, ?_, ?_⟩)); iterate 3 exact qSc15Q3; (conv => whnf))
      | ((first | (refine D.callA (cp) rfl rfl rfl rfl hΓ rfl ?_; (conv => whnf); refine ⟨rfl, rfl, rfl, ?_, ?_, ?_, ?_⟩) | (refine W.callA (cp) rfl rfl rfl rfl hΓ rfl ?_; (conv => whnf); refine ⟨rfl, rfl, ?_, ?_, ?_, ?_⟩)); iterate 3 exact qSc15Q3; (conv => whnf))
      | (refine W.go TOK 53 hΓ 1000 rfl ?_; (conv => whnf); refine ⟨?_, ?_⟩)
      | (refine D.go TOK 53 hΓ 1000 rfl ?_; (conv => whnf); refine ⟨?_, ?_⟩)
      | (refine W.drawn rfl rfl ?_; refine D.run TOK 53 hΓ 1000 ?_; (conv => whnf); refine ⟨?_, ?_⟩)
    all_goals (repeat' apply And.intro)
    all_goals try first | exact qcl0 | exact hp0 | exact hp0.symm | exact w1 | exact hl9 | exact hl9.symm | exact Nat.le_of_eq hl9.symm | exact cc _ | exact qsm0
  · obtain ⟨k1, g1, g2⟩ := h1
    have hb9 := body3 k1
    rw [hb9] at hlen ⊢
    have w1 : IntKind.u64.wrap r.epoch = r.epoch := wrap_u64_in (by omega) (by omega)
    have c1 := rnum_does r.epoch (inr_u64.2 ⟨by omega, by omega⟩)
    have e8 := numS_length r.epoch
    have cp := rput_does r.kind r.seq (bodyS r) ho.kind ho.seq (by rw [hb9]; omega)
    rw [hb9] at cp
    have hp0 := jput_zero hr
    rw [hb9] at hp0
    generalize putS r.kind r.seq (numS r.epoch) = p at cp hp0 ⊢
    refine Does.intro (fn := Try.f23) Try.func23 rfl rfl fun Γ hΓ => ?_
    refine W.run TOK 53 hΓ 1000 ?_
    conv => whnf
    refine ⟨?_, ?_⟩
    repeat' first
      | assumption
      | exact Bool.noConfusion hb
      | exact absurd hb (by decide)
      | (exfalso; omega)
      | (exfalso; simp at hb; done)
      | (refine W.retA TOK rfl ?_; (conv => whnf); refine ⟨rfl, rfl, rfl, rfl, rfl, rfl, ?_, ?_, ?_⟩)
      | ((first | refine W.branch rfl (fun hb => ?_) (fun hb => ?_) | refine D.branch rfl (fun hb => ?_) (fun hb => ?_)) <;> ((try simp only [qhb, addI, reduceCtorEq, Int.reduceToNat] at hb); (try replace hb := of_decide_eq_true hb); (try replace hb := of_decide_eq_false hb)))
      | ((first | (refine D.callA (cr) rfl rfl rfl rfl hΓ rfl ?_; (conv => whnf); refine ⟨rfl, rfl, rfl, ?_, ?_, ?_, ?_⟩) | (refine W.callA (cr) rfl rfl rfl rfl hΓ rfl ?_; (conv => whnf); refine ⟨rfl, rfl, ?_, ?_, ?_, ?_⟩)); iterate 3 exact qSc15Q4; (conv => whnf))
      | ((first | (refine D.callA (c1) rfl rfl rfl rfl hΓ rfl ?_; (conv => whnf); refine ⟨rfl, rfl, rfl, ?_, ?_, ?_, ?_⟩) | (refine W.callA (c1) rfl rfl rfl rfl hΓ rfl ?_; (conv => whnf); refine ⟨rfl, rfl, ?_, ?_, ?_, ?_⟩)); iterate 3 exact qSc15Q4; (conv => whnf))
      | ((first | (refine D.callA (cp) rfl rfl rfl rfl hΓ rfl ?_; (conv => whnf); refine ⟨rfl, rfl, rfl, ?_, ?_, ?_, ?_⟩) | (refine W.callA (cp) rfl rfl rfl rfl hΓ rfl ?_; (conv => whnf); refine ⟨rfl, rfl, ?_, ?_, ?_, ?_⟩)); iterate 3 exact qSc15Q4; (conv => whnf))
      | (refine W.go TOK 53 hΓ 1000 rfl ?_; (conv => whnf); refine ⟨?_, ?_⟩)
      | (refine D.go TOK 53 hΓ 1000 rfl ?_; (conv => whnf); refine ⟨?_, ?_⟩)
      | (refine W.drawn rfl rfl ?_; refine D.run TOK 53 hΓ 1000 ?_; (conv => whnf); refine ⟨?_, ?_⟩)
    all_goals (repeat' apply And.intro)
    all_goals try first | exact qcl0 | exact hp0 | exact hp0.symm | exact w1 | exact e8 | exact e8.symm | exact qsm0

end Go.Proofs.Ytcolghonbncpnaa
