/- Walks: records as bytes. -/
import Derived.Test.YtcolghonbncpnaaSc15J
import Derived.Test.YtcolghonbncpnaaPlB
import Derived.Test.YtcolghonbncpnaaVxI
set_option linter.unusedSimpArgs false
set_option linter.unusedVariables false
namespace Go.Proofs.Ytcolghonbncpnaa
open VX
set_option maxRecDepth 100000
set_option maxHeartbeats 4000000
theorem qSc15P1 {P : Prop} (h : P := by (focus ((repeat' apply And.intro) <;> first | exact qlf0 | exact ⟨rfl, rfl, rfl⟩ | exact ⟨rfl, rfl, rfl, rfl, ⟨rfl, rfl⟩⟩ | ((repeat' apply And.intro) <;> rfl) | exact w1 | exact w2 | exact sim2a (sim_roB (numS_length _).symm (fun _ _ => A.sim.refl _)) (sim_roB (numS_length _).symm (fun _ _ => A.sim.refl _))))) : P := h
theorem qSc15P2 {P : Prop} (h : P := by (focus ((repeat' apply And.intro) <;> first | exact qlf0 | exact ⟨rfl, rfl, rfl⟩ | exact ⟨rfl, rfl, rfl, rfl, ⟨rfl, rfl⟩⟩ | ((repeat' apply And.intro) <;> rfl)))) : P := h
theorem qSc15P3 {P : Prop} (h : P := by (focus ((repeat' apply And.intro) <;> first | exact qlf0 | exact ⟨rfl, rfl, rfl⟩ | exact ⟨rfl, rfl, rfl, rfl, ⟨rfl, rfl⟩⟩ | ((repeat' apply And.intro) <;> rfl) | exact w1 | exact sim2a (sim_roB (numS_length _).symm (fun _ _ => A.sim.refl _)) (sim_roB rfl (fun _ _ => A.sim.refl _))))) : P := h
theorem qSc15P4 {P : Prop} (h : P := by (focus ((repeat' apply And.intro) <;> first | exact qlf0 | exact ⟨rfl, rfl, rfl⟩ | exact ⟨rfl, rfl, rfl, rfl, ⟨rfl, rfl⟩⟩ | ((repeat' apply And.intro) <;> rfl) | exact w1))) : P := h
def Tjb : Tab := { l := tabL, frz := [17] }
theorem TjbOK : TabOK Try.prog Tjb.l := tabOK
def Tjc : Tab := { l := tabL, frz := [32], stop := [6] }
theorem TjcOK : TabOK Try.prog Tjc.l := tabOK
def Tjd : Tab := { l := tabL, frz := [32] }
theorem TjdOK : TabOK Try.prog Tjd.l := tabOK
theorem jbody_does (r : Rec) (hr : rightS r = true) (ho : RecOK r) : Does Try.prog 66 [recA r] [] [1] (Is (.own 1 1 0 (bodyS r).length) [(1, some (.arr 1 (bodyS r).length (byteAt (bodyS r))))]) := by
  have hlen := body_len hr
  obtain ⟨h0, h1 | h1 | h1⟩ := right_facts hr
  · obtain ⟨k1, g1, g2, g3, g4⟩ := h1
    rw [body1 k1] at hlen ⊢
    have hf : [numS r.gen, numS r.count].flatten = numS r.gen ++ numS r.count := by simp
    have cj := join_does [numS r.gen, numS r.count] (by show (2 : Nat) ≤ 1000000000000; decide) (by rw [hf]; omega)
    rw [hf] at cj
    have w1 : IntKind.u64.wrap r.gen = r.gen := wrap_u64_in (by omega) (by omega)
    have w2 : IntKind.u64.wrap r.count = r.count := wrap_u64_in (by omega) (by omega)
    have c1 := num_does r.gen (inr_u64.2 ⟨by omega, by omega⟩)
    have c2 := num_does r.count (inr_u64.2 ⟨by omega, by omega⟩)
    refine Does.intro (fn := Try.f66) Try.func66 rfl rfl fun Γ hΓ => ?_
    refine W.run TjbOK 38 hΓ 1000 ?_
    conv => whnf
    refine ⟨?_, ?_⟩
    repeat' first
      | assumption
      | exact Bool.noConfusion hb
      | exact absurd hb (by decide)
      | (exfalso; omega)
      | (refine W.retA TjbOK rfl ?_; (conv => whnf); refine ⟨rfl, rfl, rfl, rfl, rfl, rfl, ?_, ?_, ?_⟩)
      | ((first | refine W.branch rfl (fun hb => ?_) (fun hb => ?_) | refine D.branch rfl (fun hb => ?_) (fun hb => ?_)) <;> ((try simp only [qhb, addI, reduceCtorEq, Int.reduceToNat] at hb); (try replace hb := of_decide_eq_true hb); (try replace hb := of_decide_eq_false hb)))
      | ((first | (refine D.callAZ (c1) rfl rfl rfl rfl hΓ rfl ?_; (conv => whnf); refine ⟨rfl, rfl, rfl, ?_, ?_, ?_, ?_, ?_⟩) | (refine W.callAZ (c1) rfl rfl rfl rfl hΓ rfl ?_; (conv => whnf); refine ⟨rfl, rfl, ?_, ?_, ?_, ?_, ?_⟩)); iterate 4 exact qSc15P1; (conv => whnf))
      | ((first | (refine D.callAZ (c2) rfl rfl rfl rfl hΓ rfl ?_; (conv => whnf); refine ⟨rfl, rfl, rfl, ?_, ?_, ?_, ?_, ?_⟩) | (refine W.callAZ (c2) rfl rfl rfl rfl hΓ rfl ?_; (conv => whnf); refine ⟨rfl, rfl, ?_, ?_, ?_, ?_, ?_⟩)); iterate 4 exact qSc15P1; (conv => whnf))
      | ((first | (refine D.callA (cj) rfl rfl rfl rfl hΓ rfl ?_; (conv => whnf); refine ⟨rfl, rfl, rfl, ?_, ?_, ?_, ?_⟩) | (refine W.callA (cj) rfl rfl rfl rfl hΓ rfl ?_; (conv => whnf); refine ⟨rfl, rfl, ?_, ?_, ?_, ?_⟩)); iterate 3 exact qSc15P1; (conv => whnf))
      | (refine W.go TjbOK 38 hΓ 1000 rfl ?_; (conv => whnf); refine ⟨?_, ?_⟩)
      | (refine D.go TjbOK 38 hΓ 1000 rfl ?_; (conv => whnf); refine ⟨?_, ?_⟩)
      | (refine W.drawn rfl rfl ?_; refine D.run TjbOK 38 hΓ 1000 ?_; (conv => whnf); refine ⟨?_, ?_⟩)
    all_goals (repeat' apply And.intro)
    all_goals try first | exact qcl0 | exact w1 | exact w2 | exact qsm0
  · obtain ⟨k1, g1, g2, g3⟩ := h1
    rw [body2 k1 g3] at hlen ⊢
    have hf : [numS r.tick, uB r.u].flatten = numS r.tick ++ uB r.u := by simp
    have cj := join_does [numS r.tick, uB r.u] (by show (2 : Nat) ≤ 1000000000000; decide) (by rw [hf]; omega)
    rw [hf] at cj
    have w1 : IntKind.u64.wrap r.tick = r.tick := wrap_u64_in (by omega) (by omega)
    have c1 := num_does r.tick (inr_u64.2 ⟨by omega, by omega⟩)
    have cu := uput_does r.u ho.u
    rw [show uputS r.u = (uB r.u, 0) by unfold uputS; rw [g3]; rfl] at cu
    refine Does.intro (fn := Try.f66) Try.func66 rfl rfl fun Γ hΓ => ?_
    refine W.run TjcOK 38 hΓ 1000 ?_
    conv => whnf
    refine ⟨?_, ?_⟩
    repeat' first
      | assumption
      | exact Bool.noConfusion hb
      | exact absurd hb (by decide)
      | (exfalso; omega)
      | ((first | refine W.branch rfl (fun hb => ?_) (fun hb => ?_) | refine D.branch rfl (fun hb => ?_) (fun hb => ?_)) <;> ((try simp only [qhb, addI, reduceCtorEq, Int.reduceToNat] at hb); (try replace hb := of_decide_eq_true hb); (try replace hb := of_decide_eq_false hb)))
      | ((first | (refine D.callA (cu) rfl rfl rfl rfl hΓ rfl ?_; (conv => whnf); refine ⟨rfl, rfl, rfl, ?_, ?_, ?_, ?_⟩) | (refine W.callA (cu) rfl rfl rfl rfl hΓ rfl ?_; (conv => whnf); refine ⟨rfl, rfl, ?_, ?_, ?_, ?_⟩)); iterate 3 exact qSc15P2; (conv => whnf))
      | (refine W.go TjcOK 38 hΓ 1000 rfl ?_; (conv => whnf); refine ⟨?_, ?_⟩)
      | (refine D.go TjcOK 38 hΓ 1000 rfl ?_; (conv => whnf); refine ⟨?_, ?_⟩)
      | (refine W.drawn rfl rfl ?_; refine D.run TjcOK 38 hΓ 1000 ?_; (conv => whnf); refine ⟨?_, ?_⟩)
    all_goals (repeat' apply And.intro)
    all_goals try exact qcs0
    refine W.cutA [1, 2, 3] [600] ?_
    (conv => whnf); refine ⟨?_, ?_⟩; focus ((conv => whnf); refine ⟨rfl, rfl, rfl, rfl, rfl, rfl, ?_, ?_⟩; iterate 2 exact qlf1)
    refine W.run TjdOK 38 hΓ 1000 ?_
    conv => whnf
    refine ⟨?_, ?_⟩
    repeat' first
      | assumption
      | exact Bool.noConfusion hb
      | exact absurd hb (by decide)
      | (exfalso; omega)
      | (refine W.retA TjdOK rfl ?_; (conv => whnf); refine ⟨rfl, rfl, rfl, rfl, rfl, rfl, ?_, ?_, ?_⟩)
      | ((first | refine W.branch rfl (fun hb => ?_) (fun hb => ?_) | refine D.branch rfl (fun hb => ?_) (fun hb => ?_)) <;> ((try simp only [qhb, addI, reduceCtorEq, Int.reduceToNat] at hb); (try replace hb := of_decide_eq_true hb); (try replace hb := of_decide_eq_false hb)))
      | ((first | (refine D.callAZ (c1) rfl rfl rfl rfl hΓ rfl ?_; (conv => whnf); refine ⟨rfl, rfl, rfl, ?_, ?_, ?_, ?_, ?_⟩) | (refine W.callAZ (c1) rfl rfl rfl rfl hΓ rfl ?_; (conv => whnf); refine ⟨rfl, rfl, ?_, ?_, ?_, ?_, ?_⟩)); iterate 4 exact qSc15P3; (conv => whnf))
      | ((first | (refine D.callA (cj) rfl rfl rfl rfl hΓ rfl ?_; (conv => whnf); refine ⟨rfl, rfl, rfl, ?_, ?_, ?_, ?_⟩) | (refine W.callA (cj) rfl rfl rfl rfl hΓ rfl ?_; (conv => whnf); refine ⟨rfl, rfl, ?_, ?_, ?_, ?_⟩)); iterate 3 exact qSc15P3; (conv => whnf))
      | (refine W.go TjdOK 38 hΓ 1000 rfl ?_; (conv => whnf); refine ⟨?_, ?_⟩)
      | (refine D.go TjdOK 38 hΓ 1000 rfl ?_; (conv => whnf); refine ⟨?_, ?_⟩)
      | (refine W.drawn rfl rfl ?_; refine D.run TjdOK 38 hΓ 1000 ?_; (conv => whnf); refine ⟨?_, ?_⟩)
    all_goals (repeat' apply And.intro)
    all_goals try first | exact qcl0 | exact w1 | exact qsm0
  · obtain ⟨k1, g1, g2⟩ := h1
    rw [body3 k1] at hlen ⊢
    have w1 : IntKind.u64.wrap r.epoch = r.epoch := wrap_u64_in (by omega) (by omega)
    have c1 := num_does r.epoch (inr_u64.2 ⟨by omega, by omega⟩)
    have e8 := numS_length r.epoch
    refine Does.intro (fn := Try.f66) Try.func66 rfl rfl fun Γ hΓ => ?_
    refine W.run TOK 38 hΓ 1000 ?_
    conv => whnf
    refine ⟨?_, ?_⟩
    repeat' first
      | assumption
      | exact Bool.noConfusion hb
      | exact absurd hb (by decide)
      | (exfalso; omega)
      | (refine W.retA TOK rfl ?_; (conv => whnf); refine ⟨rfl, rfl, rfl, rfl, rfl, rfl, ?_, ?_, ?_⟩)
      | ((first | refine W.branch rfl (fun hb => ?_) (fun hb => ?_) | refine D.branch rfl (fun hb => ?_) (fun hb => ?_)) <;> ((try simp only [qhb, addI, reduceCtorEq, Int.reduceToNat] at hb); (try replace hb := of_decide_eq_true hb); (try replace hb := of_decide_eq_false hb)))
      | ((first | (refine D.callA (c1) rfl rfl rfl rfl hΓ rfl ?_; (conv => whnf); refine ⟨rfl, rfl, rfl, ?_, ?_, ?_, ?_⟩) | (refine W.callA (c1) rfl rfl rfl rfl hΓ rfl ?_; (conv => whnf); refine ⟨rfl, rfl, ?_, ?_, ?_, ?_⟩)); iterate 3 exact qSc15P4; (conv => whnf))
      | (refine W.go TOK 38 hΓ 1000 rfl ?_; (conv => whnf); refine ⟨?_, ?_⟩)
      | (refine D.go TOK 38 hΓ 1000 rfl ?_; (conv => whnf); refine ⟨?_, ?_⟩)
      | (refine W.drawn rfl rfl ?_; refine D.run TOK 38 hΓ 1000 ?_; (conv => whnf); refine ⟨?_, ?_⟩)
    all_goals (repeat' apply And.intro)
    all_goals try first | exact qcl0 | exact w1 | exact e8 | exact e8.symm | exact Nat.le_of_eq e8 | exact qsm0

theorem jput_does (r : Rec) (ho : RecOK r) : Does Try.prog 43 [recA r] [] [1] (Is (.tup [.own 1 1 0 (jputS r).1.length, .int .i64 (jputS r).2]) [(1, some (.arr 1 ((jputS r).1).length (byteAt ((jputS r).1))))]) := by
  have cr := jright_does r
  cases hr : rightS r with
  | false =>
    rw [hr] at cr
    rw [show jputS r = ([], 23) by unfold jputS; rw [hr]; rfl]
    refine Does.intro (fn := Try.f43) Try.func43 rfl rfl fun Γ hΓ => ?_
    refine W.run TOK 16 hΓ 1000 ?_
    conv => whnf
    refine ⟨?_, ?_⟩
    repeat' first
      | assumption
      | exact Bool.noConfusion hb
      | exact absurd hb (by decide)
      | (exfalso; omega)
      | (exfalso; simp at hb; done)
      | (refine W.retA TOK rfl ?_; (conv => whnf); refine ⟨rfl, rfl, rfl, rfl, rfl, rfl, ?_, ?_, ?_⟩)
      | ((first | refine W.branch rfl (fun hb => ?_) (fun hb => ?_) | refine D.branch rfl (fun hb => ?_) (fun hb => ?_)) <;> ((try simp only [qhb, addI, reduceCtorEq, Int.reduceToNat] at hb); (try replace hb := of_decide_eq_true hb); (try replace hb := of_decide_eq_false hb)))
      | ((first | (refine D.callA (cr) rfl rfl rfl rfl hΓ rfl ?_; (conv => whnf); refine ⟨rfl, rfl, rfl, ?_, ?_, ?_, ?_⟩) | (refine W.callA (cr) rfl rfl rfl rfl hΓ rfl ?_; (conv => whnf); refine ⟨rfl, rfl, ?_, ?_, ?_, ?_⟩)); iterate 3 exact qSc15P2; (conv => whnf))
      | (refine W.go TOK 16 hΓ 1000 rfl ?_; (conv => whnf); refine ⟨?_, ?_⟩)
      | (refine D.go TOK 16 hΓ 1000 rfl ?_; (conv => whnf); refine ⟨?_, ?_⟩)
      | (refine W.drawn rfl rfl ?_; refine D.run TOK 16 hΓ 1000 ?_; (conv => whnf); refine ⟨?_, ?_⟩)
    all_goals (repeat' apply And.intro)
    all_goals try exact qcs0
  | true =>
    rw [hr] at cr
    have hl := body_len hr
    have cb := jbody_does r hr ho
    have cp := put_does r.kind r.seq (bodyS r) ho.kind ho.seq (by omega)
    rw [show jputS r = putS r.kind r.seq (bodyS r) by unfold jputS; rw [hr]; rfl]
    refine Does.intro (fn := Try.f43) Try.func43 rfl rfl fun Γ hΓ => ?_
    refine W.run TOK 16 hΓ 1000 ?_
    conv => whnf
    refine ⟨?_, ?_⟩
    repeat' first
      | assumption
      | exact Bool.noConfusion hb
      | exact absurd hb (by decide)
      | (exfalso; omega)
      | (exfalso; simp at hb; done)
      | (refine W.retA TOK rfl ?_; (conv => whnf); refine ⟨rfl, rfl, rfl, rfl, rfl, rfl, ?_, ?_, ?_⟩)
      | ((first | refine W.branch rfl (fun hb => ?_) (fun hb => ?_) | refine D.branch rfl (fun hb => ?_) (fun hb => ?_)) <;> ((try simp only [qhb, addI, reduceCtorEq, Int.reduceToNat] at hb); (try replace hb := of_decide_eq_true hb); (try replace hb := of_decide_eq_false hb)))
      | ((first | (refine D.callA (cr) rfl rfl rfl rfl hΓ rfl ?_; (conv => whnf); refine ⟨rfl, rfl, rfl, ?_, ?_, ?_, ?_⟩) | (refine W.callA (cr) rfl rfl rfl rfl hΓ rfl ?_; (conv => whnf); refine ⟨rfl, rfl, ?_, ?_, ?_, ?_⟩)); iterate 3 exact qSc15P2; (conv => whnf))
      | ((first | (refine D.callAZ (cb) rfl rfl rfl rfl hΓ rfl ?_; (conv => whnf); refine ⟨rfl, rfl, rfl, ?_, ?_, ?_, ?_, ?_⟩) | (refine W.callAZ (cb) rfl rfl rfl rfl hΓ rfl ?_; (conv => whnf); refine ⟨rfl, rfl, ?_, ?_, ?_, ?_, ?_⟩)); iterate 4 exact qSc15P2; (conv => whnf))
      | ((first | (refine D.callA (cp) rfl rfl rfl rfl hΓ rfl ?_; (conv => whnf); refine ⟨rfl, rfl, rfl, ?_, ?_, ?_, ?_⟩) | (refine W.callA (cp) rfl rfl rfl rfl hΓ rfl ?_; (conv => whnf); refine ⟨rfl, rfl, ?_, ?_, ?_, ?_⟩)); iterate 3 exact qSc15P2; (conv => whnf))
      | (refine W.go TOK 16 hΓ 1000 rfl ?_; (conv => whnf); refine ⟨?_, ?_⟩)
      | (refine D.go TOK 16 hΓ 1000 rfl ?_; (conv => whnf); refine ⟨?_, ?_⟩)
      | (refine W.drawn rfl rfl ?_; refine D.run TOK 16 hΓ 1000 ?_; (conv => whnf); refine ⟨?_, ?_⟩)
    all_goals (repeat' apply And.intro)
    all_goals try exact qcs0

end Go.Proofs.Ytcolghonbncpnaa
