/- Walks: requests as bytes. -/
import Derived.Test.YtcolghonbncpnaaSc15F
import Derived.Test.YtcolghonbncpnaaPlB
import Derived.Test.YtcolghonbncpnaaVxI
set_option linter.unusedSimpArgs false
set_option linter.unusedVariables false
namespace Go.Proofs.Ytcolghonbncpnaa
open VX
set_option maxRecDepth 100000
set_option maxHeartbeats 4000000
theorem qSc15U1 {P : Prop} (h : P := by (focus ((repeat' apply And.intro) <;> first | exact qlf0 | exact ⟨rfl, rfl, rfl⟩ | exact ⟨rfl, rfl, rfl, rfl, ⟨rfl, rfl⟩⟩ | ((repeat' apply And.intro) <;> rfl)))) : P := h
theorem qSc15U2 {P : Prop} (h : P := by (focus ((repeat' apply And.intro) <;> first | exact qlf0 | exact sim2a (sim_roB (numS_length _).symm (fun _ _ => A.sim.refl _)) (sim_roB (numS_length _).symm (fun _ _ => A.sim.refl _))))) : P := h
theorem qSc15U3 {P : Prop} (h : P := by (focus ((repeat' apply And.intro) <;> first | exact qlf0 | exact hw | exact hw.symm | exact hs9 | exact hs9.symm))) : P := h
theorem qSc15U4 {P : Prop} (h : P := by (focus ((repeat' apply And.intro) <;> first | exact qlf0 | exact ⟨rfl, rfl, rfl⟩ | exact ⟨rfl, rfl, rfl, rfl, ⟨rfl, rfl⟩⟩ | ((repeat' apply And.intro) <;> rfl) | exact hwv | exact hwc | exact sim5a (sim_roB hll.symm (fun _ _ => A.sim.refl _)) (sim_roB (numS_length _).symm (fun _ _ => A.sim.refl _)) (sim_roB (numS_length _).symm (fun _ _ => A.sim.refl _)) (sim_roB (numS_length _).symm (fun _ _ => A.sim.refl _)) (sim_roB rfl (fun _ _ => A.sim.refl _))))) : P := h
theorem qSc15U5 {P : Prop} (h : P := by (focus ((repeat' apply And.intro) <;> first | exact qlf0 | exact ⟨rfl, rfl, rfl⟩ | exact ⟨rfl, rfl, rfl, rfl, ⟨rfl, rfl⟩⟩ | ((repeat' apply And.intro) <;> rfl) | exact hwc | exact hs9 | exact hs9.symm))) : P := h
theorem qSc15U6 {P : Prop} (h : P := by first | exact qcl0 | exact qsm0 | exact decide_eq_false (by omega)) : P := h
theorem qSc15U7 {P : Prop} (h : P := by first | exact qcl0 | exact qsm0 | exact decide_eq_true (by omega)) : P := h
theorem qSc15U8 {P : Prop} (h : P := by first | exact qcl0 | exact qsm0 | exact decide_eq_true h1) : P := h
theorem qSc15U9 {P : Prop} (h : P := by first | exact qcl0 | exact qsm0 | exact decide_eq_false h1) : P := h
theorem qSc15U10 {P : Prop} (h : P := by first | exact qcl0 | exact hw | exact qsm0) : P := h
theorem qSc15U11 {P : Prop} (h : P := by first | exact qcl0 | exact hs9 | exact hs9.symm | exact Nat.le_of_eq hs9.symm | exact c3 _ | exact qsm0) : P := h
theorem qSc15U12 {P : Prop} (h : P := by
  refine W.run TOK 33 hΓ 1000 ?_
  conv => whnf
  refine ⟨?_, ?_⟩
  repeat' first
    | assumption
    | exact Bool.noConfusion hb
    | exact absurd hb (by decide)
    | (exfalso; omega)
    | (refine W.retA TOK rfl ?_; (conv => whnf); refine ⟨rfl, rfl, rfl, rfl, rfl, rfl, ?_, ?_, ?_⟩)
    | (refine W.branch rfl (fun hb => ?_) (fun hb => ?_) <;> ((try simp only [qhb, addI, reduceCtorEq, Int.reduceToNat] at hb); (try replace hb := of_decide_eq_true hb); (try replace hb := of_decide_eq_false hb)))
    | (refine W.go TOK 33 hΓ 1000 rfl ?_; (conv => whnf); refine ⟨?_, ?_⟩)
  all_goals (repeat' apply And.intro)
  all_goals try exact qSc15U6) : P := h
theorem qSc15U13 {P : Prop} (h : P := by
  refine W.run TOK 16 hΓ 1000 ?_
  conv => whnf
  refine ⟨?_, ?_⟩
  repeat' first
    | assumption
    | exact Bool.noConfusion hb
    | exact absurd hb (by decide)
    | (exfalso; omega)
    | (exfalso; simp at hb; done)
    | (refine W.retA TOK rfl ?_; (conv => whnf); refine ⟨rfl, rfl, rfl, rfl, rfl, rfl, ?_, ?_, ?_⟩)
    | (refine W.branch rfl (fun hb => ?_) (fun hb => ?_) <;> ((try simp only [qhb, addI, reduceCtorEq, Int.reduceToNat] at hb); (try replace hb := of_decide_eq_true hb); (try replace hb := of_decide_eq_false hb)))
    | (refine W.callA (ce) rfl rfl rfl rfl hΓ rfl ?_; (conv => whnf); refine ⟨rfl, rfl, ?_, ?_, ?_, ?_⟩; iterate 3 exact qSc15U1; (conv => whnf))
    | (refine W.callA (cm) rfl rfl rfl rfl hΓ rfl ?_; (conv => whnf); refine ⟨rfl, rfl, ?_, ?_, ?_, ?_⟩; iterate 3 exact qSc15U1; (conv => whnf))
    | (refine W.go TOK 16 hΓ 1000 rfl ?_; (conv => whnf); refine ⟨?_, ?_⟩)
  all_goals (repeat' apply And.intro)
  all_goals try exact qSc15U8) : P := h
theorem qSc15U14 {P : Prop} (h : P := by
  refine W.run TOK 16 hΓ 1000 ?_
  conv => whnf
  refine ⟨?_, ?_⟩
  repeat' first
    | assumption
    | exact Bool.noConfusion hb
    | exact absurd hb (by decide)
    | (exfalso; omega)
    | (exfalso; simp at hb; done)
    | (refine W.retA TOK rfl ?_; (conv => whnf); refine ⟨rfl, rfl, rfl, rfl, rfl, rfl, ?_, ?_, ?_⟩)
    | (refine W.branch rfl (fun hb => ?_) (fun hb => ?_) <;> ((try simp only [qhb, addI, reduceCtorEq, Int.reduceToNat] at hb); (try replace hb := of_decide_eq_true hb); (try replace hb := of_decide_eq_false hb)))
    | (refine W.callA (ce) rfl rfl rfl rfl hΓ rfl ?_; (conv => whnf); refine ⟨rfl, rfl, ?_, ?_, ?_, ?_⟩; iterate 3 exact qSc15U1; (conv => whnf))
    | (refine W.callA (cm) rfl rfl rfl rfl hΓ rfl ?_; (conv => whnf); refine ⟨rfl, rfl, ?_, ?_, ?_, ?_⟩; iterate 3 exact qSc15U1; (conv => whnf))
    | (refine W.go TOK 16 hΓ 1000 rfl ?_; (conv => whnf); refine ⟨?_, ?_⟩)
  all_goals (repeat' apply And.intro)
  all_goals try exact qSc15U9) : P := h
theorem qSc15U15 {P : Prop} (h : P := by
  refine W.run TOK 16 hΓ 1000 ?_
  conv => whnf
  refine ⟨?_, ?_⟩
  repeat' first
    | assumption
    | exact Bool.noConfusion hb
    | exact absurd hb (by decide)
    | (exfalso; omega)
    | (exfalso; simp at hb; done)
    | (refine W.retA TOK rfl ?_; (conv => whnf); refine ⟨rfl, rfl, rfl, rfl, rfl, rfl, ?_, ?_, ?_⟩)
    | (refine W.branch rfl (fun hb => ?_) (fun hb => ?_) <;> ((try simp only [qhb, addI, reduceCtorEq, Int.reduceToNat] at hb); (try replace hb := of_decide_eq_true hb); (try replace hb := of_decide_eq_false hb)))
    | (refine W.callA (ce) rfl rfl rfl rfl hΓ rfl ?_; (conv => whnf); refine ⟨rfl, rfl, ?_, ?_, ?_, ?_⟩; iterate 3 exact qSc15U1; (conv => whnf))
    | (refine W.callA (cm) rfl rfl rfl rfl hΓ rfl ?_; (conv => whnf); refine ⟨rfl, rfl, ?_, ?_, ?_, ?_⟩; iterate 3 exact qSc15U1; (conv => whnf))
    | (refine W.go TOK 16 hΓ 1000 rfl ?_; (conv => whnf); refine ⟨?_, ?_⟩)
  all_goals (repeat' apply And.intro)
  all_goals try exact qcs0) : P := h
theorem qSc15U16 {P : Prop} (h : P := by
  have e : mayE s v k = false := decide_eq_false (fun h => by omega)
  rw [e]
  refine Does.intro (fn := Try.f79) Try.func79 rfl rfl fun Γ hΓ => ?_
  exact qSc15U12) : P := h
theorem qSc15U17 {P : Prop} (h : P := by
  have e : mayE s v k = false := decide_eq_false (fun h => by omega)
  rw [e]
  refine Does.intro (fn := Try.f70) Try.func70 rfl rfl fun Γ hΓ => ?_
  exact qSc15U12) : P := h
theorem qSc15U18 {P : Prop} (h : P := by
  refine W.run TOK 33 hΓ 1000 ?_
  conv => whnf
  refine ⟨?_, ?_⟩
  repeat' first
    | assumption
    | exact Bool.noConfusion hb
    | exact absurd hb (by decide)
    | (exfalso; omega)
    | (refine W.retA TOK rfl ?_; (conv => whnf); refine ⟨rfl, rfl, rfl, rfl, rfl, rfl, ?_, ?_, ?_⟩)
    | (refine W.branch rfl (fun hb => ?_) (fun hb => ?_) <;> ((try simp only [qhb, addI, reduceCtorEq, Int.reduceToNat] at hb); (try replace hb := of_decide_eq_true hb); (try replace hb := of_decide_eq_false hb)))
    | (refine W.go TOK 33 hΓ 1000 rfl ?_; (conv => whnf); refine ⟨?_, ?_⟩)
  all_goals (repeat' apply And.intro)
  all_goals try exact qSc15U7) : P := h
theorem qSc15U19 {P : Prop} (h : P := by
  refine W.run TOK 7 hΓ 1000 ?_
  conv => whnf
  refine ⟨?_, ?_⟩
  repeat' first
    | assumption
    | exact Bool.noConfusion hb
    | exact absurd hb (by decide)
    | (exfalso; omega)
    | (refine W.retA TOK rfl ?_; (conv => whnf); refine ⟨rfl, rfl, rfl, rfl, rfl, rfl, ?_, ?_, ?_⟩)
    | (refine W.branch rfl (fun hb => ?_) (fun hb => ?_) <;> ((try simp only [qhb, addI, reduceCtorEq, Int.reduceToNat] at hb); (try replace hb := of_decide_eq_true hb); (try replace hb := of_decide_eq_false hb)))
    | (refine W.go TOK 7 hΓ 1000 rfl ?_; (conv => whnf); refine ⟨?_, ?_⟩)
  all_goals (repeat' apply And.intro)
  all_goals try exact qSc15U10) : P := h
theorem qSc15U20 {P : Prop} (h : P := by
  refine W.run TOK 7 hΓ 1000 ?_
  conv => whnf
  refine ⟨?_, ?_⟩
  repeat' first
    | assumption
    | exact Bool.noConfusion hb
    | exact absurd hb (by decide)
    | (exfalso; omega)
    | (refine W.retA TOK rfl ?_; (conv => whnf); refine ⟨rfl, rfl, rfl, rfl, rfl, rfl, ?_, ?_, ?_⟩)
    | (refine W.branch rfl (fun hb => ?_) (fun hb => ?_) <;> ((try simp only [qhb, addI, reduceCtorEq, Int.reduceToNat] at hb); (try replace hb := of_decide_eq_true hb); (try replace hb := of_decide_eq_false hb)))
    | (refine W.go TOK 7 hΓ 1000 rfl ?_; (conv => whnf); refine ⟨?_, ?_⟩)
  all_goals (repeat' apply And.intro)
  all_goals try exact qcs0) : P := h
theorem qSc15U21 {P : Prop} (h : P := by
  refine W.run TOK 10 hΓ 1000 ?_
  conv => whnf
  refine ⟨?_, ?_⟩
  repeat' first
    | assumption
    | exact Bool.noConfusion hb
    | exact absurd hb (by decide)
    | (refine W.retA TOK rfl ?_; (conv => whnf); refine ⟨rfl, rfl, rfl, rfl, rfl, rfl, ?_, ?_, ?_⟩)
    | (refine W.branch rfl (fun hb => ?_) (fun hb => ?_) <;> ((try simp only [qhb, addI, reduceCtorEq, Int.reduceToNat] at hb); (try replace hb := of_decide_eq_true hb); (try replace hb := of_decide_eq_false hb)))
    | (refine W.go TOK 10 hΓ 1000 rfl ?_; (conv => whnf); refine ⟨?_, ?_⟩)
  all_goals (repeat' apply And.intro)
  all_goals try exact qcs0) : P := h
theorem may_does (s : List UInt8) (v k : Int) : Does Try.prog 79 [entA s v k] [] [] (Is (.bool (mayE s v k)) []) := by
  by_cases h1 : 1 ≤ s.length
  rotate_left
  · exact qSc15U16
  by_cases h2 : s.length ≤ 32
  rotate_left
  · exact qSc15U16
  by_cases h3 : 1 ≤ v
  rotate_left
  · exact qSc15U16
  by_cases h4 : v ≤ 1073741824
  rotate_left
  · exact qSc15U16
  by_cases h5 : 1 ≤ k
  rotate_left
  · exact qSc15U16
  by_cases h6 : k < 2305843009213693951
  rotate_left
  · exact qSc15U16
  have e : mayE s v k = true := decide_eq_true ⟨h1, h2, h3, h4, h5, h6⟩
  rw [e]
  refine Does.intro (fn := Try.f79) Try.func79 rfl rfl fun Γ hΓ => ?_
  exact qSc15U18

theorem rmay_does (s : List UInt8) (v k : Int) : Does Try.prog 70 [entA s v k] [] [] (Is (.bool (mayE s v k)) []) := by
  by_cases h1 : 1 ≤ s.length
  rotate_left
  · exact qSc15U17
  by_cases h2 : s.length ≤ 32
  rotate_left
  · exact qSc15U17
  by_cases h3 : 1 ≤ v
  rotate_left
  · exact qSc15U17
  by_cases h4 : v ≤ 1073741824
  rotate_left
  · exact qSc15U17
  by_cases h5 : 1 ≤ k
  rotate_left
  · exact qSc15U17
  by_cases h6 : k < 2305843009213693951
  rotate_left
  · exact qSc15U17
  have e : mayE s v k = true := decide_eq_true ⟨h1, h2, h3, h4, h5, h6⟩
  rw [e]
  refine Does.intro (fn := Try.f70) Try.func70 rfl rfl fun Γ hΓ => ?_
  exact qSc15U18

theorem entry_does (u : Upd) : Does Try.prog 80 [updA u] [] [] (Is (entA u.name u.ver u.key) []) := by
  refine Does.intro (fn := Try.f80) Try.func80 rfl rfl fun Γ hΓ => ?_
  exact qSc15U21

theorem rentry_does (u : Upd) : Does Try.prog 54 [updA u] [] [] (Is (entA u.name u.ver u.key) []) := by
  refine Does.intro (fn := Try.f54) Try.func54 rfl rfl fun Γ hΓ => ?_
  exact qSc15U21

theorem updright_does (u : Upd) : Does Try.prog 62 [updA u] [] [] (Is (.bool (updRight u)) []) := by
  rw [updRight_eq]
  have ce := entry_does u
  have cm := may_does u.name u.ver u.key
  generalize mayE u.name u.ver u.key = m at cm ⊢
  cases m with
  | false =>
    rw [Bool.false_and]
    refine Does.intro (fn := Try.f62) Try.func62 rfl rfl fun Γ hΓ => ?_
    refine W.run TOK 16 hΓ 1000 ?_
    conv => whnf
    refine ⟨?_, ?_⟩
    repeat' first
      | assumption
      | exact Bool.noConfusion hb
      | exact absurd hb (by decide)
      | (exfalso; omega)
      | (exfalso; simp at hb; done)
      | (refine W.retA TOK rfl ?_; (conv => whnf); refine ⟨rfl, rfl, rfl, rfl, rfl, rfl, ?_, ?_, ?_⟩)
      | (refine W.branch rfl (fun hb => ?_) (fun hb => ?_) <;> ((try simp only [qhb, addI, reduceCtorEq, Int.reduceToNat] at hb); (try replace hb := of_decide_eq_true hb); (try replace hb := of_decide_eq_false hb)))
      | (refine W.callA (ce) rfl rfl rfl rfl hΓ rfl ?_; (conv => whnf); refine ⟨rfl, rfl, ?_, ?_, ?_, ?_⟩; iterate 3 exact qSc15U1; (conv => whnf))
      | (refine W.callA (cm) rfl rfl rfl rfl hΓ rfl ?_; (conv => whnf); refine ⟨rfl, rfl, ?_, ?_, ?_, ?_⟩; iterate 3 exact qSc15U1; (conv => whnf))
      | (refine W.go TOK 16 hΓ 1000 rfl ?_; (conv => whnf); refine ⟨?_, ?_⟩)
    all_goals (repeat' apply And.intro)
    all_goals try exact qcs0
  | true =>
    rw [Bool.true_and]
    by_cases h0 : u.cls = 0
    · rw [decide_eq_true (.inl h0)]
      refine Does.intro (fn := Try.f62) Try.func62 rfl rfl fun Γ hΓ => ?_
      exact qSc15U15
    · by_cases h1 : u.cls = 1
      · rw [decide_eq_true (.inr h1)]
        refine Does.intro (fn := Try.f62) Try.func62 rfl rfl fun Γ hΓ => ?_
        exact qSc15U13
      · rw [decide_eq_false (fun h => h.elim h0 h1)]
        refine Does.intro (fn := Try.f62) Try.func62 rfl rfl fun Γ hΓ => ?_
        exact qSc15U14
theorem rupdright_does (u : Upd) : Does Try.prog 49 [updA u] [] [] (Is (.bool (updRight u)) []) := by
  rw [updRight_eq]
  have ce := rentry_does u
  have cm := rmay_does u.name u.ver u.key
  generalize mayE u.name u.ver u.key = m at cm ⊢
  cases m with
  | false =>
    rw [Bool.false_and]
    refine Does.intro (fn := Try.f49) Try.func49 rfl rfl fun Γ hΓ => ?_
    refine W.run TOK 16 hΓ 1000 ?_
    conv => whnf
    refine ⟨?_, ?_⟩
    repeat' first
      | assumption
      | exact Bool.noConfusion hb
      | exact absurd hb (by decide)
      | (exfalso; omega)
      | (exfalso; simp at hb; done)
      | (refine W.retA TOK rfl ?_; (conv => whnf); refine ⟨rfl, rfl, rfl, rfl, rfl, rfl, ?_, ?_, ?_⟩)
      | (refine W.branch rfl (fun hb => ?_) (fun hb => ?_) <;> ((try simp only [qhb, addI, reduceCtorEq, Int.reduceToNat] at hb); (try replace hb := of_decide_eq_true hb); (try replace hb := of_decide_eq_false hb)))
      | (refine W.callA (ce) rfl rfl rfl rfl hΓ rfl ?_; (conv => whnf); refine ⟨rfl, rfl, ?_, ?_, ?_, ?_⟩; iterate 3 exact qSc15U1; (conv => whnf))
      | (refine W.callA (cm) rfl rfl rfl rfl hΓ rfl ?_; (conv => whnf); refine ⟨rfl, rfl, ?_, ?_, ?_, ?_⟩; iterate 3 exact qSc15U1; (conv => whnf))
      | (refine W.go TOK 16 hΓ 1000 rfl ?_; (conv => whnf); refine ⟨?_, ?_⟩)
    all_goals (repeat' apply And.intro)
    all_goals try exact qcs0
  | true =>
    rw [Bool.true_and]
    by_cases h0 : u.cls = 0
    · rw [decide_eq_true (.inl h0)]
      refine Does.intro (fn := Try.f49) Try.func49 rfl rfl fun Γ hΓ => ?_
      exact qSc15U15
    · by_cases h1 : u.cls = 1
      · rw [decide_eq_true (.inr h1)]
        refine Does.intro (fn := Try.f49) Try.func49 rfl rfl fun Γ hΓ => ?_
        exact qSc15U13
      · rw [decide_eq_false (fun h => h.elim h0 h1)]
        refine Does.intro (fn := Try.f49) Try.func49 rfl rfl fun Γ hΓ => ?_
        exact qSc15U14
theorem unear_does (n : Int) (h : inr .u64 n) : Does Try.prog 60 [.int .u64 n] [] [] (Is (.int .i64 (nearV n)) []) := by
  rw [inr_u64] at h
  unfold nearV
  by_cases h1 : 1073741824 < n
  · rw [if_pos h1]
    refine Does.intro (fn := Try.f60) Try.func60 rfl rfl fun Γ hΓ => ?_
    exact qSc15U20
  · rw [if_neg h1]
    have hw : IntKind.i64.wrap n = n := wrap_i64_in (by omega) (by omega)
    refine Does.intro (fn := Try.f60) Try.func60 rfl rfl fun Γ hΓ => ?_
    exact qSc15U19
theorem jnear_does (n : Int) (h : inr .u64 n) : Does Try.prog 38 [.int .u64 n] [] [] (Is (.int .i64 (nearT n)) []) := by
  rw [inr_u64] at h
  unfold nearT
  by_cases h1 : 1152921504606846976 < n
  · rw [if_pos h1]
    refine Does.intro (fn := Try.f38) Try.func38 rfl rfl fun Γ hΓ => ?_
    exact qSc15U20
  · rw [if_neg h1]
    have hw : IntKind.i64.wrap n = n := wrap_i64_in (by omega) (by omega)
    refine Does.intro (fn := Try.f38) Try.func38 rfl rfl fun Γ hΓ => ?_
    exact qSc15U19
def Tsg : Tab := { l := tabL, frz := [9] }
theorem TsgOK : TabOK Try.prog Tsg.l := tabOK
theorem sgput_does (r s : Int) (hr : inr .u64 r) (hs : inr .u64 s) : Does Try.prog 92 [.agg [.int .u64 r, .int .u64 s]] [] [1] (Is (.own 1 1 0 (sgB r s).length) [(1, some (.arr 1 (sgB r s).length (byteAt (sgB r s))))]) := by
  have hf : [numS r, numS s].flatten = sgB r s := by simp [sgB]
  have cj := join_does [numS r, numS s] (by show (2 : Nat) ≤ 1000000000000; decide) (by rw [hf, sgB_len]; omega)
  rw [hf] at cj
  refine Does.intro (fn := Try.f92) Try.func92 rfl rfl fun Γ hΓ => ?_
  refine W.run TsgOK 11 hΓ 1000 ?_
  conv => whnf
  refine ⟨?_, ?_⟩
  repeat' first
    | assumption
    | exact Bool.noConfusion hb
    | exact absurd hb (by decide)
    | (exfalso; omega)
    | (refine W.retA TsgOK rfl ?_; (conv => whnf); refine ⟨rfl, rfl, rfl, rfl, rfl, rfl, ?_, ?_, ?_⟩)
    | ((first | refine W.branch rfl (fun hb => ?_) (fun hb => ?_) | refine D.branch rfl (fun hb => ?_) (fun hb => ?_)) <;> ((try simp only [qhb, addI, reduceCtorEq, Int.reduceToNat] at hb); (try replace hb := of_decide_eq_true hb); (try replace hb := of_decide_eq_false hb)))
    | ((first | (refine D.callAZ (num_does r hr) rfl rfl rfl rfl hΓ rfl ?_; (conv => whnf); refine ⟨rfl, rfl, rfl, ?_, ?_, ?_, ?_, ?_⟩) | (refine W.callAZ (num_does r hr) rfl rfl rfl rfl hΓ rfl ?_; (conv => whnf); refine ⟨rfl, rfl, ?_, ?_, ?_, ?_, ?_⟩)); iterate 4 exact qSc15U2; (conv => whnf))
    | ((first | (refine D.callAZ (num_does s hs) rfl rfl rfl rfl hΓ rfl ?_; (conv => whnf); refine ⟨rfl, rfl, rfl, ?_, ?_, ?_, ?_, ?_⟩) | (refine W.callAZ (num_does s hs) rfl rfl rfl rfl hΓ rfl ?_; (conv => whnf); refine ⟨rfl, rfl, ?_, ?_, ?_, ?_, ?_⟩)); iterate 4 exact qSc15U2; (conv => whnf))
    | ((first | (refine D.callA (cj) rfl rfl rfl rfl hΓ rfl ?_; (conv => whnf); refine ⟨rfl, rfl, rfl, ?_, ?_, ?_, ?_⟩) | (refine W.callA (cj) rfl rfl rfl rfl hΓ rfl ?_; (conv => whnf); refine ⟨rfl, rfl, ?_, ?_, ?_, ?_⟩)); iterate 3 exact qSc15U2; (conv => whnf))
    | (refine W.go TsgOK 11 hΓ 1000 rfl ?_; (conv => whnf); refine ⟨?_, ?_⟩)
    | (refine D.go TsgOK 11 hΓ 1000 rfl ?_; (conv => whnf); refine ⟨?_, ?_⟩)
    | (refine W.drawn rfl rfl ?_; refine D.run TsgOK 11 hΓ 1000 ?_; (conv => whnf); refine ⟨?_, ?_⟩)
  all_goals (repeat' apply And.intro)
  all_goals try exact qcs0

theorem rsgput_does (r s : Int) (hr : inr .u64 r) (hs : inr .u64 s) : Does Try.prog 56 [.agg [.int .u64 r, .int .u64 s]] [] [1] (Is (.own 1 1 0 (sgB r s).length) [(1, some (.arr 1 (sgB r s).length (byteAt (sgB r s))))]) := by
  have hl := sgB_len r s
  have hl1 := numS_length r
  refine Does.intro (fn := Try.f56) Try.func56 rfl rfl fun Γ hΓ => ?_
  refine W.run TOK 10 hΓ 1000 ?_
  conv => whnf
  refine ⟨?_, ?_⟩
  repeat' first
    | assumption
    | exact Bool.noConfusion hb
    | exact absurd hb (by decide)
    | (exfalso; omega)
    | (refine W.retA TOK rfl ?_; (conv => whnf); refine ⟨rfl, rfl, rfl, rfl, rfl, rfl, ?_, ?_, ?_⟩)
    | ((first | refine W.branch rfl (fun hb => ?_) (fun hb => ?_) | refine D.branch rfl (fun hb => ?_) (fun hb => ?_)) <;> ((try simp only [qhb, addI, reduceCtorEq, Int.reduceToNat] at hb); (try replace hb := of_decide_eq_true hb); (try replace hb := of_decide_eq_false hb)))
    | ((first | (refine D.callA (rnum_does r hr) rfl rfl rfl rfl hΓ rfl ?_; (conv => whnf); refine ⟨rfl, rfl, rfl, ?_, ?_, ?_, ?_⟩) | (refine W.callA (rnum_does r hr) rfl rfl rfl rfl hΓ rfl ?_; (conv => whnf); refine ⟨rfl, rfl, ?_, ?_, ?_, ?_⟩)); iterate 3 exact qlf1; (conv => whnf))
    | ((first | (refine D.callA (rnum_does s hs) rfl rfl rfl rfl hΓ rfl ?_; (conv => whnf); refine ⟨rfl, rfl, rfl, ?_, ?_, ?_, ?_⟩) | (refine W.callA (rnum_does s hs) rfl rfl rfl rfl hΓ rfl ?_; (conv => whnf); refine ⟨rfl, rfl, ?_, ?_, ?_, ?_⟩)); iterate 3 exact qlf1; (conv => whnf))
    | (refine W.go TOK 10 hΓ 1000 rfl ?_; (conv => whnf); refine ⟨?_, ?_⟩)
    | (refine D.go TOK 10 hΓ 1000 rfl ?_; (conv => whnf); refine ⟨?_, ?_⟩)
    | (refine W.drawn rfl rfl ?_; refine D.run TOK 10 hΓ 1000 ?_; (conv => whnf); refine ⟨?_, ?_⟩)
  all_goals (repeat' apply And.intro)
  all_goals try first | exact qcl0 | exact hl.symm | exact hl | exact Nat.le_of_eq hl | exact cat2B hl1.symm | exact qsm0

theorem rfields_does (s : List UInt8) (v k : Int) (h9 : s.length ≤ 1000000) (hv : 0 ≤ v ∧ v ≤ 9223372036854775807) (hk : inr .u64 k) : Does Try.prog 55 [entA s v k] [] [1] (Is (.own 1 1 0 (fdB s v k).length) [(1, some (.arr 1 (fdB s v k).length (byteAt (fdB s v k))))]) := by
  have hl := fdB_len s v k
  have hw : IntKind.u64.wrap v = v := wrap_u64_in (by omega) (by omega)
  have hvu : inr .u64 v := inr_u64.2 ⟨by omega, by omega⟩
  have hll := lumpS_length s
  have hs9 : 8 + s.length + 8 + 8 = (fdB s v k).length := by omega
  have cl := rlump_does s (by omega)
  have c3 : ∀ q, ∀ i, i < q → (catF (8 + s.length + 8) (catF (8 + s.length) (byteAt (lumpS s)) (byteAt (numS v))) (byteAt (numS k)) i).sim (byteAt (fdB s v k) i) := fun q => cat3B hll.symm (by rw [hll, numS_length])
  refine Does.intro (fn := Try.f55) Try.func55 rfl rfl fun Γ hΓ => ?_
  refine W.run TOK 19 hΓ 1000 ?_
  conv => whnf
  refine ⟨?_, ?_⟩
  repeat' first
    | assumption
    | exact Bool.noConfusion hb
    | exact absurd hb (by decide)
    | (exfalso; omega)
    | (refine W.retA TOK rfl ?_; (conv => whnf); refine ⟨rfl, rfl, rfl, rfl, rfl, rfl, ?_, ?_, ?_⟩)
    | (refine W.branch rfl (fun hb => ?_) (fun hb => ?_) <;> ((try simp only [qhb, addI, reduceCtorEq, Int.reduceToNat] at hb); (try replace hb := of_decide_eq_true hb); (try replace hb := of_decide_eq_false hb)))
    | (refine W.callA (cl) rfl rfl rfl rfl hΓ rfl ?_; (conv => whnf); refine ⟨rfl, rfl, ?_, ?_, ?_, ?_⟩; iterate 3 exact qSc15U3; (conv => whnf))
    | (refine W.callA (rnum_does v hvu) rfl rfl rfl rfl hΓ rfl ?_; (conv => whnf); refine ⟨rfl, rfl, ?_, ?_, ?_, ?_⟩; iterate 3 exact qSc15U3; (conv => whnf))
    | (refine W.callA (rnum_does k hk) rfl rfl rfl rfl hΓ rfl ?_; (conv => whnf); refine ⟨rfl, rfl, ?_, ?_, ?_, ?_⟩; iterate 3 exact qSc15U3; (conv => whnf))
    | (refine W.go TOK 19 hΓ 1000 rfl ?_; (conv => whnf); refine ⟨?_, ?_⟩)
  all_goals (repeat' apply And.intro)
  all_goals try exact qSc15U11

def Tup : Tab := { l := tabL, frz := [25] }
theorem TupOK : TabOK Try.prog Tup.l := tabOK
theorem uput_does (u : Upd) (hu : UpdOK u) : Does Try.prog 83 [updA u] [] [1] (Is (.tup [.own 1 1 0 (uputS u).1.length, .int .i64 (uputS u).2]) [(1, some (.arr 1 (uputS u).1.length (byteAt (uputS u).1)))]) := by
  have cr := updright_does u
  cases hr : updRight u with
  | false =>
    rw [hr] at cr
    rw [show uputS u = ([], 23) by unfold uputS; rw [hr]; rfl]
    refine Does.intro (fn := Try.f83) Try.func83 rfl rfl fun Γ hΓ => ?_
    refine W.run TupOK 27 hΓ 1000 ?_
    conv => whnf
    refine ⟨?_, ?_⟩
    repeat' first
      | assumption
      | exact Bool.noConfusion hb
      | exact absurd hb (by decide)
      | (exfalso; omega)
      | (exfalso; simp at hb; done)
      | (refine W.retA TupOK rfl ?_; (conv => whnf); refine ⟨rfl, rfl, rfl, rfl, rfl, rfl, ?_, ?_, ?_⟩)
      | ((first | refine W.branch rfl (fun hb => ?_) (fun hb => ?_) | refine D.branch rfl (fun hb => ?_) (fun hb => ?_)) <;> ((try simp only [qhb, addI, reduceCtorEq, Int.reduceToNat] at hb); (try replace hb := of_decide_eq_true hb); (try replace hb := of_decide_eq_false hb)))
      | ((first | (refine D.callA (cr) rfl rfl rfl rfl hΓ rfl ?_; (conv => whnf); refine ⟨rfl, rfl, rfl, ?_, ?_, ?_, ?_⟩) | (refine W.callA (cr) rfl rfl rfl rfl hΓ rfl ?_; (conv => whnf); refine ⟨rfl, rfl, ?_, ?_, ?_, ?_⟩)); iterate 3 exact qSc15U1; (conv => whnf))
      | (refine W.go TupOK 27 hΓ 1000 rfl ?_; (conv => whnf); refine ⟨?_, ?_⟩)
      | (refine D.go TupOK 27 hΓ 1000 rfl ?_; (conv => whnf); refine ⟨?_, ?_⟩)
      | (refine W.drawn rfl rfl ?_; refine D.run TupOK 27 hΓ 1000 ?_; (conv => whnf); refine ⟨?_, ?_⟩)
    all_goals (repeat' apply And.intro)
    all_goals try exact qcs0
  | true =>
    rw [hr] at cr
    obtain ⟨f1, f2, f3, f4, f5, f6, f7⟩ := updRight_facts hr
    rw [show uputS u = (uB u, 0) by unfold uputS; rw [hr]; rfl]
    have hl := uB_len u
    have hwv : IntKind.u64.wrap u.ver = u.ver := wrap_u64_in (by omega) (by omega)
    have hwc : IntKind.u64.wrap u.cls = u.cls := wrap_u64_in (by omega) (by omega)
    have hvu : inr .u64 u.ver := inr_u64.2 ⟨by omega, by omega⟩
    have hcu : inr .u64 u.cls := inr_u64.2 ⟨by omega, by omega⟩
    have hll := lumpS_length u.name
    have hsl := sgB_len u.r u.s
    have cj := join_does [lumpS u.name, numS u.ver, numS u.key, numS u.cls, sgB u.r u.s] (by show (5 : Nat) ≤ 1000000000000; decide) (by rw [uB_flat, hl]; omega)
    rw [uB_flat] at cj
    have cs := sgput_does u.r u.s hu.r hu.s
    refine Does.intro (fn := Try.f83) Try.func83 rfl rfl fun Γ hΓ => ?_
    refine W.run TupOK 27 hΓ 1000 ?_
    conv => whnf
    refine ⟨?_, ?_⟩
    repeat' first
      | assumption
      | exact Bool.noConfusion hb
      | exact absurd hb (by decide)
      | (exfalso; omega)
      | (exfalso; simp at hb; done)
      | (refine W.retA TupOK rfl ?_; (conv => whnf); refine ⟨rfl, rfl, rfl, rfl, rfl, rfl, ?_, ?_, ?_⟩)
      | ((first | refine W.branch rfl (fun hb => ?_) (fun hb => ?_) | refine D.branch rfl (fun hb => ?_) (fun hb => ?_)) <;> ((try simp only [qhb, addI, reduceCtorEq, Int.reduceToNat] at hb); (try replace hb := of_decide_eq_true hb); (try replace hb := of_decide_eq_false hb)))
      | ((first | (refine D.callA (cr) rfl rfl rfl rfl hΓ rfl ?_; (conv => whnf); refine ⟨rfl, rfl, rfl, ?_, ?_, ?_, ?_⟩) | (refine W.callA (cr) rfl rfl rfl rfl hΓ rfl ?_; (conv => whnf); refine ⟨rfl, rfl, ?_, ?_, ?_, ?_⟩)); iterate 3 exact qSc15U4; (conv => whnf))
      | ((first | (refine D.callAZ (lump_does u.name (by omega)) rfl rfl rfl rfl hΓ rfl ?_; (conv => whnf); refine ⟨rfl, rfl, rfl, ?_, ?_, ?_, ?_, ?_⟩) | (refine W.callAZ (lump_does u.name (by omega)) rfl rfl rfl rfl hΓ rfl ?_; (conv => whnf); refine ⟨rfl, rfl, ?_, ?_, ?_, ?_, ?_⟩)); iterate 4 exact qSc15U4; (conv => whnf))
      | ((first | (refine D.callAZ (num_does u.ver hvu) rfl rfl rfl rfl hΓ rfl ?_; (conv => whnf); refine ⟨rfl, rfl, rfl, ?_, ?_, ?_, ?_, ?_⟩) | (refine W.callAZ (num_does u.ver hvu) rfl rfl rfl rfl hΓ rfl ?_; (conv => whnf); refine ⟨rfl, rfl, ?_, ?_, ?_, ?_, ?_⟩)); iterate 4 exact qSc15U4; (conv => whnf))
      | ((first | (refine D.callAZ (num_does u.key hu.key) rfl rfl rfl rfl hΓ rfl ?_; (conv => whnf); refine ⟨rfl, rfl, rfl, ?_, ?_, ?_, ?_, ?_⟩) | (refine W.callAZ (num_does u.key hu.key) rfl rfl rfl rfl hΓ rfl ?_; (conv => whnf); refine ⟨rfl, rfl, ?_, ?_, ?_, ?_, ?_⟩)); iterate 4 exact qSc15U4; (conv => whnf))
      | ((first | (refine D.callAZ (num_does u.cls hcu) rfl rfl rfl rfl hΓ rfl ?_; (conv => whnf); refine ⟨rfl, rfl, rfl, ?_, ?_, ?_, ?_, ?_⟩) | (refine W.callAZ (num_does u.cls hcu) rfl rfl rfl rfl hΓ rfl ?_; (conv => whnf); refine ⟨rfl, rfl, ?_, ?_, ?_, ?_, ?_⟩)); iterate 4 exact qSc15U4; (conv => whnf))
      | ((first | (refine D.callAZ (cs) rfl rfl rfl rfl hΓ rfl ?_; (conv => whnf); refine ⟨rfl, rfl, rfl, ?_, ?_, ?_, ?_, ?_⟩) | (refine W.callAZ (cs) rfl rfl rfl rfl hΓ rfl ?_; (conv => whnf); refine ⟨rfl, rfl, ?_, ?_, ?_, ?_, ?_⟩)); iterate 4 exact qSc15U4; (conv => whnf))
      | ((first | (refine D.callA (cj) rfl rfl rfl rfl hΓ rfl ?_; (conv => whnf); refine ⟨rfl, rfl, rfl, ?_, ?_, ?_, ?_⟩) | (refine W.callA (cj) rfl rfl rfl rfl hΓ rfl ?_; (conv => whnf); refine ⟨rfl, rfl, ?_, ?_, ?_, ?_⟩)); iterate 3 exact qSc15U4; (conv => whnf))
      | (refine W.go TupOK 27 hΓ 1000 rfl ?_; (conv => whnf); refine ⟨?_, ?_⟩)
      | (refine D.go TupOK 27 hΓ 1000 rfl ?_; (conv => whnf); refine ⟨?_, ?_⟩)
      | (refine W.drawn rfl rfl ?_; refine D.run TupOK 27 hΓ 1000 ?_; (conv => whnf); refine ⟨?_, ?_⟩)
    all_goals (repeat' apply And.intro)
    all_goals try exact qcs0

theorem ruput_does (u : Upd) (hu : UpdOK u) : Does Try.prog 34 [updA u] [] [1] (Is (.tup [.own 1 1 0 (uputS u).1.length, .int .i64 (uputS u).2]) [(1, some (.arr 1 (uputS u).1.length (byteAt (uputS u).1)))]) := by
  have cr := rupdright_does u
  cases hr : updRight u with
  | false =>
    rw [hr] at cr
    rw [show uputS u = ([], 23) by unfold uputS; rw [hr]; rfl]
    refine Does.intro (fn := Try.f34) Try.func34 rfl rfl fun Γ hΓ => ?_
    refine W.run TOK 21 hΓ 1000 ?_
    conv => whnf
    refine ⟨?_, ?_⟩
    repeat' first
      | assumption
      | exact Bool.noConfusion hb
      | exact absurd hb (by decide)
      | (exfalso; omega)
      | (exfalso; simp at hb; done)
      | (refine W.retA TOK rfl ?_; (conv => whnf); refine ⟨rfl, rfl, rfl, rfl, rfl, rfl, ?_, ?_, ?_⟩)
      | ((first | refine W.branch rfl (fun hb => ?_) (fun hb => ?_) | refine D.branch rfl (fun hb => ?_) (fun hb => ?_)) <;> ((try simp only [qhb, addI, reduceCtorEq, Int.reduceToNat] at hb); (try replace hb := of_decide_eq_true hb); (try replace hb := of_decide_eq_false hb)))
      | ((first | (refine D.callA (cr) rfl rfl rfl rfl hΓ rfl ?_; (conv => whnf); refine ⟨rfl, rfl, rfl, ?_, ?_, ?_, ?_⟩) | (refine W.callA (cr) rfl rfl rfl rfl hΓ rfl ?_; (conv => whnf); refine ⟨rfl, rfl, ?_, ?_, ?_, ?_⟩)); iterate 3 exact qSc15U1; (conv => whnf))
      | (refine W.go TOK 21 hΓ 1000 rfl ?_; (conv => whnf); refine ⟨?_, ?_⟩)
      | (refine D.go TOK 21 hΓ 1000 rfl ?_; (conv => whnf); refine ⟨?_, ?_⟩)
      | (refine W.drawn rfl rfl ?_; refine D.run TOK 21 hΓ 1000 ?_; (conv => whnf); refine ⟨?_, ?_⟩)
    all_goals (repeat' apply And.intro)
    all_goals try exact qcs0
  | true =>
    rw [hr] at cr
    obtain ⟨f1, f2, f3, f4, f5, f6, f7⟩ := updRight_facts hr
    rw [show uputS u = (uB u, 0) by unfold uputS; rw [hr]; rfl]
    have hl := uB_len u
    have hwc : IntKind.u64.wrap u.cls = u.cls := wrap_u64_in (by omega) (by omega)
    have hcu : inr .u64 u.cls := inr_u64.2 ⟨by omega, by omega⟩
    have hfl := fdB_len u.name u.ver u.key
    have hsl := sgB_len u.r u.s
    have ce := rentry_does u
    have cf := rfields_does u.name u.ver u.key (by omega) (by omega) hu.key
    have cs := rsgput_does u.r u.s hu.r hu.s
    have hs9 : (fdB u.name u.ver u.key).length + 8 + (sgB u.r u.s).length = (uB u).length := by omega
    have c3 : ∀ q, ∀ i, i < q → (catF ((fdB u.name u.ver u.key).length + 8) (catF (fdB u.name u.ver u.key).length (byteAt (fdB u.name u.ver u.key)) (byteAt (numS u.cls))) (byteAt (sgB u.r u.s)) i).sim (byteAt (uB u) i) := fun q => cat3B rfl (by rw [numS_length])
    refine Does.intro (fn := Try.f34) Try.func34 rfl rfl fun Γ hΓ => ?_
    refine W.run TOK 21 hΓ 1000 ?_
    conv => whnf
    refine ⟨?_, ?_⟩
    repeat' first
      | assumption
      | exact Bool.noConfusion hb
      | exact absurd hb (by decide)
      | (exfalso; omega)
      | (exfalso; simp at hb; done)
      | (refine W.retA TOK rfl ?_; (conv => whnf); refine ⟨rfl, rfl, rfl, rfl, rfl, rfl, ?_, ?_, ?_⟩)
      | ((first | refine W.branch rfl (fun hb => ?_) (fun hb => ?_) | refine D.branch rfl (fun hb => ?_) (fun hb => ?_)) <;> ((try simp only [qhb, addI, reduceCtorEq, Int.reduceToNat] at hb); (try replace hb := of_decide_eq_true hb); (try replace hb := of_decide_eq_false hb)))
      | ((first | (refine D.callA (cr) rfl rfl rfl rfl hΓ rfl ?_; (conv => whnf); refine ⟨rfl, rfl, rfl, ?_, ?_, ?_, ?_⟩) | (refine W.callA (cr) rfl rfl rfl rfl hΓ rfl ?_; (conv => whnf); refine ⟨rfl, rfl, ?_, ?_, ?_, ?_⟩)); iterate 3 exact qSc15U5; (conv => whnf))
      | ((first | (refine D.callA (ce) rfl rfl rfl rfl hΓ rfl ?_; (conv => whnf); refine ⟨rfl, rfl, rfl, ?_, ?_, ?_, ?_⟩) | (refine W.callA (ce) rfl rfl rfl rfl hΓ rfl ?_; (conv => whnf); refine ⟨rfl, rfl, ?_, ?_, ?_, ?_⟩)); iterate 3 exact qSc15U5; (conv => whnf))
      | ((first | (refine D.callA (cf) rfl rfl rfl rfl hΓ rfl ?_; (conv => whnf); refine ⟨rfl, rfl, rfl, ?_, ?_, ?_, ?_⟩) | (refine W.callA (cf) rfl rfl rfl rfl hΓ rfl ?_; (conv => whnf); refine ⟨rfl, rfl, ?_, ?_, ?_, ?_⟩)); iterate 3 exact qSc15U5; (conv => whnf))
      | ((first | (refine D.callA (rnum_does u.cls hcu) rfl rfl rfl rfl hΓ rfl ?_; (conv => whnf); refine ⟨rfl, rfl, rfl, ?_, ?_, ?_, ?_⟩) | (refine W.callA (rnum_does u.cls hcu) rfl rfl rfl rfl hΓ rfl ?_; (conv => whnf); refine ⟨rfl, rfl, ?_, ?_, ?_, ?_⟩)); iterate 3 exact qSc15U5; (conv => whnf))
      | ((first | (refine D.callA (cs) rfl rfl rfl rfl hΓ rfl ?_; (conv => whnf); refine ⟨rfl, rfl, rfl, ?_, ?_, ?_, ?_⟩) | (refine W.callA (cs) rfl rfl rfl rfl hΓ rfl ?_; (conv => whnf); refine ⟨rfl, rfl, ?_, ?_, ?_, ?_⟩)); iterate 3 exact qSc15U5; (conv => whnf))
      | (refine W.go TOK 21 hΓ 1000 rfl ?_; (conv => whnf); refine ⟨?_, ?_⟩)
      | (refine D.go TOK 21 hΓ 1000 rfl ?_; (conv => whnf); refine ⟨?_, ?_⟩)
      | (refine W.drawn rfl rfl ?_; refine D.run TOK 21 hΓ 1000 ?_; (conv => whnf); refine ⟨?_, ?_⟩)
    all_goals (repeat' apply And.intro)
    all_goals try exact qSc15U11

end Go.Proofs.Ytcolghonbncpnaa
