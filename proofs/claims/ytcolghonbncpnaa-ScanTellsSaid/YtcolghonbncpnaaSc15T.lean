/- Walk: the reference reads records. -/
import Derived.Test.YtcolghonbncpnaaSc15Q
import Derived.Test.YtcolghonbncpnaaPlB
import Derived.Test.YtcolghonbncpnaaVxI
set_option linter.unusedSimpArgs false
set_option linter.unusedVariables false
namespace Go.Proofs.Ytcolghonbncpnaa
open VX
set_option maxRecDepth 100000
set_option maxHeartbeats 4000000
theorem qSc15T1 {P : Prop} (h : P := by (focus ((repeat' apply And.intro) <;> first | exact qlf0 | exact ⟨rfl, rfl, rfl⟩ | exact ⟨rfl, rfl, rfl, rfl, ⟨rfl, rfl⟩⟩ | ((repeat' apply And.intro) <;> rfl)))) : P := h
theorem qSc15T2 {P : Prop} (h : P := by (focus ((repeat' apply And.intro) <;> first | exact qlf0 | exact ⟨rfl, rfl, rfl⟩ | exact ⟨rfl, rfl, rfl, rfl, ⟨rfl, rfl⟩⟩ | ((repeat' apply And.intro) <;> rfl) | exact hlt.symm | exact take_sim b (21 + x.length) | exact hbt | exact hbp))) : P := h
theorem qSc15T3 {P : Prop} (h : P := by first | exact qcl0 | exact hlt.symm | exact hlt | exact qsm0) : P := h
theorem qSc15T4 {P : Prop} (h : P := by
  refine Does.intro (fn := Try.f18) Try.func18 rfl rfl fun Γ hΓ => ?_
  refine W.run TOK 91 hΓ 1000 ?_
  conv => whnf
  refine ⟨?_, ?_⟩
  repeat' first
    | assumption
    | exact Bool.noConfusion hb
    | exact absurd hb (by decide)
    | (exfalso; omega)
    | exact absurd hb he
    | exact absurd he0 hb
    | exact absurd hb hp
    | exact absurd hp0 hb
    | exact absurd hb hE
    | exact absurd hE0 hb
    | exact absurd hb hu
    | exact absurd hu0 hb
    | exact absurd hb (fun h => hq (hbp.symm.trans (h.trans hbt)))
    | exact absurd ((hbp.trans hq).trans hbt.symm) hb
    | (exfalso; simp at hb; done)
    | (refine W.retA TOK rfl ?_; (conv => whnf); refine ⟨rfl, rfl, rfl, rfl, rfl, rfl, ?_, ?_, ?_⟩)
    | ((first | refine W.branch rfl (fun hb => ?_) (fun hb => ?_) | refine D.branch rfl (fun hb => ?_) (fun hb => ?_)) <;> ((try simp only [qhb, addI, reduceCtorEq, Int.reduceToNat] at hb); (try replace hb := of_decide_eq_true hb); (try replace hb := of_decide_eq_false hb)))
    | ((first | (refine D.callA (cf) rfl rfl rfl rfl hΓ rfl ?_; (conv => whnf); refine ⟨rfl, rfl, rfl, ?_, ?_, ?_, ?_⟩) | (refine W.callA (cf) rfl rfl rfl rfl hΓ rfl ?_; (conv => whnf); refine ⟨rfl, rfl, ?_, ?_, ?_, ?_⟩)); iterate 3 exact qSc15T2; (conv => whnf))
    | ((first | (refine D.callAK (c1) rfl rfl rfl rfl hΓ rfl ?_; (conv => whnf); refine ⟨rfl, rfl, rfl, ?_, ?_, ?_, ?_⟩) | (refine W.callA (c1) rfl rfl rfl rfl hΓ rfl ?_; (conv => whnf); refine ⟨rfl, rfl, ?_, ?_, ?_, ?_⟩)); iterate 3 exact qSc15T2; (conv => whnf))
    | ((first | (refine D.callAK (c2) rfl rfl rfl rfl hΓ rfl ?_; (conv => whnf); refine ⟨rfl, rfl, rfl, ?_, ?_, ?_, ?_⟩) | (refine W.callA (c2) rfl rfl rfl rfl hΓ rfl ?_; (conv => whnf); refine ⟨rfl, rfl, ?_, ?_, ?_, ?_⟩)); iterate 3 exact qSc15T2; (conv => whnf))
    | ((first | (refine D.callA (cp) rfl rfl rfl rfl hΓ rfl ?_; (conv => whnf); refine ⟨rfl, rfl, rfl, ?_, ?_, ?_, ?_⟩) | (refine W.callA (cp) rfl rfl rfl rfl hΓ rfl ?_; (conv => whnf); refine ⟨rfl, rfl, ?_, ?_, ?_, ?_⟩)); iterate 3 exact qSc15T2; (conv => whnf))
    | (refine W.go TOK 91 hΓ 1000 rfl ?_; (conv => whnf); refine ⟨?_, ?_⟩)
    | (refine D.go TOK 91 hΓ 1000 rfl ?_; (conv => whnf); refine ⟨?_, ?_⟩)
    | (refine W.drawn rfl rfl ?_; refine D.run TOK 91 hΓ 1000 ?_; (conv => whnf); refine ⟨?_, ?_⟩)
  all_goals (repeat' apply And.intro)
  all_goals try exact qSc15T3) : P := h
theorem qSc15T5 {P : Prop} (h : P := by
  refine Does.intro (fn := Try.f18) Try.func18 rfl rfl fun Γ hΓ => ?_
  refine W.run TOK 91 hΓ 1000 ?_
  conv => whnf
  refine ⟨?_, ?_⟩
  repeat' first
    | assumption
    | exact Bool.noConfusion hb
    | exact absurd hb (by decide)
    | (exfalso; omega)
    | exact absurd hb he
    | exact absurd he0 hb
    | exact absurd hb hp
    | exact absurd hp0 hb
    | exact absurd hb hE
    | exact absurd hE0 hb
    | exact absurd hb hu
    | exact absurd hu0 hb
    | exact absurd hb (fun h => hq (hbp.symm.trans (h.trans hbt)))
    | exact absurd ((hbp.trans hq).trans hbt.symm) hb
    | (exfalso; simp at hb; done)
    | (refine W.retA TOK rfl ?_; (conv => whnf); refine ⟨rfl, rfl, rfl, rfl, rfl, rfl, ?_, ?_, ?_⟩)
    | ((first | refine W.branch rfl (fun hb => ?_) (fun hb => ?_) | refine D.branch rfl (fun hb => ?_) (fun hb => ?_)) <;> ((try simp only [qhb, addI, reduceCtorEq, Int.reduceToNat] at hb); (try replace hb := of_decide_eq_true hb); (try replace hb := of_decide_eq_false hb)))
    | ((first | (refine D.callA (cf) rfl rfl rfl rfl hΓ rfl ?_; (conv => whnf); refine ⟨rfl, rfl, rfl, ?_, ?_, ?_, ?_⟩) | (refine W.callA (cf) rfl rfl rfl rfl hΓ rfl ?_; (conv => whnf); refine ⟨rfl, rfl, ?_, ?_, ?_, ?_⟩)); iterate 3 exact qSc15T2; (conv => whnf))
    | ((first | (refine D.callAK (c1) rfl rfl rfl rfl hΓ rfl ?_; (conv => whnf); refine ⟨rfl, rfl, rfl, ?_, ?_, ?_, ?_⟩) | (refine W.callA (c1) rfl rfl rfl rfl hΓ rfl ?_; (conv => whnf); refine ⟨rfl, rfl, ?_, ?_, ?_, ?_⟩)); iterate 3 exact qSc15T2; (conv => whnf))
    | ((first | (refine D.callA (cu) rfl rfl rfl rfl hΓ rfl ?_; (conv => whnf); refine ⟨rfl, rfl, rfl, ?_, ?_, ?_, ?_⟩) | (refine W.callA (cu) rfl rfl rfl rfl hΓ rfl ?_; (conv => whnf); refine ⟨rfl, rfl, ?_, ?_, ?_, ?_⟩)); iterate 3 exact qSc15T2; (conv => whnf))
    | ((first | (refine D.callA (cp) rfl rfl rfl rfl hΓ rfl ?_; (conv => whnf); refine ⟨rfl, rfl, rfl, ?_, ?_, ?_, ?_⟩) | (refine W.callA (cp) rfl rfl rfl rfl hΓ rfl ?_; (conv => whnf); refine ⟨rfl, rfl, ?_, ?_, ?_, ?_⟩)); iterate 3 exact qSc15T2; (conv => whnf))
    | (refine W.go TOK 91 hΓ 1000 rfl ?_; (conv => whnf); refine ⟨?_, ?_⟩)
    | (refine D.go TOK 91 hΓ 1000 rfl ?_; (conv => whnf); refine ⟨?_, ?_⟩)
    | (refine W.drawn rfl rfl ?_; refine D.run TOK 91 hΓ 1000 ?_; (conv => whnf); refine ⟨?_, ?_⟩)
  all_goals (repeat' apply And.intro)
  all_goals try exact qSc15T3) : P := h
theorem qSc15T6 {P : Prop} (h : P := by
  refine Does.intro (fn := Try.f18) Try.func18 rfl rfl fun Γ hΓ => ?_
  refine W.run TOK 91 hΓ 1000 ?_
  conv => whnf
  refine ⟨?_, ?_⟩
  repeat' first
    | assumption
    | exact Bool.noConfusion hb
    | exact absurd hb (by decide)
    | (exfalso; omega)
    | exact absurd hb he
    | exact absurd he0 hb
    | exact absurd hb hp
    | exact absurd hp0 hb
    | exact absurd hb hE
    | exact absurd hE0 hb
    | exact absurd hb hu
    | exact absurd hu0 hb
    | exact absurd hb (fun h => hq (hbp.symm.trans (h.trans hbt)))
    | exact absurd ((hbp.trans hq).trans hbt.symm) hb
    | (exfalso; simp at hb; done)
    | (refine W.retA TOK rfl ?_; (conv => whnf); refine ⟨rfl, rfl, rfl, rfl, rfl, rfl, ?_, ?_, ?_⟩)
    | ((first | refine W.branch rfl (fun hb => ?_) (fun hb => ?_) | refine D.branch rfl (fun hb => ?_) (fun hb => ?_)) <;> ((try simp only [qhb, addI, reduceCtorEq, Int.reduceToNat] at hb); (try replace hb := of_decide_eq_true hb); (try replace hb := of_decide_eq_false hb)))
    | ((first | (refine D.callA (cf) rfl rfl rfl rfl hΓ rfl ?_; (conv => whnf); refine ⟨rfl, rfl, rfl, ?_, ?_, ?_, ?_⟩) | (refine W.callA (cf) rfl rfl rfl rfl hΓ rfl ?_; (conv => whnf); refine ⟨rfl, rfl, ?_, ?_, ?_, ?_⟩)); iterate 3 exact qSc15T2; (conv => whnf))
    | ((first | (refine D.callAK (c1) rfl rfl rfl rfl hΓ rfl ?_; (conv => whnf); refine ⟨rfl, rfl, rfl, ?_, ?_, ?_, ?_⟩) | (refine W.callA (c1) rfl rfl rfl rfl hΓ rfl ?_; (conv => whnf); refine ⟨rfl, rfl, ?_, ?_, ?_, ?_⟩)); iterate 3 exact qSc15T2; (conv => whnf))
    | ((first | (refine D.callA (cp) rfl rfl rfl rfl hΓ rfl ?_; (conv => whnf); refine ⟨rfl, rfl, rfl, ?_, ?_, ?_, ?_⟩) | (refine W.callA (cp) rfl rfl rfl rfl hΓ rfl ?_; (conv => whnf); refine ⟨rfl, rfl, ?_, ?_, ?_, ?_⟩)); iterate 3 exact qSc15T2; (conv => whnf))
    | (refine W.go TOK 91 hΓ 1000 rfl ?_; (conv => whnf); refine ⟨?_, ?_⟩)
    | (refine D.go TOK 91 hΓ 1000 rfl ?_; (conv => whnf); refine ⟨?_, ?_⟩)
    | (refine W.drawn rfl rfl ?_; refine D.run TOK 91 hΓ 1000 ?_; (conv => whnf); refine ⟨?_, ?_⟩)
  all_goals (repeat' apply And.intro)
  all_goals try exact qSc15T3) : P := h
theorem qSc15T7 {P : Prop} (h : P := by
  refine Does.intro (fn := Try.f18) Try.func18 rfl rfl fun Γ hΓ => ?_
  refine W.run TOK 91 hΓ 1000 ?_
  conv => whnf
  refine ⟨?_, ?_⟩
  repeat' first
    | assumption
    | exact Bool.noConfusion hb
    | exact absurd hb (by decide)
    | (exfalso; omega)
    | exact absurd hb he
    | exact absurd he0 hb
    | exact absurd hb hp
    | exact absurd hp0 hb
    | exact absurd hb hE
    | exact absurd hE0 hb
    | exact absurd hb hu
    | exact absurd hu0 hb
    | exact absurd hb (fun h => hq (hbp.symm.trans (h.trans hbt)))
    | exact absurd ((hbp.trans hq).trans hbt.symm) hb
    | (exfalso; simp at hb; done)
    | (refine W.retA TOK rfl ?_; (conv => whnf); refine ⟨rfl, rfl, rfl, rfl, rfl, rfl, ?_, ?_, ?_⟩)
    | ((first | refine W.branch rfl (fun hb => ?_) (fun hb => ?_) | refine D.branch rfl (fun hb => ?_) (fun hb => ?_)) <;> ((try simp only [qhb, addI, reduceCtorEq, Int.reduceToNat] at hb); (try replace hb := of_decide_eq_true hb); (try replace hb := of_decide_eq_false hb)))
    | ((first | (refine D.callA (cf) rfl rfl rfl rfl hΓ rfl ?_; (conv => whnf); refine ⟨rfl, rfl, rfl, ?_, ?_, ?_, ?_⟩) | (refine W.callA (cf) rfl rfl rfl rfl hΓ rfl ?_; (conv => whnf); refine ⟨rfl, rfl, ?_, ?_, ?_, ?_⟩)); iterate 3 exact qSc15T2; (conv => whnf))
    | ((first | (refine D.callA (cp) rfl rfl rfl rfl hΓ rfl ?_; (conv => whnf); refine ⟨rfl, rfl, rfl, ?_, ?_, ?_, ?_⟩) | (refine W.callA (cp) rfl rfl rfl rfl hΓ rfl ?_; (conv => whnf); refine ⟨rfl, rfl, ?_, ?_, ?_, ?_⟩)); iterate 3 exact qSc15T2; (conv => whnf))
    | (refine W.go TOK 91 hΓ 1000 rfl ?_; (conv => whnf); refine ⟨?_, ?_⟩)
    | (refine D.go TOK 91 hΓ 1000 rfl ?_; (conv => whnf); refine ⟨?_, ?_⟩)
    | (refine W.drawn rfl rfl ?_; refine D.run TOK 91 hΓ 1000 ?_; (conv => whnf); refine ⟨?_, ?_⟩)
  all_goals (repeat' apply And.intro)
  all_goals try exact qSc15T3) : P := h
theorem rjread_does (b : List UInt8) (h9 : b.length ≤ 1000000000) : Does Try.prog 18 [bytesA b] [] [] (Is (.tup [recA (jreadS b).1, .int .i64 (jreadS b).2.1, .int .i64 (jreadS b).2.2]) []) := by
  have cf := rread_does b h9
  rw [← jread_same]
  unfold jreadR
  by_cases he : (readS b).2.2.2.2 ≠ 0
  · rw [if_pos he]
    generalize readS b = f at *
    refine Does.intro (fn := Try.f18) Try.func18 rfl rfl fun Γ hΓ => ?_
    refine W.run TOK 91 hΓ 1000 ?_
    conv => whnf
    refine ⟨?_, ?_⟩
    repeat' first
      | assumption
      | exact Bool.noConfusion hb
      | exact absurd hb (by decide)
      | (exfalso; omega)
      | exact absurd hb he
      | (exfalso; simp at hb; done)
      | (refine W.retA TOK rfl ?_; (conv => whnf); refine ⟨rfl, rfl, rfl, rfl, rfl, rfl, ?_, ?_, ?_⟩)
      | ((first | refine W.branch rfl (fun hb => ?_) (fun hb => ?_) | refine D.branch rfl (fun hb => ?_) (fun hb => ?_)) <;> ((try simp only [qhb, addI, reduceCtorEq, Int.reduceToNat] at hb); (try replace hb := of_decide_eq_true hb); (try replace hb := of_decide_eq_false hb)))
      | ((first | (refine D.callA (cf) rfl rfl rfl rfl hΓ rfl ?_; (conv => whnf); refine ⟨rfl, rfl, rfl, ?_, ?_, ?_, ?_⟩) | (refine W.callA (cf) rfl rfl rfl rfl hΓ rfl ?_; (conv => whnf); refine ⟨rfl, rfl, ?_, ?_, ?_, ?_⟩)); iterate 3 exact qSc15T1; (conv => whnf))
      | (refine W.go TOK 91 hΓ 1000 rfl ?_; (conv => whnf); refine ⟨?_, ?_⟩)
      | (refine D.go TOK 91 hΓ 1000 rfl ?_; (conv => whnf); refine ⟨?_, ?_⟩)
      | (refine W.drawn rfl rfl ?_; refine D.run TOK 91 hΓ 1000 ?_; (conv => whnf); refine ⟨?_, ?_⟩)
    all_goals (repeat' apply And.intro)
    all_goals try exact qcs0
  rw [if_neg he]
  have he0 := Decidable.not_not.1 he
  have hok := readS_ok he0
  generalize readS b = f at *
  obtain ⟨k, q, x, n, e⟩ := f
  have hkk := hok.k
  have hqq := hok.q
  have hnn := hok.n
  have hll := hok.l
  clear hok
  simp only at cf he he0 hkk hqq hnn hll ⊢
  subst hnn
  have hlt : (b.take (21 + x.length)).length = 21 + x.length := by rw [List.length_take]; omega
  have hbt : bytesOf (21 + x.length) (byteAt b) = b.take (21 + x.length) := by
    exact bytes_take (by omega)
  have hro := jrec_ok (f := intR) (fun n h => (near_ok h).2) hkk hqq x
  have hm1 : (jn1 x).2.l.length ≤ x.length := (numR_facts _).2
  have c1 := rint_does x 0 (by omega)
  rw [show numR ⟨x, 0⟩ = jn1 x from rfl] at c1
  unfold jback
  rw [Int.toNat_natCast]
  by_cases k1 : k = 1
  · have hR : jrec intR k q x = ⟨k, q, intR (jn1 x).1, intR (jn2 x).1, ⟨[], 0, 0, 0, 0, 0⟩, 0, 0⟩ := if_pos k1
    have c2 := rint_does (jn1 x).2.l (jn1 x).2.e (by omega)
    rw [show numR ⟨(jn1 x).2.l, (jn1 x).2.e⟩ = jn2 x from rfl] at c2
    rw [if_neg (fun h => by omega), show (if k = 1 then (jn2 x).2.e else if k = 2 ∨ k = 3 then (jn1 x).2.e else 0) = (jn2 x).2.e from if_pos k1, show (if k = 2 then jrec2 2 q (intR (jn1 x).1) (ureadS (jn1 x).2.l).1 else jrec intR k q x) = _ from if_neg (show ¬ k = 2 by omega), hR]
    rw [hR] at hro
    have cp := rjput_does _ hro
    clear hro hR
    unfold Rd.o at c1 c2
    generalize jn1 x = a1 at *
    generalize jn2 x = a2 at *
    generalize jputS _ = p at cp ⊢
    by_cases hE : a2.2.e ≠ 0
    · rw [if_pos hE]
      exact qSc15T4
    rw [if_neg hE]
    have hE0 := Decidable.not_not.1 hE
    have hbp : bytesOf p.1.length (byteAt p.1) = p.1 := bytes_fun rfl
    by_cases hp : p.2 ≠ 0
    · rw [if_pos (.inl hp)]
      exact qSc15T4
    have hp0 : p.2 = 0 := Decidable.not_not.1 hp
    by_cases hq : p.1 = b.take (21 + x.length)
    · rw [if_neg (fun h => h.elim hp (fun h => h hq))]
      exact qSc15T4
    · rw [if_pos (.inr hq)]
      exact qSc15T4
  by_cases k2 : k = 2
  · have hR : jrec intR k q x = ⟨k, q, 0, 0, (ureadS (jn1 x).2.l).1, intR (jn1 x).1, 0⟩ := ((if_neg k1).trans (if_pos k2)).trans (by rw [jrest_eq]; rfl)
    have cu := ruread_does (jn1 x).2.l (by omega)
    rw [hR] at hro
    rw [show (if k = 1 then (jn2 x).2.e else if k = 2 ∨ k = 3 then (jn1 x).2.e else 0) = (jn1 x).2.e from (if_neg k1).trans (if_pos (.inl k2)), show (if k = 2 then jrec2 2 q (intR (jn1 x).1) (ureadS (jn1 x).2.l).1 else jrec intR k q x) = ⟨k, q, 0, 0, (ureadS (jn1 x).2.l).1, intR (jn1 x).1, 0⟩ from (if_pos k2).trans (by rw [k2]; rfl)]
    have cp := rjput_does _ hro
    clear hro hR
    unfold Rd.o at c1
    generalize jn1 x = a1 at *
    generalize ureadS a1.2.l = u9 at *
    by_cases hu : u9.2 ≠ 0
    · rw [if_pos ⟨k2, hu⟩]
      refine Does.intro (fn := Try.f18) Try.func18 rfl rfl fun Γ hΓ => ?_
      refine W.run TOK 91 hΓ 1000 ?_
      conv => whnf
      refine ⟨?_, ?_⟩
      repeat' first
        | assumption
        | exact Bool.noConfusion hb
        | exact absurd hb (by decide)
        | (exfalso; omega)
        | exact absurd hb he
        | exact absurd he0 hb
        | exact absurd hb hp
        | exact absurd hp0 hb
        | exact absurd hb hE
        | exact absurd hE0 hb
        | exact absurd hb hu
        | exact absurd hu0 hb
        | exact absurd hb (fun h => hq (hbp.symm.trans (h.trans hbt)))
        | exact absurd ((hbp.trans hq).trans hbt.symm) hb
        | (exfalso; simp at hb; done)
        | (refine W.retA TOK rfl ?_; (conv => whnf); refine ⟨rfl, rfl, rfl, rfl, rfl, rfl, ?_, ?_, ?_⟩)
        | ((first | refine W.branch rfl (fun hb => ?_) (fun hb => ?_) | refine D.branch rfl (fun hb => ?_) (fun hb => ?_)) <;> ((try simp only [qhb, addI, reduceCtorEq, Int.reduceToNat] at hb); (try replace hb := of_decide_eq_true hb); (try replace hb := of_decide_eq_false hb)))
        | ((first | (refine D.callA (cf) rfl rfl rfl rfl hΓ rfl ?_; (conv => whnf); refine ⟨rfl, rfl, rfl, ?_, ?_, ?_, ?_⟩) | (refine W.callA (cf) rfl rfl rfl rfl hΓ rfl ?_; (conv => whnf); refine ⟨rfl, rfl, ?_, ?_, ?_, ?_⟩)); iterate 3 exact qSc15T2; (conv => whnf))
        | ((first | (refine D.callAK (c1) rfl rfl rfl rfl hΓ rfl ?_; (conv => whnf); refine ⟨rfl, rfl, rfl, ?_, ?_, ?_, ?_⟩) | (refine W.callA (c1) rfl rfl rfl rfl hΓ rfl ?_; (conv => whnf); refine ⟨rfl, rfl, ?_, ?_, ?_, ?_⟩)); iterate 3 exact qSc15T2; (conv => whnf))
        | ((first | (refine D.callA (cu) rfl rfl rfl rfl hΓ rfl ?_; (conv => whnf); refine ⟨rfl, rfl, rfl, ?_, ?_, ?_, ?_⟩) | (refine W.callA (cu) rfl rfl rfl rfl hΓ rfl ?_; (conv => whnf); refine ⟨rfl, rfl, ?_, ?_, ?_, ?_⟩)); iterate 3 exact qSc15T2; (conv => whnf))
        | (refine W.go TOK 91 hΓ 1000 rfl ?_; (conv => whnf); refine ⟨?_, ?_⟩)
        | (refine D.go TOK 91 hΓ 1000 rfl ?_; (conv => whnf); refine ⟨?_, ?_⟩)
        | (refine W.drawn rfl rfl ?_; refine D.run TOK 91 hΓ 1000 ?_; (conv => whnf); refine ⟨?_, ?_⟩)
      all_goals (repeat' apply And.intro)
      all_goals try exact qcs0
    rw [if_neg (fun h => hu h.2)]
    have hu0 := Decidable.not_not.1 hu
    generalize jputS _ = p at cp ⊢
    by_cases hE : a1.2.e ≠ 0
    · rw [if_pos hE]
      exact qSc15T5
    rw [if_neg hE]
    have hE0 := Decidable.not_not.1 hE
    have hbp : bytesOf p.1.length (byteAt p.1) = p.1 := bytes_fun rfl
    by_cases hp : p.2 ≠ 0
    · rw [if_pos (.inl hp)]
      exact qSc15T5
    have hp0 : p.2 = 0 := Decidable.not_not.1 hp
    by_cases hq : p.1 = b.take (21 + x.length)
    · rw [if_neg (fun h => h.elim hp (fun h => h hq))]
      exact qSc15T5
    · rw [if_pos (.inr hq)]
      exact qSc15T5
  by_cases k3 : k = 3
  · have hR : jrec intR k q x = ⟨k, q, 0, 0, ⟨[], 0, 0, 0, 0, 0⟩, 0, intR (jn1 x).1⟩ := (if_neg k1).trans ((if_neg k2).trans (if_pos k3))
    rw [if_neg (fun h => k2 h.1), show (if k = 1 then (jn2 x).2.e else if k = 2 ∨ k = 3 then (jn1 x).2.e else 0) = (jn1 x).2.e from (if_neg k1).trans (if_pos (.inr k3)), show (if k = 2 then jrec2 2 q (intR (jn1 x).1) (ureadS (jn1 x).2.l).1 else jrec intR k q x) = _ from if_neg k2, hR]
    rw [hR] at hro
    have cp := rjput_does _ hro
    clear hro hR
    unfold Rd.o at c1
    generalize jn1 x = a1 at *
    generalize jputS _ = p at cp ⊢
    by_cases hE : a1.2.e ≠ 0
    · rw [if_pos hE]
      exact qSc15T6
    rw [if_neg hE]
    have hE0 := Decidable.not_not.1 hE
    have hbp : bytesOf p.1.length (byteAt p.1) = p.1 := bytes_fun rfl
    by_cases hp : p.2 ≠ 0
    · rw [if_pos (.inl hp)]
      exact qSc15T6
    have hp0 : p.2 = 0 := Decidable.not_not.1 hp
    by_cases hq : p.1 = b.take (21 + x.length)
    · rw [if_neg (fun h => h.elim hp (fun h => h hq))]
      exact qSc15T6
    · rw [if_pos (.inr hq)]
      exact qSc15T6
  · have hR : jrec intR k q x = ⟨k, q, 0, 0, ⟨[], 0, 0, 0, 0, 0⟩, 0, 0⟩ := (if_neg k1).trans ((if_neg k2).trans (if_neg k3))
    rw [if_neg (fun h => k2 h.1), show (if k = 1 then (jn2 x).2.e else if k = 2 ∨ k = 3 then (jn1 x).2.e else 0) = 0 from (if_neg k1).trans (if_neg (fun h => h.elim k2 k3)), if_neg (show ¬ (0 : Int) ≠ 0 from fun h => h rfl), show (if k = 2 then jrec2 2 q (intR (jn1 x).1) (ureadS (jn1 x).2.l).1 else jrec intR k q x) = _ from if_neg k2, hR]
    rw [hR] at hro
    have cp := rjput_does _ hro
    clear hro hR c1
    generalize jputS _ = p at cp ⊢
    have hbp : bytesOf p.1.length (byteAt p.1) = p.1 := bytes_fun rfl
    by_cases hp : p.2 ≠ 0
    · rw [if_pos (.inl hp)]
      exact qSc15T7
    have hp0 : p.2 = 0 := Decidable.not_not.1 hp
    by_cases hq : p.1 = b.take (21 + x.length)
    · rw [if_neg (fun h => h.elim hp (fun h => h hq))]
      exact qSc15T7
    · rw [if_pos (.inr hq)]
      exact qSc15T7
end Go.Proofs.Ytcolghonbncpnaa
