/- Walk: reading records. -/
import Derived.Test.YtcolghonbncpnaaSc15P
import Derived.Test.YtcolghonbncpnaaPlB
import Derived.Test.YtcolghonbncpnaaVxI
set_option linter.unusedSimpArgs false
set_option linter.unusedVariables false
namespace Go.Proofs.Ytcolghonbncpnaa
open VX
set_option maxRecDepth 100000
set_option maxHeartbeats 4000000
theorem qSc15S1 {P : Prop} (h : P := by (focus ((repeat' apply And.intro) <;> first | exact qlf0 | exact ⟨rfl, rfl, rfl⟩ | exact ⟨rfl, rfl, rfl, rfl, ⟨rfl, rfl⟩⟩ | ((repeat' apply And.intro) <;> rfl)))) : P := h
theorem qSc15S2 {P : Prop} (h : P := by (focus ((repeat' apply And.intro) <;> first | exact qlf0 | exact ⟨rfl, rfl, rfl⟩ | exact ⟨rfl, rfl, rfl, rfl, ⟨rfl, rfl⟩⟩ | ((repeat' apply And.intro) <;> rfl) | exact hlt.symm | exact take_sim b (21 + x.length)))) : P := h
theorem qSc15S3 {P : Prop} (h : P := by first | exact qcl0 | exact hlt.symm | exact hlt | exact qsm0) : P := h
def Tj5 : Tab := { l := tabL, stop := [5] }
theorem Tj5OK : TabOK Try.prog Tj5.l := tabOK
theorem jread_does (b : List UInt8) (h9 : b.length ≤ 1000000000) : Does Try.prog 24 [bytesA b] [] [] (Is (.tup [recA (jreadS b).1, .int .i64 (jreadS b).2.1, .int .i64 (jreadS b).2.2]) []) := by
  have cf := read_does b h9
  unfold jreadS
  by_cases he : (readS b).2.2.2.2 ≠ 0
  · rw [if_pos he]
    generalize readS b = f at *
    refine Does.intro (fn := Try.f24) Try.func24 rfl rfl fun Γ hΓ => ?_
    refine W.run TOK 81 hΓ 1000 ?_
    conv => whnf
    refine ⟨?_, ?_⟩
    repeat' first
      | assumption
      | exact Bool.noConfusion hb
      | exact absurd hb (by decide)
      | (exfalso; omega)
      | exact absurd hb he
      | (exfalso; simp at hb; done)
      | (refine W.retA TOK rfl ?_; (conv => whnf); refine ⟨rfl, rfl, rfl, rfl, rfl, rfl, ?_, ?_, ?_⟩)
      | (refine W.branch rfl (fun hb => ?_) (fun hb => ?_) <;> ((try simp only [qhb, addI, reduceCtorEq, Int.reduceToNat] at hb); (try replace hb := of_decide_eq_true hb); (try replace hb := of_decide_eq_false hb)))
      | (refine W.callA (cf) rfl rfl rfl rfl hΓ rfl ?_; (conv => whnf); refine ⟨rfl, rfl, ?_, ?_, ?_, ?_⟩; iterate 3 exact qSc15S1; (conv => whnf))
      | (refine W.go TOK 81 hΓ 1000 rfl ?_; (conv => whnf); refine ⟨?_, ?_⟩)
    all_goals (repeat' apply And.intro)
    all_goals try exact qcs0
  rw [if_neg he]
  have he0 := Decidable.not_not.1 he
  have hok := readS_ok he0
  generalize readS b = f at *
  obtain ⟨k, q, x, n, e⟩ := f
  have hkk := hok.k
  have hqq := hok.q
  have hnn := hok.n
  have hll := hok.l
  clear hok
  simp only at cf he he0 hkk hqq hnn hll ⊢
  subst hnn
  have hlt : (b.take (21 + x.length)).length = 21 + x.length := by rw [List.length_take]; omega
  have hro := jrec_ok (f := nearT) (fun n h => (near_ok h).1) hkk hqq x
  have cn := new_does x (by omega)
  have hn1 : inr .u64 (jn1 x).1 := (numR_facts _).1
  have hn2 : inr .u64 (jn2 x).1 := (numR_facts _).1
  have hm1 : (jn1 x).2.l.length ≤ x.length := (numR_facts _).2
  have hm2 : (jrest x).1.length ≤ (jn1 x).2.l.length := by rw [jrest_eq]; exact Nat.le_refl _
  have c1 := getn_does x 0 (by omega)
  rw [show numR ⟨x, 0⟩ = jn1 x from rfl] at c1
  have d1 := jnear_does (jn1 x).1 hn1
  unfold jback
  rw [Int.toNat_natCast]
  by_cases k1 : k = 1
  · have hR : jrec nearT k q x = ⟨k, q, nearT (jn1 x).1, nearT (jn2 x).1, ⟨[], 0, 0, 0, 0, 0⟩, 0, 0⟩ := if_pos k1
    have c2 := getn_does (jn1 x).2.l (jn1 x).2.e (by omega)
    rw [show numR ⟨(jn1 x).2.l, (jn1 x).2.e⟩ = jn2 x from rfl] at c2
    have d2 := jnear_does (jn2 x).1 hn2
    rw [hR] at hro ⊢
    have cp := jput_does _ hro
    clear hro hR
    unfold Rd.o at c1 c2
    generalize jn1 x = a1 at *
    generalize jn2 x = a2 at *
    have ce := equal_does (jputS ⟨k, q, nearT a1.1, nearT a2.1, ⟨[], 0, 0, 0, 0, 0⟩, 0, 0⟩).1 (b.take (21 + x.length))
    generalize jputS _ = p at cp ce ⊢
    refine Does.intro (fn := Try.f24) Try.func24 rfl rfl fun Γ hΓ => ?_
    refine W.run Tj5OK 81 hΓ 1000 ?_
    conv => whnf
    refine ⟨?_, ?_⟩
    repeat' first
      | assumption
      | exact Bool.noConfusion hb
      | exact absurd hb (by decide)
      | (exfalso; omega)
      | exact absurd hb he
      | exact absurd he0 hb
      | exact absurd hb hp
      | exact absurd hp0 hb
      | (exfalso; simp at hb; done)
      | (refine W.branch rfl (fun hb => ?_) (fun hb => ?_) <;> ((try simp only [qhb, addI, reduceCtorEq, Int.reduceToNat] at hb); (try replace hb := of_decide_eq_true hb); (try replace hb := of_decide_eq_false hb)))
      | (refine W.callA (cf) rfl rfl rfl rfl hΓ rfl ?_; (conv => whnf); refine ⟨rfl, rfl, ?_, ?_, ?_, ?_⟩; iterate 3 exact qSc15S1; (conv => whnf))
      | (refine W.go Tj5OK 81 hΓ 1000 rfl ?_; (conv => whnf); refine ⟨?_, ?_⟩)
    all_goals (repeat' apply And.intro)
    all_goals try exact qcs0
    refine W.cutA [0, 2, 3, 4, 5, 6, 7, 8, 9, 10] [600] ?_
    (conv => whnf); refine ⟨?_, ?_⟩; focus ((conv => whnf); refine ⟨rfl, rfl, rfl, rfl, rfl, rfl, ?_, ?_⟩; iterate 2 exact qlf1)
    by_cases hp : p.2 ≠ 0
    · rw [if_pos (.inl hp)]
      repeat' first
        | assumption
        | exact Bool.noConfusion hb
        | exact absurd hb (by decide)
        | (exfalso; omega)
        | exact absurd hb he
        | exact absurd he0 hb
        | exact absurd hb hp
        | exact absurd hp0 hb
        | (exfalso; simp at hb; done)
        | (refine W.retA TOK rfl ?_; (conv => whnf); refine ⟨rfl, rfl, rfl, rfl, rfl, rfl, ?_, ?_, ?_⟩)
        | (refine W.branch rfl (fun hb => ?_) (fun hb => ?_) <;> ((try simp only [qhb, addI, reduceCtorEq, Int.reduceToNat] at hb); (try replace hb := of_decide_eq_true hb); (try replace hb := of_decide_eq_false hb)))
        | (refine W.callA (cn) rfl rfl rfl rfl hΓ rfl ?_; (conv => whnf); refine ⟨rfl, rfl, ?_, ?_, ?_, ?_⟩; iterate 3 exact qSc15S2; (conv => whnf))
        | (refine W.callA (c1) rfl rfl rfl rfl hΓ rfl ?_; (conv => whnf); refine ⟨rfl, rfl, ?_, ?_, ?_, ?_⟩; iterate 3 exact qSc15S2; (conv => whnf))
        | (refine W.callA (c2) rfl rfl rfl rfl hΓ rfl ?_; (conv => whnf); refine ⟨rfl, rfl, ?_, ?_, ?_, ?_⟩; iterate 3 exact qSc15S2; (conv => whnf))
        | (refine W.callA (d1) rfl rfl rfl rfl hΓ rfl ?_; (conv => whnf); refine ⟨rfl, rfl, ?_, ?_, ?_, ?_⟩; iterate 3 exact qSc15S2; (conv => whnf))
        | (refine W.callA (d2) rfl rfl rfl rfl hΓ rfl ?_; (conv => whnf); refine ⟨rfl, rfl, ?_, ?_, ?_, ?_⟩; iterate 3 exact qSc15S2; (conv => whnf))
        | (refine W.callA (cp) rfl rfl rfl rfl hΓ rfl ?_; (conv => whnf); refine ⟨rfl, rfl, ?_, ?_, ?_, ?_⟩; iterate 3 exact qSc15S2; (conv => whnf))
        | (refine W.callA (ce) rfl rfl rfl rfl hΓ rfl ?_; (conv => whnf); refine ⟨rfl, rfl, ?_, ?_, ?_, ?_⟩; iterate 3 exact qSc15S2; (conv => whnf))
        | (refine W.go TOK 81 hΓ 1000 rfl ?_; (conv => whnf); refine ⟨?_, ?_⟩)
      all_goals (repeat' apply And.intro)
      all_goals try exact qSc15S3
    have hp0 : p.2 = 0 := Decidable.not_not.1 hp
    by_cases hq : p.1 = b.take (21 + x.length)
    · rw [if_neg (fun h => h.elim hp (fun h => h hq))]
      rw [decide_eq_true hq] at ce
      repeat' first
        | assumption
        | exact Bool.noConfusion hb
        | exact absurd hb (by decide)
        | (exfalso; omega)
        | exact absurd hb he
        | exact absurd he0 hb
        | exact absurd hb hp
        | exact absurd hp0 hb
        | (exfalso; simp at hb; done)
        | (refine W.retA TOK rfl ?_; (conv => whnf); refine ⟨rfl, rfl, rfl, rfl, rfl, rfl, ?_, ?_, ?_⟩)
        | (refine W.branch rfl (fun hb => ?_) (fun hb => ?_) <;> ((try simp only [qhb, addI, reduceCtorEq, Int.reduceToNat] at hb); (try replace hb := of_decide_eq_true hb); (try replace hb := of_decide_eq_false hb)))
        | (refine W.callA (cn) rfl rfl rfl rfl hΓ rfl ?_; (conv => whnf); refine ⟨rfl, rfl, ?_, ?_, ?_, ?_⟩; iterate 3 exact qSc15S2; (conv => whnf))
        | (refine W.callA (c1) rfl rfl rfl rfl hΓ rfl ?_; (conv => whnf); refine ⟨rfl, rfl, ?_, ?_, ?_, ?_⟩; iterate 3 exact qSc15S2; (conv => whnf))
        | (refine W.callA (c2) rfl rfl rfl rfl hΓ rfl ?_; (conv => whnf); refine ⟨rfl, rfl, ?_, ?_, ?_, ?_⟩; iterate 3 exact qSc15S2; (conv => whnf))
        | (refine W.callA (d1) rfl rfl rfl rfl hΓ rfl ?_; (conv => whnf); refine ⟨rfl, rfl, ?_, ?_, ?_, ?_⟩; iterate 3 exact qSc15S2; (conv => whnf))
        | (refine W.callA (d2) rfl rfl rfl rfl hΓ rfl ?_; (conv => whnf); refine ⟨rfl, rfl, ?_, ?_, ?_, ?_⟩; iterate 3 exact qSc15S2; (conv => whnf))
        | (refine W.callA (cp) rfl rfl rfl rfl hΓ rfl ?_; (conv => whnf); refine ⟨rfl, rfl, ?_, ?_, ?_, ?_⟩; iterate 3 exact qSc15S2; (conv => whnf))
        | (refine W.callA (ce) rfl rfl rfl rfl hΓ rfl ?_; (conv => whnf); refine ⟨rfl, rfl, ?_, ?_, ?_, ?_⟩; iterate 3 exact qSc15S2; (conv => whnf))
        | (refine W.go TOK 81 hΓ 1000 rfl ?_; (conv => whnf); refine ⟨?_, ?_⟩)
      all_goals (repeat' apply And.intro)
      all_goals try exact qSc15S3
    · rw [if_pos (.inr hq)]
      rw [decide_eq_false hq] at ce
      repeat' first
        | assumption
        | exact Bool.noConfusion hb
        | exact absurd hb (by decide)
        | (exfalso; omega)
        | exact absurd hb he
        | exact absurd he0 hb
        | exact absurd hb hp
        | exact absurd hp0 hb
        | (exfalso; simp at hb; done)
        | (refine W.retA TOK rfl ?_; (conv => whnf); refine ⟨rfl, rfl, rfl, rfl, rfl, rfl, ?_, ?_, ?_⟩)
        | (refine W.branch rfl (fun hb => ?_) (fun hb => ?_) <;> ((try simp only [qhb, addI, reduceCtorEq, Int.reduceToNat] at hb); (try replace hb := of_decide_eq_true hb); (try replace hb := of_decide_eq_false hb)))
        | (refine W.callA (cn) rfl rfl rfl rfl hΓ rfl ?_; (conv => whnf); refine ⟨rfl, rfl, ?_, ?_, ?_, ?_⟩; iterate 3 exact qSc15S2; (conv => whnf))
        | (refine W.callA (c1) rfl rfl rfl rfl hΓ rfl ?_; (conv => whnf); refine ⟨rfl, rfl, ?_, ?_, ?_, ?_⟩; iterate 3 exact qSc15S2; (conv => whnf))
        | (refine W.callA (c2) rfl rfl rfl rfl hΓ rfl ?_; (conv => whnf); refine ⟨rfl, rfl, ?_, ?_, ?_, ?_⟩; iterate 3 exact qSc15S2; (conv => whnf))
        | (refine W.callA (d1) rfl rfl rfl rfl hΓ rfl ?_; (conv => whnf); refine ⟨rfl, rfl, ?_, ?_, ?_, ?_⟩; iterate 3 exact qSc15S2; (conv => whnf))
        | (refine W.callA (d2) rfl rfl rfl rfl hΓ rfl ?_; (conv => whnf); refine ⟨rfl, rfl, ?_, ?_, ?_, ?_⟩; iterate 3 exact qSc15S2; (conv => whnf))
        | (refine W.callA (cp) rfl rfl rfl rfl hΓ rfl ?_; (conv => whnf); refine ⟨rfl, rfl, ?_, ?_, ?_, ?_⟩; iterate 3 exact qSc15S2; (conv => whnf))
        | (refine W.callA (ce) rfl rfl rfl rfl hΓ rfl ?_; (conv => whnf); refine ⟨rfl, rfl, ?_, ?_, ?_, ?_⟩; iterate 3 exact qSc15S2; (conv => whnf))
        | (refine W.go TOK 81 hΓ 1000 rfl ?_; (conv => whnf); refine ⟨?_, ?_⟩)
      all_goals (repeat' apply And.intro)
      all_goals try exact qSc15S3
  by_cases k2 : k = 2
  · have hR : jrec nearT k q x = ⟨k, q, 0, 0, (ureadS (jrest x).1).1, nearT (jn1 x).1, 0⟩ := (if_neg k1).trans (if_pos k2)
    have cl := left_does (jn1 x).2.l (jn1 x).2.e
    have cw := raw_does (jn1 x).2.l (jn1 x).2.e (jn1 x).2.l.length (by omega)
    rw [show rawS ⟨(jn1 x).2.l, (jn1 x).2.e⟩ (jn1 x).2.l.length = jrest x from rfl] at cw
    have cu := uread_does (jrest x).1 (by omega)
    rw [hR] at hro ⊢
    have cp := jput_does _ hro
    clear hro hR
    unfold Rd.o at c1 cw
    generalize jn1 x = a1 at *
    generalize jrest x = a2 at *
    generalize ureadS a2.1 = u9 at *
    have ce := equal_does (jputS ⟨k, q, 0, 0, u9.1, nearT a1.1, 0⟩).1 (b.take (21 + x.length))
    generalize jputS _ = p at cp ce ⊢
    refine Does.intro (fn := Try.f24) Try.func24 rfl rfl fun Γ hΓ => ?_
    refine W.run Tj5OK 81 hΓ 1000 ?_
    conv => whnf
    refine ⟨?_, ?_⟩
    repeat' first
      | assumption
      | exact Bool.noConfusion hb
      | exact absurd hb (by decide)
      | (exfalso; omega)
      | exact absurd hb he
      | exact absurd he0 hb
      | exact absurd hb hp
      | exact absurd hp0 hb
      | (exfalso; simp at hb; done)
      | (refine W.branch rfl (fun hb => ?_) (fun hb => ?_) <;> ((try simp only [qhb, addI, reduceCtorEq, Int.reduceToNat] at hb); (try replace hb := of_decide_eq_true hb); (try replace hb := of_decide_eq_false hb)))
      | (refine W.callA (cf) rfl rfl rfl rfl hΓ rfl ?_; (conv => whnf); refine ⟨rfl, rfl, ?_, ?_, ?_, ?_⟩; iterate 3 exact qSc15S1; (conv => whnf))
      | (refine W.go Tj5OK 81 hΓ 1000 rfl ?_; (conv => whnf); refine ⟨?_, ?_⟩)
    all_goals (repeat' apply And.intro)
    all_goals try exact qcs0
    refine W.cutA [0, 2, 3, 4, 5, 6, 7, 8, 9, 10] [600] ?_
    (conv => whnf); refine ⟨?_, ?_⟩; focus ((conv => whnf); refine ⟨rfl, rfl, rfl, rfl, rfl, rfl, ?_, ?_⟩; iterate 2 exact qlf1)
    by_cases hp : p.2 ≠ 0
    · rw [if_pos (.inl hp)]
      repeat' first
        | assumption
        | exact Bool.noConfusion hb
        | exact absurd hb (by decide)
        | (exfalso; omega)
        | exact absurd hb he
        | exact absurd he0 hb
        | exact absurd hb hp
        | exact absurd hp0 hb
        | (exfalso; simp at hb; done)
        | (refine W.retA TOK rfl ?_; (conv => whnf); refine ⟨rfl, rfl, rfl, rfl, rfl, rfl, ?_, ?_, ?_⟩)
        | (refine W.branch rfl (fun hb => ?_) (fun hb => ?_) <;> ((try simp only [qhb, addI, reduceCtorEq, Int.reduceToNat] at hb); (try replace hb := of_decide_eq_true hb); (try replace hb := of_decide_eq_false hb)))
        | (refine W.callA (cn) rfl rfl rfl rfl hΓ rfl ?_; (conv => whnf); refine ⟨rfl, rfl, ?_, ?_, ?_, ?_⟩; iterate 3 exact qSc15S2; (conv => whnf))
        | (refine W.callA (c1) rfl rfl rfl rfl hΓ rfl ?_; (conv => whnf); refine ⟨rfl, rfl, ?_, ?_, ?_, ?_⟩; iterate 3 exact qSc15S2; (conv => whnf))
        | (refine W.callA (d1) rfl rfl rfl rfl hΓ rfl ?_; (conv => whnf); refine ⟨rfl, rfl, ?_, ?_, ?_, ?_⟩; iterate 3 exact qSc15S2; (conv => whnf))
        | (refine W.callA (cl) rfl rfl rfl rfl hΓ rfl ?_; (conv => whnf); refine ⟨rfl, rfl, ?_, ?_, ?_, ?_⟩; iterate 3 exact qSc15S2; (conv => whnf))
        | (refine W.callA (cw) rfl rfl rfl rfl hΓ rfl ?_; (conv => whnf); refine ⟨rfl, rfl, ?_, ?_, ?_, ?_⟩; iterate 3 exact qSc15S2; (conv => whnf))
        | (refine W.callA (cu) rfl rfl rfl rfl hΓ rfl ?_; (conv => whnf); refine ⟨rfl, rfl, ?_, ?_, ?_, ?_⟩; iterate 3 exact qSc15S2; (conv => whnf))
        | (refine W.callA (cp) rfl rfl rfl rfl hΓ rfl ?_; (conv => whnf); refine ⟨rfl, rfl, ?_, ?_, ?_, ?_⟩; iterate 3 exact qSc15S2; (conv => whnf))
        | (refine W.callA (ce) rfl rfl rfl rfl hΓ rfl ?_; (conv => whnf); refine ⟨rfl, rfl, ?_, ?_, ?_, ?_⟩; iterate 3 exact qSc15S2; (conv => whnf))
        | (refine W.go TOK 81 hΓ 1000 rfl ?_; (conv => whnf); refine ⟨?_, ?_⟩)
      all_goals (repeat' apply And.intro)
      all_goals try exact qSc15S3
    have hp0 : p.2 = 0 := Decidable.not_not.1 hp
    by_cases hq : p.1 = b.take (21 + x.length)
    · rw [if_neg (fun h => h.elim hp (fun h => h hq))]
      rw [decide_eq_true hq] at ce
      repeat' first
        | assumption
        | exact Bool.noConfusion hb
        | exact absurd hb (by decide)
        | (exfalso; omega)
        | exact absurd hb he
        | exact absurd he0 hb
        | exact absurd hb hp
        | exact absurd hp0 hb
        | (exfalso; simp at hb; done)
        | (refine W.retA TOK rfl ?_; (conv => whnf); refine ⟨rfl, rfl, rfl, rfl, rfl, rfl, ?_, ?_, ?_⟩)
        | (refine W.branch rfl (fun hb => ?_) (fun hb => ?_) <;> ((try simp only [qhb, addI, reduceCtorEq, Int.reduceToNat] at hb); (try replace hb := of_decide_eq_true hb); (try replace hb := of_decide_eq_false hb)))
        | (refine W.callA (cn) rfl rfl rfl rfl hΓ rfl ?_; (conv => whnf); refine ⟨rfl, rfl, ?_, ?_, ?_, ?_⟩; iterate 3 exact qSc15S2; (conv => whnf))
        | (refine W.callA (c1) rfl rfl rfl rfl hΓ rfl ?_; (conv => whnf); refine ⟨rfl, rfl, ?_, ?_, ?_, ?_⟩; iterate 3 exact qSc15S2; (conv => whnf))
        | (refine W.callA (d1) rfl rfl rfl rfl hΓ rfl ?_; (conv => whnf); refine ⟨rfl, rfl, ?_, ?_, ?_, ?_⟩; iterate 3 exact qSc15S2; (conv => whnf))
        | (refine W.callA (cl) rfl rfl rfl rfl hΓ rfl ?_; (conv => whnf); refine ⟨rfl, rfl, ?_, ?_, ?_, ?_⟩; iterate 3 exact qSc15S2; (conv => whnf))
        | (refine W.callA (cw) rfl rfl rfl rfl hΓ rfl ?_; (conv => whnf); refine ⟨rfl, rfl, ?_, ?_, ?_, ?_⟩; iterate 3 exact qSc15S2; (conv => whnf))
        | (refine W.callA (cu) rfl rfl rfl rfl hΓ rfl ?_; (conv => whnf); refine ⟨rfl, rfl, ?_, ?_, ?_, ?_⟩; iterate 3 exact qSc15S2; (conv => whnf))
        | (refine W.callA (cp) rfl rfl rfl rfl hΓ rfl ?_; (conv => whnf); refine ⟨rfl, rfl, ?_, ?_, ?_, ?_⟩; iterate 3 exact qSc15S2; (conv => whnf))
        | (refine W.callA (ce) rfl rfl rfl rfl hΓ rfl ?_; (conv => whnf); refine ⟨rfl, rfl, ?_, ?_, ?_, ?_⟩; iterate 3 exact qSc15S2; (conv => whnf))
        | (refine W.go TOK 81 hΓ 1000 rfl ?_; (conv => whnf); refine ⟨?_, ?_⟩)
      all_goals (repeat' apply And.intro)
      all_goals try exact qSc15S3
    · rw [if_pos (.inr hq)]
      rw [decide_eq_false hq] at ce
      repeat' first
        | assumption
        | exact Bool.noConfusion hb
        | exact absurd hb (by decide)
        | (exfalso; omega)
        | exact absurd hb he
        | exact absurd he0 hb
        | exact absurd hb hp
        | exact absurd hp0 hb
        | (exfalso; simp at hb; done)
        | (refine W.retA TOK rfl ?_; (conv => whnf); refine ⟨rfl, rfl, rfl, rfl, rfl, rfl, ?_, ?_, ?_⟩)
        | (refine W.branch rfl (fun hb => ?_) (fun hb => ?_) <;> ((try simp only [qhb, addI, reduceCtorEq, Int.reduceToNat] at hb); (try replace hb := of_decide_eq_true hb); (try replace hb := of_decide_eq_false hb)))
        | (refine W.callA (cn) rfl rfl rfl rfl hΓ rfl ?_; (conv => whnf); refine ⟨rfl, rfl, ?_, ?_, ?_, ?_⟩; iterate 3 exact qSc15S2; (conv => whnf))
        | (refine W.callA (c1) rfl rfl rfl rfl hΓ rfl ?_; (conv => whnf); refine ⟨rfl, rfl, ?_, ?_, ?_, ?_⟩; iterate 3 exact qSc15S2; (conv => whnf))
        | (refine W.callA (d1) rfl rfl rfl rfl hΓ rfl ?_; (conv => whnf); refine ⟨rfl, rfl, ?_, ?_, ?_, ?_⟩; iterate 3 exact qSc15S2; (conv => whnf))
        | (refine W.callA (cl) rfl rfl rfl rfl hΓ rfl ?_; (conv => whnf); refine ⟨rfl, rfl, ?_, ?_, ?_, ?_⟩; iterate 3 exact qSc15S2; (conv => whnf))
        | (refine W.callA (cw) rfl rfl rfl rfl hΓ rfl ?_; (conv => whnf); refine ⟨rfl, rfl, ?_, ?_, ?_, ?_⟩; iterate 3 exact qSc15S2; (conv => whnf))
        | (refine W.callA (cu) rfl rfl rfl rfl hΓ rfl ?_; (conv => whnf); refine ⟨rfl, rfl, ?_, ?_, ?_, ?_⟩; iterate 3 exact qSc15S2; (conv => whnf))
        | (refine W.callA (cp) rfl rfl rfl rfl hΓ rfl ?_; (conv => whnf); refine ⟨rfl, rfl, ?_, ?_, ?_, ?_⟩; iterate 3 exact qSc15S2; (conv => whnf))
        | (refine W.callA (ce) rfl rfl rfl rfl hΓ rfl ?_; (conv => whnf); refine ⟨rfl, rfl, ?_, ?_, ?_, ?_⟩; iterate 3 exact qSc15S2; (conv => whnf))
        | (refine W.go TOK 81 hΓ 1000 rfl ?_; (conv => whnf); refine ⟨?_, ?_⟩)
      all_goals (repeat' apply And.intro)
      all_goals try exact qSc15S3
  by_cases k3 : k = 3
  · have hR : jrec nearT k q x = ⟨k, q, 0, 0, ⟨[], 0, 0, 0, 0, 0⟩, 0, nearT (jn1 x).1⟩ := (if_neg k1).trans ((if_neg k2).trans (if_pos k3))
    rw [hR] at hro ⊢
    have cp := jput_does _ hro
    clear hro hR
    unfold Rd.o at c1
    generalize jn1 x = a1 at *
    have ce := equal_does (jputS ⟨k, q, 0, 0, ⟨[], 0, 0, 0, 0, 0⟩, 0, nearT a1.1⟩).1 (b.take (21 + x.length))
    generalize jputS _ = p at cp ce ⊢
    refine Does.intro (fn := Try.f24) Try.func24 rfl rfl fun Γ hΓ => ?_
    refine W.run Tj5OK 81 hΓ 1000 ?_
    conv => whnf
    refine ⟨?_, ?_⟩
    repeat' first
      | assumption
      | exact Bool.noConfusion hb
      | exact absurd hb (by decide)
      | (exfalso; omega)
      | exact absurd hb he
      | exact absurd he0 hb
      | exact absurd hb hp
      | exact absurd hp0 hb
      | (exfalso; simp at hb; done)
      | (refine W.branch rfl (fun hb => ?_) (fun hb => ?_) <;> ((try simp only [qhb, addI, reduceCtorEq, Int.reduceToNat] at hb); (try replace hb := of_decide_eq_true hb); (try replace hb := of_decide_eq_false hb)))
      | (refine W.callA (cf) rfl rfl rfl rfl hΓ rfl ?_; (conv => whnf); refine ⟨rfl, rfl, ?_, ?_, ?_, ?_⟩; iterate 3 exact qSc15S1; (conv => whnf))
      | (refine W.go Tj5OK 81 hΓ 1000 rfl ?_; (conv => whnf); refine ⟨?_, ?_⟩)
    all_goals (repeat' apply And.intro)
    all_goals try exact qcs0
    refine W.cutA [0, 2, 3, 4, 5, 6, 7, 8, 9, 10] [600] ?_
    (conv => whnf); refine ⟨?_, ?_⟩; focus ((conv => whnf); refine ⟨rfl, rfl, rfl, rfl, rfl, rfl, ?_, ?_⟩; iterate 2 exact qlf1)
    by_cases hp : p.2 ≠ 0
    · rw [if_pos (.inl hp)]
      repeat' first
        | assumption
        | exact Bool.noConfusion hb
        | exact absurd hb (by decide)
        | (exfalso; omega)
        | exact absurd hb he
        | exact absurd he0 hb
        | exact absurd hb hp
        | exact absurd hp0 hb
        | (exfalso; simp at hb; done)
        | (refine W.retA TOK rfl ?_; (conv => whnf); refine ⟨rfl, rfl, rfl, rfl, rfl, rfl, ?_, ?_, ?_⟩)
        | (refine W.branch rfl (fun hb => ?_) (fun hb => ?_) <;> ((try simp only [qhb, addI, reduceCtorEq, Int.reduceToNat] at hb); (try replace hb := of_decide_eq_true hb); (try replace hb := of_decide_eq_false hb)))
        | (refine W.callA (cn) rfl rfl rfl rfl hΓ rfl ?_; (conv => whnf); refine ⟨rfl, rfl, ?_, ?_, ?_, ?_⟩; iterate 3 exact qSc15S2; (conv => whnf))
        | (refine W.callA (c1) rfl rfl rfl rfl hΓ rfl ?_; (conv => whnf); refine ⟨rfl, rfl, ?_, ?_, ?_, ?_⟩; iterate 3 exact qSc15S2; (conv => whnf))
        | (refine W.callA (d1) rfl rfl rfl rfl hΓ rfl ?_; (conv => whnf); refine ⟨rfl, rfl, ?_, ?_, ?_, ?_⟩; iterate 3 exact qSc15S2; (conv => whnf))
        | (refine W.callA (cp) rfl rfl rfl rfl hΓ rfl ?_; (conv => whnf); refine ⟨rfl, rfl, ?_, ?_, ?_, ?_⟩; iterate 3 exact qSc15S2; (conv => whnf))
        | (refine W.callA (ce) rfl rfl rfl rfl hΓ rfl ?_; (conv => whnf); refine ⟨rfl, rfl, ?_, ?_, ?_, ?_⟩; iterate 3 exact qSc15S2; (conv => whnf))
        | (refine W.go TOK 81 hΓ 1000 rfl ?_; (conv => whnf); refine ⟨?_, ?_⟩)
      all_goals (repeat' apply And.intro)
      all_goals try exact qSc15S3
    have hp0 : p.2 = 0 := Decidable.not_not.1 hp
    by_cases hq : p.1 = b.take (21 + x.length)
    · rw [if_neg (fun h => h.elim hp (fun h => h hq))]
      rw [decide_eq_true hq] at ce
      repeat' first
        | assumption
        | exact Bool.noConfusion hb
        | exact absurd hb (by decide)
        | (exfalso; omega)
        | exact absurd hb he
        | exact absurd he0 hb
        | exact absurd hb hp
        | exact absurd hp0 hb
        | (exfalso; simp at hb; done)
        | (refine W.retA TOK rfl ?_; (conv => whnf); refine ⟨rfl, rfl, rfl, rfl, rfl, rfl, ?_, ?_, ?_⟩)
        | (refine W.branch rfl (fun hb => ?_) (fun hb => ?_) <;> ((try simp only [qhb, addI, reduceCtorEq, Int.reduceToNat] at hb); (try replace hb := of_decide_eq_true hb); (try replace hb := of_decide_eq_false hb)))
        | (refine W.callA (cn) rfl rfl rfl rfl hΓ rfl ?_; (conv => whnf); refine ⟨rfl, rfl, ?_, ?_, ?_, ?_⟩; iterate 3 exact qSc15S2; (conv => whnf))
        | (refine W.callA (c1) rfl rfl rfl rfl hΓ rfl ?_; (conv => whnf); refine ⟨rfl, rfl, ?_, ?_, ?_, ?_⟩; iterate 3 exact qSc15S2; (conv => whnf))
        | (refine W.callA (d1) rfl rfl rfl rfl hΓ rfl ?_; (conv => whnf); refine ⟨rfl, rfl, ?_, ?_, ?_, ?_⟩; iterate 3 exact qSc15S2; (conv => whnf))
        | (refine W.callA (cp) rfl rfl rfl rfl hΓ rfl ?_; (conv => whnf); refine ⟨rfl, rfl, ?_, ?_, ?_, ?_⟩; iterate 3 exact qSc15S2; (conv => whnf))
        | (refine W.callA (ce) rfl rfl rfl rfl hΓ rfl ?_; (conv => whnf); refine ⟨rfl, rfl, ?_, ?_, ?_, ?_⟩; iterate 3 exact qSc15S2; (conv => whnf))
        | (refine W.go TOK 81 hΓ 1000 rfl ?_; (conv => whnf); refine ⟨?_, ?_⟩)
      all_goals (repeat' apply And.intro)
      all_goals try exact qSc15S3
    · rw [if_pos (.inr hq)]
      rw [decide_eq_false hq] at ce
      repeat' first
        | assumption
        | exact Bool.noConfusion hb
        | exact absurd hb (by decide)
        | (exfalso; omega)
        | exact absurd hb he
        | exact absurd he0 hb
        | exact absurd hb hp
        | exact absurd hp0 hb
        | (exfalso; simp at hb; done)
        | (refine W.retA TOK rfl ?_; (conv => whnf); refine ⟨rfl, rfl, rfl, rfl, rfl, rfl, ?_, ?_, ?_⟩)
        | (refine W.branch rfl (fun hb => ?_) (fun hb => ?_) <;> ((try simp only [qhb, addI, reduceCtorEq, Int.reduceToNat] at hb); (try replace hb := of_decide_eq_true hb); (try replace hb := of_decide_eq_false hb)))
        | (refine W.callA (cn) rfl rfl rfl rfl hΓ rfl ?_; (conv => whnf); refine ⟨rfl, rfl, ?_, ?_, ?_, ?_⟩; iterate 3 exact qSc15S2; (conv => whnf))
        | (refine W.callA (c1) rfl rfl rfl rfl hΓ rfl ?_; (conv => whnf); refine ⟨rfl, rfl, ?_, ?_, ?_, ?_⟩; iterate 3 exact qSc15S2; (conv => whnf))
        | (refine W.callA (d1) rfl rfl rfl rfl hΓ rfl ?_; (conv => whnf); refine ⟨rfl, rfl, ?_, ?_, ?_, ?_⟩; iterate 3 exact qSc15S2; (conv => whnf))
        | (refine W.callA (cp) rfl rfl rfl rfl hΓ rfl ?_; (conv => whnf); refine ⟨rfl, rfl, ?_, ?_, ?_, ?_⟩; iterate 3 exact qSc15S2; (conv => whnf))
        | (refine W.callA (ce) rfl rfl rfl rfl hΓ rfl ?_; (conv => whnf); refine ⟨rfl, rfl, ?_, ?_, ?_, ?_⟩; iterate 3 exact qSc15S2; (conv => whnf))
        | (refine W.go TOK 81 hΓ 1000 rfl ?_; (conv => whnf); refine ⟨?_, ?_⟩)
      all_goals (repeat' apply And.intro)
      all_goals try exact qSc15S3
  · have hR : jrec nearT k q x = ⟨k, q, 0, 0, ⟨[], 0, 0, 0, 0, 0⟩, 0, 0⟩ := (if_neg k1).trans ((if_neg k2).trans (if_neg k3))
    rw [hR] at hro ⊢
    have cp := jput_does _ hro
    clear hro hR c1
    have ce := equal_does (jputS ⟨k, q, 0, 0, ⟨[], 0, 0, 0, 0, 0⟩, 0, 0⟩).1 (b.take (21 + x.length))
    generalize jputS _ = p at cp ce ⊢
    refine Does.intro (fn := Try.f24) Try.func24 rfl rfl fun Γ hΓ => ?_
    refine W.run Tj5OK 81 hΓ 1000 ?_
    conv => whnf
    refine ⟨?_, ?_⟩
    repeat' first
      | assumption
      | exact Bool.noConfusion hb
      | exact absurd hb (by decide)
      | (exfalso; omega)
      | exact absurd hb he
      | exact absurd he0 hb
      | exact absurd hb hp
      | exact absurd hp0 hb
      | (exfalso; simp at hb; done)
      | (refine W.branch rfl (fun hb => ?_) (fun hb => ?_) <;> ((try simp only [qhb, addI, reduceCtorEq, Int.reduceToNat] at hb); (try replace hb := of_decide_eq_true hb); (try replace hb := of_decide_eq_false hb)))
      | (refine W.callA (cf) rfl rfl rfl rfl hΓ rfl ?_; (conv => whnf); refine ⟨rfl, rfl, ?_, ?_, ?_, ?_⟩; iterate 3 exact qSc15S1; (conv => whnf))
      | (refine W.go Tj5OK 81 hΓ 1000 rfl ?_; (conv => whnf); refine ⟨?_, ?_⟩)
    all_goals (repeat' apply And.intro)
    all_goals try exact qcs0
    refine W.cutA [0, 2, 3, 4, 5, 6, 7, 8, 9, 10] [600] ?_
    (conv => whnf); refine ⟨?_, ?_⟩; focus ((conv => whnf); refine ⟨rfl, rfl, rfl, rfl, rfl, rfl, ?_, ?_⟩; iterate 2 exact qlf1)
    by_cases hp : p.2 ≠ 0
    · rw [if_pos (.inl hp)]
      repeat' first
        | assumption
        | exact Bool.noConfusion hb
        | exact absurd hb (by decide)
        | (exfalso; omega)
        | exact absurd hb he
        | exact absurd he0 hb
        | exact absurd hb hp
        | exact absurd hp0 hb
        | (exfalso; simp at hb; done)
        | (refine W.retA TOK rfl ?_; (conv => whnf); refine ⟨rfl, rfl, rfl, rfl, rfl, rfl, ?_, ?_, ?_⟩)
        | (refine W.branch rfl (fun hb => ?_) (fun hb => ?_) <;> ((try simp only [qhb, addI, reduceCtorEq, Int.reduceToNat] at hb); (try replace hb := of_decide_eq_true hb); (try replace hb := of_decide_eq_false hb)))
        | (refine W.callA (cn) rfl rfl rfl rfl hΓ rfl ?_; (conv => whnf); refine ⟨rfl, rfl, ?_, ?_, ?_, ?_⟩; iterate 3 exact qSc15S2; (conv => whnf))
        | (refine W.callA (cp) rfl rfl rfl rfl hΓ rfl ?_; (conv => whnf); refine ⟨rfl, rfl, ?_, ?_, ?_, ?_⟩; iterate 3 exact qSc15S2; (conv => whnf))
        | (refine W.callA (ce) rfl rfl rfl rfl hΓ rfl ?_; (conv => whnf); refine ⟨rfl, rfl, ?_, ?_, ?_, ?_⟩; iterate 3 exact qSc15S2; (conv => whnf))
        | (refine W.go TOK 81 hΓ 1000 rfl ?_; (conv => whnf); refine ⟨?_, ?_⟩)
      all_goals (repeat' apply And.intro)
      all_goals try exact qSc15S3
    have hp0 : p.2 = 0 := Decidable.not_not.1 hp
    by_cases hq : p.1 = b.take (21 + x.length)
    · rw [if_neg (fun h => h.elim hp (fun h => h hq))]
      rw [decide_eq_true hq] at ce
      repeat' first
        | assumption
        | exact Bool.noConfusion hb
        | exact absurd hb (by decide)
        | (exfalso; omega)
        | exact absurd hb he
        | exact absurd he0 hb
        | exact absurd hb hp
        | exact absurd hp0 hb
        | (exfalso; simp at hb; done)
        | (refine W.retA TOK rfl ?_; (conv => whnf); refine ⟨rfl, rfl, rfl, rfl, rfl, rfl, ?_, ?_, ?_⟩)
        | (refine W.branch rfl (fun hb => ?_) (fun hb => ?_) <;> ((try simp only [qhb, addI, reduceCtorEq, Int.reduceToNat] at hb); (try replace hb := of_decide_eq_true hb); (try replace hb := of_decide_eq_false hb)))
        | (refine W.callA (cn) rfl rfl rfl rfl hΓ rfl ?_; (conv => whnf); refine ⟨rfl, rfl, ?_, ?_, ?_, ?_⟩; iterate 3 exact qSc15S2; (conv => whnf))
        | (refine W.callA (cp) rfl rfl rfl rfl hΓ rfl ?_; (conv => whnf); refine ⟨rfl, rfl, ?_, ?_, ?_, ?_⟩; iterate 3 exact qSc15S2; (conv => whnf))
        | (refine W.callA (ce) rfl rfl rfl rfl hΓ rfl ?_; (conv => whnf); refine ⟨rfl, rfl, ?_, ?_, ?_, ?_⟩; iterate 3 exact qSc15S2; (conv => whnf))
        | (refine W.go TOK 81 hΓ 1000 rfl ?_; (conv => whnf); refine ⟨?_, ?_⟩)
      all_goals (repeat' apply And.intro)
      all_goals try exact qSc15S3
    · rw [if_pos (.inr hq)]
      rw [decide_eq_false hq] at ce
      repeat' first
        | assumption
        | exact Bool.noConfusion hb
        | exact absurd hb (by decide)
        | (exfalso; omega)
        | exact absurd hb he
        | exact absurd he0 hb
        | exact absurd hb hp
        | exact absurd hp0 hb
        | (exfalso; simp at hb; done)
        | (refine W.retA TOK rfl ?_; (conv => whnf); refine ⟨rfl, rfl, rfl, rfl, rfl, rfl, ?_, ?_, ?_⟩)
        | (refine W.branch rfl (fun hb => ?_) (fun hb => ?_) <;> ((try simp only [qhb, addI, reduceCtorEq, Int.reduceToNat] at hb); (try replace hb := of_decide_eq_true hb); (try replace hb := of_decide_eq_false hb)))
        | (refine W.callA (cn) rfl rfl rfl rfl hΓ rfl ?_; (conv => whnf); refine ⟨rfl, rfl, ?_, ?_, ?_, ?_⟩; iterate 3 exact qSc15S2; (conv => whnf))
        | (refine W.callA (cp) rfl rfl rfl rfl hΓ rfl ?_; (conv => whnf); refine ⟨rfl, rfl, ?_, ?_, ?_, ?_⟩; iterate 3 exact qSc15S2; (conv => whnf))
        | (refine W.callA (ce) rfl rfl rfl rfl hΓ rfl ?_; (conv => whnf); refine ⟨rfl, rfl, ?_, ?_, ?_, ?_⟩; iterate 3 exact qSc15S2; (conv => whnf))
        | (refine W.go TOK 81 hΓ 1000 rfl ?_; (conv => whnf); refine ⟨?_, ?_⟩)
      all_goals (repeat' apply And.intro)
      all_goals try exact qSc15S3

end Go.Proofs.Ytcolghonbncpnaa
