/- Walks: the reference reads numbers, entries, requests. -/
import Derived.Test.YtcolghonbncpnaaSc15V
import Derived.Test.YtcolghonbncpnaaPlB
import Derived.Test.YtcolghonbncpnaaVxI
set_option linter.unusedSimpArgs false
set_option linter.unusedVariables false
namespace Go.Proofs.Ytcolghonbncpnaa
open VX
set_option maxRecDepth 100000
set_option maxHeartbeats 4000000
theorem qSc15I1 {P : Prop} (h : P := by (focus ((repeat' apply And.intro) <;> first | exact qlf0 | exact hw))) : P := h
theorem qSc15I2 {P : Prop} (h : P := by (focus ((repeat' apply And.intro) <;> first | exact qlf0 | exact ⟨rfl, rfl, rfl⟩ | exact ⟨rfl, rfl, rfl, rfl, ⟨rfl, rfl⟩⟩ | ((repeat' apply And.intro) <;> rfl) | exact hbs))) : P := h
theorem qSc15I3 {P : Prop} (h : P := by (focus ((repeat' apply And.intro) <;> first | exact qlf0 | exact ⟨rfl, rfl, rfl⟩ | exact ⟨rfl, rfl, rfl, rfl, ⟨rfl, rfl⟩⟩ | ((repeat' apply And.intro) <;> rfl)))) : P := h
theorem rint_does (l : List UInt8) (e : Int) (h : l.length ≤ 1000000000000) : Does Try.prog 26 [.ptr 1000 []] [(1000, some (rd l e))] [] (Is (.int .i64 (intR (numR ⟨l, e⟩).1)) [(1000, some (numR ⟨l, e⟩).2.o)]) := by
  have c1 := rgetn_does l e h
  have hq := inr_u64.1 (numR_facts ⟨l, e⟩).1
  unfold Rd.o at c1 ⊢
  generalize numR ⟨l, e⟩ = q at c1 hq ⊢
  unfold intR
  by_cases h1 : 9223372036854775807 < q.1
  · rw [if_pos h1]
    refine Does.intro (fn := Try.f26) Try.func26 rfl rfl fun Γ hΓ => ?_
    refine W.run TOK 10 hΓ 1000 ?_
    conv => whnf
    refine ⟨?_, ?_⟩
    repeat' first
      | assumption
      | exact Bool.noConfusion hb
      | exact absurd hb (by decide)
      | (exfalso; omega)
      | (refine W.retA TOK rfl ?_; (conv => whnf); refine ⟨rfl, rfl, rfl, rfl, rfl, rfl, ?_, ?_, ?_⟩)
      | (refine W.branch rfl (fun hb => ?_) (fun hb => ?_) <;> ((try simp only [qhb, addI, reduceCtorEq, Int.reduceToNat] at hb); (try replace hb := of_decide_eq_true hb); (try replace hb := of_decide_eq_false hb)))
      | (refine W.callA (c1) rfl rfl rfl rfl hΓ rfl ?_; (conv => whnf); refine ⟨rfl, rfl, ?_, ?_, ?_, ?_⟩; iterate 3 exact qlf1; (conv => whnf))
      | (refine W.go TOK 10 hΓ 1000 rfl ?_; (conv => whnf); refine ⟨?_, ?_⟩)
    all_goals (repeat' apply And.intro)
    all_goals try exact qcs0
  · rw [if_neg h1]
    have hw : IntKind.i64.wrap q.1 = q.1 := wrap_i64_in (by omega) (by omega)
    refine Does.intro (fn := Try.f26) Try.func26 rfl rfl fun Γ hΓ => ?_
    refine W.run TOK 10 hΓ 1000 ?_
    conv => whnf
    refine ⟨?_, ?_⟩
    repeat' first
      | assumption
      | exact Bool.noConfusion hb
      | exact absurd hb (by decide)
      | (exfalso; omega)
      | (refine W.retA TOK rfl ?_; (conv => whnf); refine ⟨rfl, rfl, rfl, rfl, rfl, rfl, ?_, ?_, ?_⟩)
      | (refine W.branch rfl (fun hb => ?_) (fun hb => ?_) <;> ((try simp only [qhb, addI, reduceCtorEq, Int.reduceToNat] at hb); (try replace hb := of_decide_eq_true hb); (try replace hb := of_decide_eq_false hb)))
      | (refine W.callA (c1) rfl rfl rfl rfl hΓ rfl ?_; (conv => whnf); refine ⟨rfl, rfl, ?_, ?_, ?_, ?_⟩; iterate 3 exact qSc15I1; (conv => whnf))
      | (refine W.go TOK 10 hΓ 1000 rfl ?_; (conv => whnf); refine ⟨?_, ?_⟩)
    all_goals (repeat' apply And.intro)
    all_goals try first | exact qcl0 | exact hw | exact qsm0

theorem rof_does (b : List UInt8) (h : b.length ≤ 1000000000) : Does Try.prog 48 [.ptr 1000 []] [(1000, some (rd b 0))] [] (Is (entA (urd1 b).1 (intR (urd2 b).1) (urd3 b).1) [(1000, some (urd3 b).2.o)]) := by
  have hL := urdLen b
  have l1 := hL.l1
  have l2 := hL.l2
  have l3 := hL.l3
  have c1 := rgetl_does b 0 32 (by omega) (inr_i64.2 (by omega))
  have c2 := rint_does (urd1 b).2.l (urd1 b).2.e (by omega)
  have c3 := rgetn_does (urd2 b).2.l (urd2 b).2.e (by omega)
  rw [show lumpR ⟨b, 0⟩ 32 = urd1 b from rfl] at c1
  rw [show numR ⟨(urd1 b).2.l, (urd1 b).2.e⟩ = urd2 b from rfl] at c2
  rw [show numR ⟨(urd2 b).2.l, (urd2 b).2.e⟩ = urd3 b from rfl] at c3
  unfold Rd.o at c1 c2 c3 ⊢
  clear hL
  generalize urd1 b = a1 at *
  generalize urd2 b = a2 at *
  generalize urd3 b = a3 at *
  have hbs : bytesOf a1.1.length (byteAt a1.1) = a1.1 := bytes_fun rfl
  refine Does.intro (fn := Try.f48) Try.func48 rfl rfl fun Γ hΓ => ?_
  refine W.run TOK 15 hΓ 1000 ?_
  conv => whnf
  refine ⟨?_, ?_⟩
  repeat' first
    | assumption
    | exact Bool.noConfusion hb
    | exact absurd hb (by decide)
    | (exfalso; omega)
    | (refine W.retA TOK rfl ?_; (conv => whnf); refine ⟨rfl, rfl, rfl, rfl, rfl, rfl, ?_, ?_, ?_⟩)
    | (refine W.branch rfl (fun hb => ?_) (fun hb => ?_) <;> ((try simp only [qhb, addI, reduceCtorEq, Int.reduceToNat] at hb); (try replace hb := of_decide_eq_true hb); (try replace hb := of_decide_eq_false hb)))
    | (refine W.callA (c1) rfl rfl rfl rfl hΓ rfl ?_; (conv => whnf); refine ⟨rfl, rfl, ?_, ?_, ?_, ?_⟩; iterate 3 exact qSc15I2; (conv => whnf))
    | (refine W.callA (c2) rfl rfl rfl rfl hΓ rfl ?_; (conv => whnf); refine ⟨rfl, rfl, ?_, ?_, ?_, ?_⟩; iterate 3 exact qSc15I2; (conv => whnf))
    | (refine W.callA (c3) rfl rfl rfl rfl hΓ rfl ?_; (conv => whnf); refine ⟨rfl, rfl, ?_, ?_, ?_, ?_⟩; iterate 3 exact qSc15I2; (conv => whnf))
    | (refine W.go TOK 15 hΓ 1000 rfl ?_; (conv => whnf); refine ⟨?_, ?_⟩)
  all_goals (repeat' apply And.intro)
  all_goals try first | exact qcl0 | exact hbs | exact qsm0

theorem ruread_does (b : List UInt8) (h9 : b.length ≤ 1000000000) : Does Try.prog 27 [bytesA b] [] [] (Is (.tup [updA (ureadS b).1, .int .i64 (ureadS b).2]) []) := by
  rw [← uread_same]
  by_cases h5 : 512 < b.length
  · rw [show ureadF intR b = (default, 22) from if_pos h5]
    refine Does.intro (fn := Try.f27) Try.func27 rfl rfl fun Γ hΓ => ?_
    refine W.run TOK 58 hΓ 1000 ?_
    conv => whnf
    refine ⟨?_, ?_⟩
    repeat' first
      | assumption
      | exact Bool.noConfusion hb
      | exact absurd hb (by decide)
      | (exfalso; omega)
      | (refine W.retA TOK rfl ?_; (conv => whnf); refine ⟨rfl, rfl, rfl, rfl, rfl, rfl, ?_, ?_, ?_⟩)
      | ((first | refine W.branch rfl (fun hb => ?_) (fun hb => ?_) | refine D.branch rfl (fun hb => ?_) (fun hb => ?_)) <;> ((try simp only [qhb, addI, reduceCtorEq, Int.reduceToNat] at hb); (try replace hb := of_decide_eq_true hb); (try replace hb := of_decide_eq_false hb)))
      | (refine W.go TOK 58 hΓ 1000 rfl ?_; (conv => whnf); refine ⟨?_, ?_⟩)
      | (refine D.go TOK 58 hΓ 1000 rfl ?_; (conv => whnf); refine ⟨?_, ?_⟩)
      | (refine W.drawn rfl rfl ?_; refine D.run TOK 58 hΓ 1000 ?_; (conv => whnf); refine ⟨?_, ?_⟩)
    all_goals (repeat' apply And.intro)
    all_goals try exact qcs0
  have hL := urdLen b
  have l3 := hL.l3
  have l4 := hL.l4
  have l5 := hL.l5
  have l6 := hL.l6
  have rof := rof_does b h9
  have c4 := rint_does (urd3 b).2.l (urd3 b).2.e (by omega)
  have c5 := rgetn_does (urd4 b).2.l (urd4 b).2.e (by omega)
  have c6 := rgetn_does (urd5 b).2.l (urd5 b).2.e (by omega)
  have cr := rupdright_does (ustep intR b)
  have hx : ureadF intR b = if (urd6 b).2.e ≠ 0 then (default, (urd6 b).2.e) else if 0 < (urd6 b).2.l.length then (default, 20) else if updRight (ustep intR b) = true then (ustep intR b, 0) else (default, 23) := if_neg h5
  have hst : ustep intR b = ⟨(urd1 b).1, intR (urd2 b).1, (urd3 b).1, intR (urd4 b).1, (urd5 b).1, (urd6 b).1⟩ := rfl
  rw [show numR ⟨(urd3 b).2.l, (urd3 b).2.e⟩ = urd4 b from rfl] at c4
  rw [show numR ⟨(urd4 b).2.l, (urd4 b).2.e⟩ = urd5 b from rfl] at c5
  rw [show numR ⟨(urd5 b).2.l, (urd5 b).2.e⟩ = urd6 b from rfl] at c6
  unfold Rd.o at rof c4 c5 c6
  rw [hx]
  rw [hst] at cr ⊢
  clear hst hx hL
  generalize urd1 b = a1 at *
  generalize urd2 b = a2 at *
  generalize urd3 b = a3 at *
  generalize urd4 b = a4 at *
  generalize urd5 b = a5 at *
  generalize urd6 b = a6 at *
  by_cases he : a6.2.e ≠ 0
  · rw [if_pos he]
    refine Does.intro (fn := Try.f27) Try.func27 rfl rfl fun Γ hΓ => ?_
    refine W.run TOK 58 hΓ 1000 ?_
    conv => whnf
    refine ⟨?_, ?_⟩
    repeat' first
      | assumption
      | exact Bool.noConfusion hb
      | exact absurd hb (by decide)
      | (exfalso; omega)
      | exact absurd hb he
      | (refine W.retA TOK rfl ?_; (conv => whnf); refine ⟨rfl, rfl, rfl, rfl, rfl, rfl, ?_, ?_, ?_⟩)
      | ((first | refine W.branch rfl (fun hb => ?_) (fun hb => ?_) | refine D.branch rfl (fun hb => ?_) (fun hb => ?_)) <;> ((try simp only [qhb, addI, reduceCtorEq, Int.reduceToNat] at hb); (try replace hb := of_decide_eq_true hb); (try replace hb := of_decide_eq_false hb)))
      | ((first | (refine D.callAK (rof) rfl rfl rfl rfl hΓ rfl ?_; (conv => whnf); refine ⟨rfl, rfl, rfl, ?_, ?_, ?_, ?_⟩) | (refine W.callA (rof) rfl rfl rfl rfl hΓ rfl ?_; (conv => whnf); refine ⟨rfl, rfl, ?_, ?_, ?_, ?_⟩)); iterate 3 exact qSc15I3; (conv => whnf))
      | ((first | (refine D.callAK (c4) rfl rfl rfl rfl hΓ rfl ?_; (conv => whnf); refine ⟨rfl, rfl, rfl, ?_, ?_, ?_, ?_⟩) | (refine W.callA (c4) rfl rfl rfl rfl hΓ rfl ?_; (conv => whnf); refine ⟨rfl, rfl, ?_, ?_, ?_, ?_⟩)); iterate 3 exact qSc15I3; (conv => whnf))
      | ((first | (refine D.callAK (c5) rfl rfl rfl rfl hΓ rfl ?_; (conv => whnf); refine ⟨rfl, rfl, rfl, ?_, ?_, ?_, ?_⟩) | (refine W.callA (c5) rfl rfl rfl rfl hΓ rfl ?_; (conv => whnf); refine ⟨rfl, rfl, ?_, ?_, ?_, ?_⟩)); iterate 3 exact qSc15I3; (conv => whnf))
      | ((first | (refine D.callAK (c6) rfl rfl rfl rfl hΓ rfl ?_; (conv => whnf); refine ⟨rfl, rfl, rfl, ?_, ?_, ?_, ?_⟩) | (refine W.callA (c6) rfl rfl rfl rfl hΓ rfl ?_; (conv => whnf); refine ⟨rfl, rfl, ?_, ?_, ?_, ?_⟩)); iterate 3 exact qSc15I3; (conv => whnf))
      | ((first | (refine D.callA (cr) rfl rfl rfl rfl hΓ rfl ?_; (conv => whnf); refine ⟨rfl, rfl, rfl, ?_, ?_, ?_, ?_⟩) | (refine W.callA (cr) rfl rfl rfl rfl hΓ rfl ?_; (conv => whnf); refine ⟨rfl, rfl, ?_, ?_, ?_, ?_⟩)); iterate 3 exact qSc15I3; (conv => whnf))
      | (refine W.go TOK 58 hΓ 1000 rfl ?_; (conv => whnf); refine ⟨?_, ?_⟩)
      | (refine D.go TOK 58 hΓ 1000 rfl ?_; (conv => whnf); refine ⟨?_, ?_⟩)
      | (refine W.drawn rfl rfl ?_; refine D.run TOK 58 hΓ 1000 ?_; (conv => whnf); refine ⟨?_, ?_⟩)
    all_goals (repeat' apply And.intro)
    all_goals try exact qcs0
  · rw [if_neg he]
    have he0 : a6.2.e = 0 := Decidable.not_not.1 he
    by_cases hl : 0 < a6.2.l.length
    · rw [if_pos hl]
      refine Does.intro (fn := Try.f27) Try.func27 rfl rfl fun Γ hΓ => ?_
      refine W.run TOK 58 hΓ 1000 ?_
      conv => whnf
      refine ⟨?_, ?_⟩
      repeat' first
        | assumption
        | exact Bool.noConfusion hb
        | exact absurd hb (by decide)
        | (exfalso; omega)
        | exact absurd hb he
        | exact absurd he0 hb
        | (exfalso; simp at hb; done)
        | (refine W.retA TOK rfl ?_; (conv => whnf); refine ⟨rfl, rfl, rfl, rfl, rfl, rfl, ?_, ?_, ?_⟩)
        | ((first | refine W.branch rfl (fun hb => ?_) (fun hb => ?_) | refine D.branch rfl (fun hb => ?_) (fun hb => ?_)) <;> ((try simp only [qhb, addI, reduceCtorEq, Int.reduceToNat] at hb); (try replace hb := of_decide_eq_true hb); (try replace hb := of_decide_eq_false hb)))
        | ((first | (refine D.callAK (rof) rfl rfl rfl rfl hΓ rfl ?_; (conv => whnf); refine ⟨rfl, rfl, rfl, ?_, ?_, ?_, ?_⟩) | (refine W.callA (rof) rfl rfl rfl rfl hΓ rfl ?_; (conv => whnf); refine ⟨rfl, rfl, ?_, ?_, ?_, ?_⟩)); iterate 3 exact qSc15I3; (conv => whnf))
        | ((first | (refine D.callAK (c4) rfl rfl rfl rfl hΓ rfl ?_; (conv => whnf); refine ⟨rfl, rfl, rfl, ?_, ?_, ?_, ?_⟩) | (refine W.callA (c4) rfl rfl rfl rfl hΓ rfl ?_; (conv => whnf); refine ⟨rfl, rfl, ?_, ?_, ?_, ?_⟩)); iterate 3 exact qSc15I3; (conv => whnf))
        | ((first | (refine D.callAK (c5) rfl rfl rfl rfl hΓ rfl ?_; (conv => whnf); refine ⟨rfl, rfl, rfl, ?_, ?_, ?_, ?_⟩) | (refine W.callA (c5) rfl rfl rfl rfl hΓ rfl ?_; (conv => whnf); refine ⟨rfl, rfl, ?_, ?_, ?_, ?_⟩)); iterate 3 exact qSc15I3; (conv => whnf))
        | ((first | (refine D.callAK (c6) rfl rfl rfl rfl hΓ rfl ?_; (conv => whnf); refine ⟨rfl, rfl, rfl, ?_, ?_, ?_, ?_⟩) | (refine W.callA (c6) rfl rfl rfl rfl hΓ rfl ?_; (conv => whnf); refine ⟨rfl, rfl, ?_, ?_, ?_, ?_⟩)); iterate 3 exact qSc15I3; (conv => whnf))
        | ((first | (refine D.callA (cr) rfl rfl rfl rfl hΓ rfl ?_; (conv => whnf); refine ⟨rfl, rfl, rfl, ?_, ?_, ?_, ?_⟩) | (refine W.callA (cr) rfl rfl rfl rfl hΓ rfl ?_; (conv => whnf); refine ⟨rfl, rfl, ?_, ?_, ?_, ?_⟩)); iterate 3 exact qSc15I3; (conv => whnf))
        | (refine W.go TOK 58 hΓ 1000 rfl ?_; (conv => whnf); refine ⟨?_, ?_⟩)
        | (refine D.go TOK 58 hΓ 1000 rfl ?_; (conv => whnf); refine ⟨?_, ?_⟩)
        | (refine W.drawn rfl rfl ?_; refine D.run TOK 58 hΓ 1000 ?_; (conv => whnf); refine ⟨?_, ?_⟩)
      all_goals (repeat' apply And.intro)
      all_goals try exact qcs0
    · rw [if_neg hl]
      cases hr : updRight ⟨a1.1, intR a2.1, a3.1, intR a4.1, a5.1, a6.1⟩ with
      | true =>
        rw [hr] at cr
        rw [if_pos rfl]
        refine Does.intro (fn := Try.f27) Try.func27 rfl rfl fun Γ hΓ => ?_
        refine W.run TOK 58 hΓ 1000 ?_
        conv => whnf
        refine ⟨?_, ?_⟩
        repeat' first
          | assumption
          | exact Bool.noConfusion hb
          | exact absurd hb (by decide)
          | (exfalso; omega)
          | exact absurd hb he
          | exact absurd he0 hb
          | (exfalso; simp at hb; done)
          | (refine W.retA TOK rfl ?_; (conv => whnf); refine ⟨rfl, rfl, rfl, rfl, rfl, rfl, ?_, ?_, ?_⟩)
          | ((first | refine W.branch rfl (fun hb => ?_) (fun hb => ?_) | refine D.branch rfl (fun hb => ?_) (fun hb => ?_)) <;> ((try simp only [qhb, addI, reduceCtorEq, Int.reduceToNat] at hb); (try replace hb := of_decide_eq_true hb); (try replace hb := of_decide_eq_false hb)))
          | ((first | (refine D.callAK (rof) rfl rfl rfl rfl hΓ rfl ?_; (conv => whnf); refine ⟨rfl, rfl, rfl, ?_, ?_, ?_, ?_⟩) | (refine W.callA (rof) rfl rfl rfl rfl hΓ rfl ?_; (conv => whnf); refine ⟨rfl, rfl, ?_, ?_, ?_, ?_⟩)); iterate 3 exact qSc15I3; (conv => whnf))
          | ((first | (refine D.callAK (c4) rfl rfl rfl rfl hΓ rfl ?_; (conv => whnf); refine ⟨rfl, rfl, rfl, ?_, ?_, ?_, ?_⟩) | (refine W.callA (c4) rfl rfl rfl rfl hΓ rfl ?_; (conv => whnf); refine ⟨rfl, rfl, ?_, ?_, ?_, ?_⟩)); iterate 3 exact qSc15I3; (conv => whnf))
          | ((first | (refine D.callAK (c5) rfl rfl rfl rfl hΓ rfl ?_; (conv => whnf); refine ⟨rfl, rfl, rfl, ?_, ?_, ?_, ?_⟩) | (refine W.callA (c5) rfl rfl rfl rfl hΓ rfl ?_; (conv => whnf); refine ⟨rfl, rfl, ?_, ?_, ?_, ?_⟩)); iterate 3 exact qSc15I3; (conv => whnf))
          | ((first | (refine D.callAK (c6) rfl rfl rfl rfl hΓ rfl ?_; (conv => whnf); refine ⟨rfl, rfl, rfl, ?_, ?_, ?_, ?_⟩) | (refine W.callA (c6) rfl rfl rfl rfl hΓ rfl ?_; (conv => whnf); refine ⟨rfl, rfl, ?_, ?_, ?_, ?_⟩)); iterate 3 exact qSc15I3; (conv => whnf))
          | ((first | (refine D.callA (cr) rfl rfl rfl rfl hΓ rfl ?_; (conv => whnf); refine ⟨rfl, rfl, rfl, ?_, ?_, ?_, ?_⟩) | (refine W.callA (cr) rfl rfl rfl rfl hΓ rfl ?_; (conv => whnf); refine ⟨rfl, rfl, ?_, ?_, ?_, ?_⟩)); iterate 3 exact qSc15I3; (conv => whnf))
          | (refine W.go TOK 58 hΓ 1000 rfl ?_; (conv => whnf); refine ⟨?_, ?_⟩)
          | (refine D.go TOK 58 hΓ 1000 rfl ?_; (conv => whnf); refine ⟨?_, ?_⟩)
          | (refine W.drawn rfl rfl ?_; refine D.run TOK 58 hΓ 1000 ?_; (conv => whnf); refine ⟨?_, ?_⟩)
        all_goals (repeat' apply And.intro)
        all_goals try exact qcs0
      | false =>
        rw [hr] at cr
        rw [if_neg Bool.false_ne_true]
        refine Does.intro (fn := Try.f27) Try.func27 rfl rfl fun Γ hΓ => ?_
        refine W.run TOK 58 hΓ 1000 ?_
        conv => whnf
        refine ⟨?_, ?_⟩
        repeat' first
          | assumption
          | exact Bool.noConfusion hb
          | exact absurd hb (by decide)
          | (exfalso; omega)
          | exact absurd hb he
          | exact absurd he0 hb
          | (exfalso; simp at hb; done)
          | (refine W.retA TOK rfl ?_; (conv => whnf); refine ⟨rfl, rfl, rfl, rfl, rfl, rfl, ?_, ?_, ?_⟩)
          | ((first | refine W.branch rfl (fun hb => ?_) (fun hb => ?_) | refine D.branch rfl (fun hb => ?_) (fun hb => ?_)) <;> ((try simp only [qhb, addI, reduceCtorEq, Int.reduceToNat] at hb); (try replace hb := of_decide_eq_true hb); (try replace hb := of_decide_eq_false hb)))
          | ((first | (refine D.callAK (rof) rfl rfl rfl rfl hΓ rfl ?_; (conv => whnf); refine ⟨rfl, rfl, rfl, ?_, ?_, ?_, ?_⟩) | (refine W.callA (rof) rfl rfl rfl rfl hΓ rfl ?_; (conv => whnf); refine ⟨rfl, rfl, ?_, ?_, ?_, ?_⟩)); iterate 3 exact qSc15I3; (conv => whnf))
          | ((first | (refine D.callAK (c4) rfl rfl rfl rfl hΓ rfl ?_; (conv => whnf); refine ⟨rfl, rfl, rfl, ?_, ?_, ?_, ?_⟩) | (refine W.callA (c4) rfl rfl rfl rfl hΓ rfl ?_; (conv => whnf); refine ⟨rfl, rfl, ?_, ?_, ?_, ?_⟩)); iterate 3 exact qSc15I3; (conv => whnf))
          | ((first | (refine D.callAK (c5) rfl rfl rfl rfl hΓ rfl ?_; (conv => whnf); refine ⟨rfl, rfl, rfl, ?_, ?_, ?_, ?_⟩) | (refine W.callA (c5) rfl rfl rfl rfl hΓ rfl ?_; (conv => whnf); refine ⟨rfl, rfl, ?_, ?_, ?_, ?_⟩)); iterate 3 exact qSc15I3; (conv => whnf))
          | ((first | (refine D.callAK (c6) rfl rfl rfl rfl hΓ rfl ?_; (conv => whnf); refine ⟨rfl, rfl, rfl, ?_, ?_, ?_, ?_⟩) | (refine W.callA (c6) rfl rfl rfl rfl hΓ rfl ?_; (conv => whnf); refine ⟨rfl, rfl, ?_, ?_, ?_, ?_⟩)); iterate 3 exact qSc15I3; (conv => whnf))
          | ((first | (refine D.callA (cr) rfl rfl rfl rfl hΓ rfl ?_; (conv => whnf); refine ⟨rfl, rfl, rfl, ?_, ?_, ?_, ?_⟩) | (refine W.callA (cr) rfl rfl rfl rfl hΓ rfl ?_; (conv => whnf); refine ⟨rfl, rfl, ?_, ?_, ?_, ?_⟩)); iterate 3 exact qSc15I3; (conv => whnf))
          | (refine W.go TOK 58 hΓ 1000 rfl ?_; (conv => whnf); refine ⟨?_, ?_⟩)
          | (refine D.go TOK 58 hΓ 1000 rfl ?_; (conv => whnf); refine ⟨?_, ?_⟩)
          | (refine W.drawn rfl rfl ?_; refine D.run TOK 58 hΓ 1000 ?_; (conv => whnf); refine ⟨?_, ?_⟩)
        all_goals (repeat' apply And.intro)
        all_goals try exact qcs0

end Go.Proofs.Ytcolghonbncpnaa
