/- Walk: a journal's beginning. -/
import Derived.Test.YtcolghonbncpnaaSc15Q
import Derived.Test.YtcolghonbncpnaaPlB
import Derived.Test.YtcolghonbncpnaaVxI
set_option linter.unusedSimpArgs false
set_option linter.unusedVariables false
namespace Go.Proofs.Ytcolghonbncpnaa
open VX
set_option maxRecDepth 100000
set_option maxHeartbeats 4000000
theorem qSc15b1 {P : Prop} (h : P := by (focus ((repeat' apply And.intro) <;> first | exact qlf0 | exact ⟨rfl, rfl, rfl⟩ | exact ⟨rfl, rfl, rfl, rfl, ⟨rfl, rfl⟩⟩ | ((repeat' apply And.intro) <;> rfl)))) : P := h
theorem qSc15b2 {P : Prop} (h : P := by (focus ((repeat' apply And.intro) <;> first | exact qlf0 | exact ⟨rfl, rfl, rfl⟩ | exact ⟨rfl, rfl, rfl, rfl, ⟨rfl, rfl⟩⟩ | ((repeat' apply And.intro) <;> rfl) | exact w3))) : P := h
theorem qSc15b3 {P : Prop} (h : P := by (focus ((repeat' apply And.intro) <;> first | exact qlf0 | exact ⟨rfl, rfl, rfl⟩ | exact ⟨rfl, rfl, rfl, rfl, ⟨rfl, rfl⟩⟩ | ((repeat' apply And.intro) <;> rfl) | exact w3 | exact hl9 | exact hl9.symm | exact cc _))) : P := h
theorem rbase_does (gen seq : Int) (l : List Pen) (hg : inr .i64 gen) (hs : inr .i64 seq) (h9 : l.length ≤ 1000) (hu : ∀ p ∈ l, UpdOK p.u ∧ inr .i64 p.tick) : Does Try.prog 19 [.int .i64 gen, .int .i64 seq, .ro 9 l.length (lsA penA l)] [] [1] (Is (.own 1 1 0 (bseS gen seq l).length) [(1, some (.arr 1 (bseS gen seq l).length (byteAt (bseS gen seq l))))]) := by
  have cb := rjput_does (baseR gen seq l.length) (base_ok hg hs (by omega))
  cases hb0 : rightS (baseR gen seq l.length) with
  | false =>
    rw [show jputS (baseR gen seq l.length) = ([], 23) by unfold jputS; rw [hb0]; rfl] at cb
    rw [bse_no hb0]
    refine Does.intro (fn := Try.f19) Try.func19 rfl rfl fun Γ hΓ => ?_
    refine W.run TOK 54 hΓ 1000 ?_
    conv => whnf
    refine ⟨?_, ?_⟩
    repeat' first
      | assumption
      | exact Bool.noConfusion hb
      | exact absurd hb (by decide)
      | (exfalso; omega)
      | (exfalso; simp at hb; done)
      | (refine W.retA TOK rfl ?_; (conv => whnf); refine ⟨rfl, rfl, rfl, rfl, rfl, rfl, ?_, ?_, ?_⟩)
      | ((first | refine W.branch rfl (fun hb => ?_) (fun hb => ?_) | refine D.branch rfl (fun hb => ?_) (fun hb => ?_)) <;> ((try simp only [qhb, addI, reduceCtorEq, Int.reduceToNat] at hb); (try replace hb := of_decide_eq_true hb); (try replace hb := of_decide_eq_false hb)))
      | ((first | (refine D.callA (cb) rfl rfl rfl rfl hΓ rfl ?_; (conv => whnf); refine ⟨rfl, rfl, rfl, ?_, ?_, ?_, ?_⟩) | (refine W.callA (cb) rfl rfl rfl rfl hΓ rfl ?_; (conv => whnf); refine ⟨rfl, rfl, ?_, ?_, ?_, ?_⟩)); iterate 3 exact qSc15b1; (conv => whnf))
      | (refine W.go TOK 54 hΓ 1000 rfl ?_; (conv => whnf); refine ⟨?_, ?_⟩)
      | (refine D.go TOK 54 hΓ 1000 rfl ?_; (conv => whnf); refine ⟨?_, ?_⟩)
      | (refine W.drawn rfl rfl ?_; refine D.run TOK 54 hΓ 1000 ?_; (conv => whnf); refine ⟨?_, ?_⟩)
    all_goals (repeat' apply And.intro)
    all_goals try exact qcs0
  | true =>
    rw [show (jputS (baseR gen seq l.length)) = (bsP gen seq l 0, 0) by rw [bsP]; unfold jputS; rw [if_pos hb0, jput_eq hb0]] at cb
    obtain ⟨b1, b2, b3, b4⟩ := base_facts hb0
    have hbl := bsP_len gen seq l
    refine Does.intro (fn := Try.f19) Try.func19 rfl rfl fun Γ hΓ => ?_
    refine W.run TOK 54 hΓ 1000 ?_
    conv => whnf
    refine ⟨?_, ?_⟩
    repeat' first
      | assumption
      | exact Bool.noConfusion hb
      | exact absurd hb (by decide)
      | (exfalso; omega)
      | (exfalso; simp at hb; done)
      | ((first | refine W.branch rfl (fun hb => ?_) (fun hb => ?_) | refine D.branch rfl (fun hb => ?_) (fun hb => ?_)) <;> ((try simp only [qhb, addI, reduceCtorEq, Int.reduceToNat] at hb); (try replace hb := of_decide_eq_true hb); (try replace hb := of_decide_eq_false hb)))
      | ((first | (refine D.callA (cb) rfl rfl rfl rfl hΓ rfl ?_; (conv => whnf); refine ⟨rfl, rfl, rfl, ?_, ?_, ?_, ?_⟩) | (refine W.callA (cb) rfl rfl rfl rfl hΓ rfl ?_; (conv => whnf); refine ⟨rfl, rfl, ?_, ?_, ?_, ?_⟩)); iterate 3 exact qSc15b1; (conv => whnf))
      | (refine W.go TOK 54 hΓ 1000 rfl ?_; (conv => whnf); refine ⟨?_, ?_⟩)
      | (refine D.go TOK 54 hΓ 1000 rfl ?_; (conv => whnf); refine ⟨?_, ?_⟩)
      | (refine W.drawn rfl rfl ?_; refine D.run TOK 54 hΓ 1000 ?_; (conv => whnf); refine ⟨?_, ?_⟩)
    all_goals (repeat' apply And.intro)
    all_goals try exact qcs0
    refine W.loopA (Nat) (fun i => i ≤ l.length ∧ ∀ j, j < i → rightS (penR seq j (HP.at_ l j)) = true) (fun i => l.length - i) (fun i => [(7, .own 1 700 0 (bsP gen seq l i).length), (8, .int .i64 0), (9, .int .i64 (i : Nat))]) (fun i => [(700, some (.arr 1 (bsP gen seq l i).length (byteAt (bsP gen seq l i))))]) [12, 17, 18, 19, 20] (0) (⟨Nat.zero_le _, fun _ h => absurd h (Nat.not_lt_zero _)⟩) ?_
    (conv => whnf); refine ⟨?_, ?_⟩; focus ((conv => whnf); refine ⟨rfl, rfl, rfl, rfl, rfl, rfl, ?_, ?_⟩; iterate 2 exact qlf1)
    rintro i ⟨hi, hj⟩ ih
    have hli := hbl i
    by_cases hil : i < l.length
    rotate_left
    · have hie : i = l.length := by omega
      clear ih
      subst hie
      rw [bse_yes hb0 hj]
      repeat' first
        | assumption
        | exact Bool.noConfusion hb
        | exact absurd hb (by decide)
        | (exfalso; omega)
        | (exfalso; simp at hb; done)
        | (refine W.retA TOK rfl ?_; (conv => whnf); refine ⟨rfl, rfl, rfl, rfl, rfl, rfl, ?_, ?_, ?_⟩)
        | ((first | refine W.branch rfl (fun hb => ?_) (fun hb => ?_) | refine D.branch rfl (fun hb => ?_) (fun hb => ?_)) <;> ((try simp only [qhb, addI, reduceCtorEq, Int.reduceToNat] at hb); (try replace hb := of_decide_eq_true hb); (try replace hb := of_decide_eq_false hb)))
        | (refine W.go TOK 54 hΓ 1000 rfl ?_; (conv => whnf); refine ⟨?_, ?_⟩)
        | (refine D.go TOK 54 hΓ 1000 rfl ?_; (conv => whnf); refine ⟨?_, ?_⟩)
        | (refine W.drawn rfl rfl ?_; refine D.run TOK 54 hΓ 1000 ?_; (conv => whnf); refine ⟨?_, ?_⟩)
      all_goals (repeat' apply And.intro)
      all_goals try exact qcs0
    have w1 : IntKind.i64.wrap (seq + 1) = seq + 1 := wrap_i64_in (by omega) (by omega)
    have w2 : IntKind.i64.wrap (seq + 1 + (i : Int)) = seq + 1 + (i : Int) := wrap_i64_in (by omega) (by omega)
    have w3 : IntKind.i64.wrap (IntKind.i64.wrap (seq + 1) + (i : Int)) = seq + 1 + (i : Int) := by rw [w1, w2]
    obtain ⟨hu1, ht1⟩ := hu (HP.at_ l i) (by show l.getD i default ∈ l; rw [List.getD_eq_getElem?_getD, List.getElem?_eq_getElem hil]; exact List.getElem_mem hil)
    have cp := rjput_does (penR seq i (HP.at_ l i)) (pen_ok b1 (by omega) hu1 ht1)
    cases hr : rightS (penR seq i (HP.at_ l i)) with
    | false =>
      rw [bse_pen hil hr]
      rw [show jputS (penR seq i (HP.at_ l i)) = ([], 23) by unfold jputS; rw [hr]; rfl] at cp
      clear ih
      repeat' first
        | assumption
        | exact Bool.noConfusion hb
        | exact absurd hb (by decide)
        | (exfalso; omega)
        | (exfalso; simp at hb; done)
        | (refine W.retA TOK rfl ?_; (conv => whnf); refine ⟨rfl, rfl, rfl, rfl, rfl, rfl, ?_, ?_, ?_⟩)
        | ((first | refine W.branch rfl (fun hb => ?_) (fun hb => ?_) | refine D.branch rfl (fun hb => ?_) (fun hb => ?_)) <;> ((try simp only [qhb, addI, reduceCtorEq, Int.reduceToNat] at hb); (try replace hb := of_decide_eq_true hb); (try replace hb := of_decide_eq_false hb)))
        | ((first | (refine D.callA (cp) rfl rfl rfl rfl hΓ rfl ?_; (conv => whnf); refine ⟨rfl, rfl, rfl, ?_, ?_, ?_, ?_⟩) | (refine W.callA (cp) rfl rfl rfl rfl hΓ rfl ?_; (conv => whnf); refine ⟨rfl, rfl, ?_, ?_, ?_, ?_⟩)); iterate 3 exact qSc15b2; (conv => whnf))
        | (refine W.go TOK 54 hΓ 1000 rfl ?_; (conv => whnf); refine ⟨?_, ?_⟩)
        | (refine D.go TOK 54 hΓ 1000 rfl ?_; (conv => whnf); refine ⟨?_, ?_⟩)
        | (refine W.drawn rfl rfl ?_; refine D.run TOK 54 hΓ 1000 ?_; (conv => whnf); refine ⟨?_, ?_⟩)
      all_goals (repeat' apply And.intro)
      all_goals try first | exact qcl0 | exact w3 | exact qsm0 | (show ((bsP gen seq l i).length + 0) * 1 ≤ 17592186044416; omega)
    | true =>
      have ih2 := ih (i + 1) ⟨hil, pen_step hj hr⟩ (by omega)
      have hst : bsP gen seq l (i + 1) = bsP gen seq l i ++ (jputS (penR seq i (HP.at_ l i))).1 := rfl
      have h20 : (jputS (penR seq i (HP.at_ l i))).2 = 0 := by unfold jputS; rw [if_pos hr]; exact jput_zero hr
      have hq9 := jput_len (penR seq i (HP.at_ l i))
      clear ih
      generalize jputS (penR seq i (HP.at_ l i)) = p at cp hst h20 hq9
      obtain ⟨p, z⟩ := p
      simp only at cp hst h20 hq9
      subst h20
      have hl9 : (bsP gen seq l i).length + p.length = (bsP gen seq l (i + 1)).length := by rw [hst, List.length_append]
      have cc : ∀ q, ∀ j, j < q → (catF (bsP gen seq l i).length (byteAt (bsP gen seq l i)) (byteAt p) j).sim (byteAt (bsP gen seq l (i + 1)) j) := fun q => by rw [hst]; exact cat2B rfl
      clear hst
      generalize bsP gen seq l (i + 1) = y2 at *
      generalize bsP gen seq l i = y at *
      repeat' first
        | assumption
        | exact Bool.noConfusion hb
        | exact absurd hb (by decide)
        | (exfalso; omega)
        | (exfalso; simp at hb; done)
        | (refine W.toA (ih2) ?_; rotate_left 0; (conv => whnf); refine ⟨rfl, rfl, rfl, rfl, rfl, rfl, ?_, ?_⟩; iterate 2 exact qSc15b3)
        | ((first | refine W.branch rfl (fun hb => ?_) (fun hb => ?_) | refine D.branch rfl (fun hb => ?_) (fun hb => ?_)) <;> ((try simp only [qhb, addI, reduceCtorEq, Int.reduceToNat] at hb); (try replace hb := of_decide_eq_true hb); (try replace hb := of_decide_eq_false hb)))
        | ((first | (refine D.callA (cp) rfl rfl rfl rfl hΓ rfl ?_; (conv => whnf); refine ⟨rfl, rfl, rfl, ?_, ?_, ?_, ?_⟩) | (refine W.callA (cp) rfl rfl rfl rfl hΓ rfl ?_; (conv => whnf); refine ⟨rfl, rfl, ?_, ?_, ?_, ?_⟩)); iterate 3 exact qSc15b3; (conv => whnf))
        | (refine W.go TOK 54 hΓ 1000 rfl ?_; (conv => whnf); refine ⟨?_, ?_⟩)
        | (refine D.go TOK 54 hΓ 1000 rfl ?_; (conv => whnf); refine ⟨?_, ?_⟩)
        | (refine W.drawn rfl rfl ?_; refine D.run TOK 54 hΓ 1000 ?_; (conv => whnf); refine ⟨?_, ?_⟩)
      all_goals (repeat' apply And.intro)
      all_goals try first | exact qcl0 | exact hl9 | exact hl9.symm | exact Nat.le_of_eq hl9.symm | exact cc _ | exact w3 | exact qsm0 | (show (y.length + p.length) * 1 ≤ _; omega)

end Go.Proofs.Ytcolghonbncpnaa
