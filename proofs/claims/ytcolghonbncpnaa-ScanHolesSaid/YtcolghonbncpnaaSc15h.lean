/- Walk: a statement of layer 15. -/
import Derived.Test.YtcolghonbncpnaaSc15n2
import Derived.Test.YtcolghonbncpnaaPlC
import Derived.Test.YtcolghonbncpnaaVxI
set_option linter.unusedSimpArgs false
set_option linter.unusedVariables false
namespace Go.Proofs.Ytcolghonbncpnaa
open VX
set_option maxRecDepth 100000
set_option maxHeartbeats 4000000
theorem qSc15h1 {P : Prop} (h : P := by (focus ((repeat' apply And.intro) <;> first | exact qlf0 | exact penA_flat _ _ | exact recA_flat _ _ | exact ⟨rfl, rfl, rfl⟩ | exact ⟨rfl, rfl, rfl, rfl, ⟨rfl, rfl⟩⟩ | ((repeat' apply And.intro) <;> rfl)))) : P := h
theorem qSc15h2 {P : Prop} (h : P := by (focus ((repeat' apply And.intro) <;> first | exact qlf0 | exact hE | exact hE.symm))) : P := h
theorem qSc15h3 {P : Prop} (h : P := by (focus ((repeat' apply And.intro) <;> first | exact qlf0 | exact hdl | exact hdl.symm | (show 0 + _ ≤ _; omega) | (show (p : Int).toNat + _ ≤ _; omega) | (intro j hj; exact byte_drop _ j hj) | (show X.length - (p : Int).toNat = _; omega) | (show (p : Int).toNat + (X.length - (p : Int).toNat) ≤ _; omega) | exact penA_flat _ _ | exact recA_flat _ _ | exact ⟨rfl, rfl, rfl⟩ | exact ⟨rfl, rfl, rfl, rfl, ⟨rfl, rfl⟩⟩ | ((repeat' apply And.intro) <;> rfl)))) : P := h
theorem qSc15h4 {P : Prop} (h : P := by (focus ((repeat' apply And.intro) <;> first | exact qlf0 | (intro j _; rw [h0]; exact A.sim.refl _)))) : P := h
theorem qSc15h5 {P : Prop} (h : P := by (focus ((repeat' apply And.intro) <;> first | exact qlf0 | exact hset _ (Nat.le_refl _)))) : P := h
theorem qSc15h6 {P : Prop} (h : P := by (focus ((repeat' apply And.intro) <;> first | exact qlf0 | exact penA_flat _ _ | exact recA_flat _ _ | exact ⟨rfl, rfl, rfl⟩ | exact ⟨rfl, rfl, rfl, rfl, ⟨rfl, rfl⟩⟩ | ((repeat' apply And.intro) <;> rfl) | exact hHl | exact hHl.symm | exact htk | exact htk.symm | (show (j : Int).toNat = _; omega) | (show 0 + (j : Int).toNat ≤ _; omega) | (intro q hq; show (lsA recA R (0 + q)).sim _; rw [Nat.zero_add]; refine hR _ q hq ?_; have hj2 : q < (j : Int).toNat := hq; omega)))) : P := h
theorem qSc15h7 {P : Prop} (h : P := by first | exact qcl0 | exact hdl | exact hdl.symm | exact qsm0) : P := h
theorem qSc15h8 {P : Prop} (h : P := by
  refine Does.intro (fn := Try.f6) Try.func6 rfl rfl fun Γ hΓ => ?_
  refine W.run TOK 114 hΓ 1000 ?_
  conv => whnf
  refine ⟨?_, ?_⟩
  repeat' first
    | assumption
    | exact Bool.noConfusion hb
    | exact absurd hb (by decide)
    | (exfalso; omega)
    | (exfalso; simp at hb; done)
    | (refine W.retY TOK rfl rfl ⟨?_, ?_⟩)
    | ((first | refine W.branch rfl (fun hb => ?_) (fun hb => ?_) | refine D.branch rfl (fun hb => ?_) (fun hb => ?_)) <;> ((try simp only [qhb, addI, reduceCtorEq, Int.reduceToNat] at hb); (try replace hb := of_decide_eq_true hb); (try replace hb := of_decide_eq_false hb)))
    | ((first | (refine D.callA (ck) rfl rfl rfl rfl hΓ rfl ?_; (conv => whnf); refine ⟨rfl, rfl, rfl, ?_, ?_, ?_, ?_⟩) | (refine W.callA (ck) rfl rfl rfl rfl hΓ rfl ?_; (conv => whnf); refine ⟨rfl, rfl, ?_, ?_, ?_, ?_⟩)); iterate 3 exact qlf1; (conv => whnf))
    | (refine W.go TOK 114 hΓ 1000 rfl ?_; (conv => whnf); refine ⟨?_, ?_⟩)
    | (refine D.go TOK 114 hΓ 1000 rfl ?_; (conv => whnf); refine ⟨?_, ?_⟩)
    | (refine W.drawn rfl rfl ?_; refine D.run TOK 114 hΓ 1000 ?_; (conv => whnf); refine ⟨?_, ?_⟩)
  all_goals (repeat' apply And.intro)
  all_goals try exact qcs0) : P := h
def Th10 : Tab := { l := tabL, stop := [10] }
theorem Th10OK : TabOK Try.prog Th10.l := tabOK
def Th17 : Tab := { l := tabL, stop := [17] }
theorem Th17OK : TabOK Try.prog Th17.l := tabOK
theorem holes15_does (l more : List UInt8) (k : UInt8) : Does Try.prog 6 [bytesA l, bytesA more, VX.byte k] [] [] Yes := by
  have ck := known_does
  by_cases h8 : 8 < l.length
  · exact qSc15h8
  by_cases h8m : 8 < more.length
  · exact qSc15h8
  have hk8 := k.toNat_lt
  have wk : IntKind.i64.wrap (k.toNat : Int) = (k.toNat : Int) := wrap_i64_in (by omega) (by omega)
  have f1 := file_does 1 l more 0 (by decide) (by decide) (by omega) (by omega)
  have hXl := fileS_len 1 l more 0
  have hpos : 0 < (recsS (fileS 1 l more 0)).1.length := (new_ok (gen := 1) (seq := 0) (l := l) (by decide) (by decide) (by omega)).file_pos _
  generalize fileS 1 l more 0 = X at *
  have hT := recs_told X
  have hL := recs_le X
  have c1 := rec_does X (by omega)
  generalize recsS X = V at *
  obtain ⟨R, nn⟩ := V
  simp only at *
  obtain ⟨i, hi⟩ : ∃ i0 : Nat, (i0 : Int) = (k.toNat : Int) % (R.length : Int) := ⟨((k.toNat : Int) % (R.length : Int)).toNat, by have := Int.emod_nonneg (k.toNat : Int) (show (R.length : Int) ≠ 0 by omega); omega⟩
  have hj : (i : Int) < (R.length : Int) := by rw [hi]; exact Int.emod_lt_of_pos _ (by omega)
  have hE : IntKind.i64.wrap (k.toNat : Int) % (R.length : Int) = (i : Int) := by rw [wk, hi]
  have hiR : i < R.length := by omega
  refine Does.intro (fn := Try.f6) Try.func6 rfl rfl fun Γ hΓ => ?_
  refine W.run Th10OK 114 hΓ 1000 ?_
  conv => whnf
  refine ⟨?_, ?_⟩
  repeat' first
    | assumption
    | exact Bool.noConfusion hb
    | exact absurd hb (by decide)
    | (exfalso; omega)
    | (exfalso; simp at hb; done)
    | (refine W.retY Th10OK rfl rfl ⟨?_, ?_⟩)
    | ((first | refine W.branch rfl (fun hb => ?_) (fun hb => ?_) | refine D.branch rfl (fun hb => ?_) (fun hb => ?_)) <;> ((try simp only [qhb, addI, reduceCtorEq, Int.reduceToNat] at hb); (try replace hb := of_decide_eq_true hb); (try replace hb := of_decide_eq_false hb)))
    | ((first | (refine D.callA (ck) rfl rfl rfl rfl hΓ rfl ?_; (conv => whnf); refine ⟨rfl, rfl, rfl, ?_, ?_, ?_, ?_⟩) | (refine W.callA (ck) rfl rfl rfl rfl hΓ rfl ?_; (conv => whnf); refine ⟨rfl, rfl, ?_, ?_, ?_, ?_⟩)); iterate 3 exact qSc15h1; (conv => whnf))
    | ((first | (refine D.callA (f1) rfl rfl rfl rfl hΓ rfl ?_; (conv => whnf); refine ⟨rfl, rfl, rfl, ?_, ?_, ?_, ?_⟩) | (refine W.callA (f1) rfl rfl rfl rfl hΓ rfl ?_; (conv => whnf); refine ⟨rfl, rfl, ?_, ?_, ?_, ?_⟩)); iterate 3 exact qSc15h1; (conv => whnf))
    | ((first | (refine D.callA (c1) rfl rfl rfl rfl hΓ rfl ?_; (conv => whnf); refine ⟨rfl, rfl, rfl, ?_, ?_, ?_, ?_⟩) | (refine W.callA (c1) rfl rfl rfl rfl hΓ rfl ?_; (conv => whnf); refine ⟨rfl, rfl, ?_, ?_, ?_, ?_⟩)); iterate 3 exact qSc15h1; (conv => whnf))
    | (refine W.go Th10OK 114 hΓ 1000 rfl ?_; (conv => whnf); refine ⟨?_, ?_⟩)
    | (refine D.go Th10OK 114 hΓ 1000 rfl ?_; (conv => whnf); refine ⟨?_, ?_⟩)
    | (refine W.drawn rfl rfl ?_; refine D.run Th10OK 114 hΓ 1000 ?_; (conv => whnf); refine ⟨?_, ?_⟩)
  all_goals (repeat' apply And.intro)
  all_goals try exact qcs0
  refine W.seeA ([(7, .own 1 604 0 X.length), (8, .own 12 605 0 R.length), (9, .int .i64 (nn : Nat)), (11, .int .i64 (i : Nat)), (10, .int .i64 0)]) ([(604, some (.arr 1 X.length (byteAt X))), (605, some (.arr 12 R.length (lsA recA R)))]) [23, 24, 25, 26, 27, 28, 29, 30, 31, 32, 33, 34, 35, 36, 37, 38, 39, 40, 41, 42, 43, 44, 45, 46, 47, 48] ?_
  (conv => whnf); refine ⟨?_, ?_⟩; focus ((conv => whnf); refine ⟨rfl, rfl, rfl, rfl, rfl, rfl, ?_, ?_⟩; iterate 2 exact qSc15h2)
  clear hE f1 c1
  repeat' first
    | assumption
    | exact Bool.noConfusion hb
    | exact absurd hb (by decide)
    | (exfalso; omega)
    | ((first | refine W.branch rfl (fun hb => ?_) (fun hb => ?_) | refine D.branch rfl (fun hb => ?_) (fun hb => ?_)) <;> ((try simp only [qhb, addI, reduceCtorEq, Int.reduceToNat] at hb); (try replace hb := of_decide_eq_true hb); (try replace hb := of_decide_eq_false hb)))
    | (refine W.go TOK 114 hΓ 1000 rfl ?_; (conv => whnf); refine ⟨?_, ?_⟩)
    | (refine D.go TOK 114 hΓ 1000 rfl ?_; (conv => whnf); refine ⟨?_, ?_⟩)
    | (refine W.drawn rfl rfl ?_; refine D.run TOK 114 hΓ 1000 ?_; (conv => whnf); refine ⟨?_, ?_⟩)
  all_goals (repeat' apply And.intro)
  all_goals try exact qcs0
  refine W.loopA (Nat) (fun j => j ≤ i) (fun j => i - j) (fun j => [(10, .int .i64 ((flatJ (R.take j)).length : Nat)), (12, .int .i64 (j : Nat))]) (fun _ => []) [] (0) (Nat.zero_le _) ?_
  (conv => whnf); refine ⟨?_, ?_⟩; focus ((conv => whnf); refine ⟨rfl, rfl, rfl, rfl, rfl, rfl, ?_, ?_⟩; iterate 2 exact qlf1)
  rintro j hji ih
  obtain ⟨t1, t2⟩ := told_read hT (show j < R.length by omega)
  have t3 := told_le hT j
  have t4 := told_le hT (j + 1)
  have hdl : (X.drop (flatJ (R.take j)).length).length = X.length - (flatJ (R.take j)).length := List.length_drop
  by_cases hlt : j < i
  · have ih2 := ih (j + 1) hlt (by omega)
    clear ih
    rw [t2] at ih2 t4
    have cr := rjread_does (X.drop (flatJ (R.take j)).length) (by omega)
    rw [t1] at cr
    clear t1 t2
    generalize (flatJ (R.take j)).length = p at *
    generalize (jputS (HP.at_ R j)).1.length = m at *
    generalize HP.at_ R j = x at *
    repeat' first
      | assumption
      | exact Bool.noConfusion hb
      | exact absurd hb (by decide)
      | (exfalso; omega)
      | (exfalso; simp at hb; done)
      | (refine W.toA (ih2) ?_; rotate_left 0; (conv => whnf); refine ⟨rfl, rfl, rfl, rfl, rfl, rfl, ?_, ?_⟩; iterate 2 exact qSc15h3)
      | ((first | refine W.branch rfl (fun hb => ?_) (fun hb => ?_) | refine D.branch rfl (fun hb => ?_) (fun hb => ?_)) <;> ((try simp only [qhb, addI, reduceCtorEq, Int.reduceToNat] at hb); (try replace hb := of_decide_eq_true hb); (try replace hb := of_decide_eq_false hb)))
      | ((first | (refine D.callA (cr) rfl rfl rfl rfl hΓ rfl ?_; (conv => whnf); refine ⟨rfl, rfl, rfl, ?_, ?_, ?_, ?_⟩) | (refine W.callA (cr) rfl rfl rfl rfl hΓ rfl ?_; (conv => whnf); refine ⟨rfl, rfl, ?_, ?_, ?_, ?_⟩)); iterate 3 exact qSc15h3; (conv => whnf))
      | (refine W.go TOK 114 hΓ 1000 rfl ?_; (conv => whnf); refine ⟨?_, ?_⟩)
      | (refine D.go TOK 114 hΓ 1000 rfl ?_; (conv => whnf); refine ⟨?_, ?_⟩)
      | (refine W.drawn rfl rfl ?_; refine D.run TOK 114 hΓ 1000 ?_; (conv => whnf); refine ⟨?_, ?_⟩)
    all_goals (repeat' apply And.intro)
    all_goals try exact qSc15h7
  have hie : j = i := by omega
  clear ih
  subst hie
  have hh := hole_recs hT hiR
  have cr := rjread_does (X.drop (flatJ (R.take j)).length) (by omega)
  rw [t1] at cr
  rw [t2] at t4
  clear t1 t2
  have htk : (R.take j).length = j := by rw [List.length_take]; omega
  have hR : ∀ m, ∀ q, q < m → q < j → (lsA recA R q).sim (lsA recA (R.take j) q) := fun m q _ hq => A.sim.of (by
    unfold lsA
    rw [List.getD_eq_getElem?_getD, List.getD_eq_getElem?_getD, List.getElem?_take_of_lt hq])
  generalize (flatJ (R.take j)).length = p at *
  generalize (jputS (HP.at_ R j)).1.length = m at *
  generalize HP.at_ R j = x at *
  repeat' first
    | assumption
    | exact Bool.noConfusion hb
    | exact absurd hb (by decide)
    | (exfalso; omega)
    | (exfalso; simp at hb; done)
    | ((first | refine W.branch rfl (fun hb => ?_) (fun hb => ?_) | refine D.branch rfl (fun hb => ?_) (fun hb => ?_)) <;> ((try simp only [qhb, addI, reduceCtorEq, Int.reduceToNat] at hb); (try replace hb := of_decide_eq_true hb); (try replace hb := of_decide_eq_false hb)))
    | ((first | (refine D.callA (cr) rfl rfl rfl rfl hΓ rfl ?_; (conv => whnf); refine ⟨rfl, rfl, rfl, ?_, ?_, ?_, ?_⟩) | (refine W.callA (cr) rfl rfl rfl rfl hΓ rfl ?_; (conv => whnf); refine ⟨rfl, rfl, ?_, ?_, ?_, ?_⟩)); iterate 3 exact qSc15h3; (conv => whnf))
    | (refine W.go Th17OK 114 hΓ 1000 rfl ?_; (conv => whnf); refine ⟨?_, ?_⟩)
    | (refine D.go Th17OK 114 hΓ 1000 rfl ?_; (conv => whnf); refine ⟨?_, ?_⟩)
    | (refine W.drawn rfl rfl ?_; refine D.run Th17OK 114 hΓ 1000 ?_; (conv => whnf); refine ⟨?_, ?_⟩)
  all_goals (repeat' apply And.intro)
  all_goals try exact qSc15h7
  refine W.seeA ([(17, .int .i64 (m : Nat)), (19, .own 1 700 0 X.length)]) ([(700, some (.arr 1 X.length (byteAt X)))]) [12, 13, 14, 15, 16, 18, 49, 50, 51, 52, 53, 54, 55, 56, 57, 58, 59, 60, 61, 62, 63, 64, 65, 66, 67, 68, 69, 70, 71, 72, 73, 74, 75] ?_
  (conv => whnf); refine ⟨?_, ?_⟩; focus ((conv => whnf); refine ⟨rfl, rfl, rfl, rfl, rfl, rfl, ?_, ?_⟩; iterate 2 exact qlf1)
  have h0 : holeS X p 0 = X := holeS_zero X p
  have c2 := rec_does (holeS X p m) (by rw [holeS_len (by omega)]; omega)
  rw [hh] at c2
  clear hh
  have hHl : (holeS X p m).length = X.length := holeS_len (by omega)
  have c3 := hrec_does (R.take j) (by omega)
  generalize R.take j = T at *
  repeat' first
    | assumption
    | exact Bool.noConfusion hb
    | exact absurd hb (by decide)
    | (exfalso; omega)
    | ((first | refine W.branch rfl (fun hb => ?_) (fun hb => ?_) | refine D.branch rfl (fun hb => ?_) (fun hb => ?_)) <;> ((try simp only [qhb, addI, reduceCtorEq, Int.reduceToNat] at hb); (try replace hb := of_decide_eq_true hb); (try replace hb := of_decide_eq_false hb)))
    | (refine W.go TOK 114 hΓ 1000 rfl ?_; (conv => whnf); refine ⟨?_, ?_⟩)
    | (refine D.go TOK 114 hΓ 1000 rfl ?_; (conv => whnf); refine ⟨?_, ?_⟩)
    | (refine W.drawn rfl rfl ?_; refine D.run TOK 114 hΓ 1000 ?_; (conv => whnf); refine ⟨?_, ?_⟩)
  all_goals (repeat' apply And.intro)
  all_goals try exact qcs0
  refine W.loopA (Nat) (fun q => q ≤ m) (fun q => m - q) (fun q => [(20, .int .i64 ((p + q : Nat) : Int))]) (fun q => [(700, some (.arr 1 X.length (byteAt (holeS X p q))))]) [] (0) (Nat.zero_le _) ?_
  (conv => whnf); refine ⟨?_, ?_⟩; focus ((conv => whnf); refine ⟨rfl, rfl, rfl, rfl, rfl, rfl, ?_, ?_⟩; iterate 2 exact qSc15h4)
  rintro q hq ih
  by_cases hqm : q < m
  · have ih2 := ih (q + 1) hqm (by omega)
    clear ih
    have hst : (holeS X p q).set (p + q) 0 = holeS X p (q + 1) := holeS_set (by omega)
    have hHq : (holeS X p q).length = X.length := holeS_len (by omega)
    rw [← hst] at ih2
    clear hst
    generalize holeS X p q = H at *
    have hset : ∀ n, n ≤ X.length → ∀ j, j < n → (setF (byteAt H) (p + q) (A.int .u8 0) j).sim (byteAt (H.set (p + q) 0) j) := fun n hn => set_sim H (p + q) 0 (by omega)
    generalize H.set (p + q) 0 = H2 at *
    repeat' first
      | assumption
      | exact Bool.noConfusion hb
      | exact absurd hb (by decide)
      | (exfalso; omega)
      | (exfalso; simp at hb; done)
      | (refine W.toA (ih2) ?_; rotate_left 0; (conv => whnf); refine ⟨rfl, rfl, rfl, rfl, rfl, rfl, ?_, ?_⟩; iterate 2 exact qSc15h5)
      | ((first | refine W.branch rfl (fun hb => ?_) (fun hb => ?_) | refine D.branch rfl (fun hb => ?_) (fun hb => ?_)) <;> ((try simp only [qhb, addI, reduceCtorEq, Int.reduceToNat] at hb); (try replace hb := of_decide_eq_true hb); (try replace hb := of_decide_eq_false hb)))
      | (refine W.go TOK 114 hΓ 1000 rfl ?_; (conv => whnf); refine ⟨?_, ?_⟩)
      | (refine D.go TOK 114 hΓ 1000 rfl ?_; (conv => whnf); refine ⟨?_, ?_⟩)
      | (refine W.drawn rfl rfl ?_; refine D.run TOK 114 hΓ 1000 ?_; (conv => whnf); refine ⟨?_, ?_⟩)
    all_goals (repeat' apply And.intro)
    all_goals try exact qcs0
  have hqe : q = m := by omega
  clear ih h0
  subst hqe
  generalize holeS X p q = H at *
  repeat' first
    | assumption
    | exact Bool.noConfusion hb
    | exact absurd hb (by decide)
    | (exfalso; omega)
    | (exfalso; simp at hb; done)
    | (refine W.retY TOK rfl rfl ⟨?_, ?_⟩)
    | ((first | refine W.branch rfl (fun hb => ?_) (fun hb => ?_) | refine D.branch rfl (fun hb => ?_) (fun hb => ?_)) <;> ((try simp only [qhb, addI, reduceCtorEq, Int.reduceToNat] at hb); (try replace hb := of_decide_eq_true hb); (try replace hb := of_decide_eq_false hb)))
    | ((first | (refine D.callA (c2) rfl rfl rfl rfl hΓ rfl ?_; (conv => whnf); refine ⟨rfl, rfl, rfl, ?_, ?_, ?_, ?_⟩) | (refine W.callA (c2) rfl rfl rfl rfl hΓ rfl ?_; (conv => whnf); refine ⟨rfl, rfl, ?_, ?_, ?_, ?_⟩)); iterate 3 exact qSc15h6; (conv => whnf))
    | ((first | (refine D.callA (c3) rfl rfl rfl rfl hΓ rfl ?_; (conv => whnf); refine ⟨rfl, rfl, rfl, ?_, ?_, ?_, ?_⟩) | (refine W.callA (c3) rfl rfl rfl rfl hΓ rfl ?_; (conv => whnf); refine ⟨rfl, rfl, ?_, ?_, ?_, ?_⟩)); iterate 3 exact qSc15h6; (conv => whnf))
    | (refine W.go TOK 114 hΓ 1000 rfl ?_; (conv => whnf); refine ⟨?_, ?_⟩)
    | (refine D.go TOK 114 hΓ 1000 rfl ?_; (conv => whnf); refine ⟨?_, ?_⟩)
    | (refine W.drawn rfl rfl ?_; refine D.run TOK 114 hΓ 1000 ?_; (conv => whnf); refine ⟨?_, ?_⟩)
  all_goals (repeat' apply And.intro)
  all_goals try first | exact qcl0 | exact qsm0 | (show decide _ = true; refine decide_eq_true ?_; omega)
theorem scanHoles_law (x0 x1 x2 : A) (s0 : Shaped (.slice (.int .u8)) x0) (s1 : Shaped (.slice (.int .u8)) x1) (s2 : Shaped (.int .u8) x2) : Does Try.prog 6 [x0, x1, x2] [] [] Yes := by
  obtain ⟨a0, e0, h0⟩ := Rep.bytes x0 s0
  obtain ⟨a1, e1, h1⟩ := Rep.bytes x1 s1
  obtain ⟨a2, e2, h2⟩ := Rep.byte x2 s2
  exact Does.args (ys := [bytesA a0, bytesA a1, VX.byte a2]) ⟨e0, e1, e2, trivial⟩ ⟨s0.pure, s1.pure, s2.pure, trivial⟩ (holes15_does a0 a1 a2)

end Go.Proofs.Ytcolghonbncpnaa
