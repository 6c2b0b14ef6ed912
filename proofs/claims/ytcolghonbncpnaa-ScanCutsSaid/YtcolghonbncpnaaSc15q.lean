/- Walk: a statement of layer 15. -/
import Derived.Test.YtcolghonbncpnaaSc15f
import Derived.Test.YtcolghonbncpnaaPlC
import Derived.Test.YtcolghonbncpnaaVxI
set_option linter.unusedSimpArgs false
set_option linter.unusedVariables false
namespace Go.Proofs.Ytcolghonbncpnaa
open VX
set_option maxRecDepth 100000
set_option maxHeartbeats 4000000
theorem qSc15q1 {P : Prop} (h : P := by (focus ((repeat' apply And.intro) <;> first | exact qlf0 | exact penA_flat _ _ | exact recA_flat _ _ | exact ⟨rfl, rfl, rfl⟩ | exact ⟨rfl, rfl, rfl, rfl, ⟨rfl, rfl⟩⟩ | ((repeat' apply And.intro) <;> rfl)))) : P := h
theorem qSc15q2 {P : Prop} (h : P := by (focus ((repeat' apply And.intro) <;> first | exact qlf0 | exact hE | exact hE.symm))) : P := h
theorem qSc15q3 {P : Prop} (h : P := by (focus ((repeat' apply And.intro) <;> first | exact qlf0 | exact penA_flat _ _ | exact recA_flat _ _ | exact ⟨rfl, rfl, rfl⟩ | exact ⟨rfl, rfl, rfl, rfl, ⟨rfl, rfl⟩⟩ | ((repeat' apply And.intro) <;> rfl) | (show (i : Int).toNat = _; omega) | (show 0 + (i : Int).toNat ≤ _; omega) | (intro j hj; show (byteAt X (0 + j)).sim _; rw [Nat.zero_add]; refine b1 _ j hj ?_; have hj2 : j < (i : Int).toNat := hj; omega) | (show (n1 : Int).toNat = _; omega) | (show 0 + (n1 : Int).toNat ≤ _; omega) | (intro j hj; show (byteAt X (0 + j)).sim _; rw [Nat.zero_add]; refine b2 _ j hj ?_; have hj2 : j < (n1 : Int).toNat := hj; omega) | (show (R2.length : Int).toNat = _; omega) | (show 0 + (R2.length : Int).toNat ≤ _; omega) | (intro j hj; show (lsA recA R (0 + j)).sim _; rw [Nat.zero_add]; refine hR _ j hj ?_; have hj2 : j < (R2.length : Int).toNat := hj; omega)))) : P := h
theorem qSc15q4 {P : Prop} (h : P := by first | exact qcl0 | exact qsm0 | (show decide (((R2.length : Nat) : Int) = (R.length : Int)) = true; refine decide_eq_true ?_; omega)) : P := h
theorem qSc15q5 {P : Prop} (h : P := by
  skip
  repeat' first
    | assumption
    | exact Bool.noConfusion hb
    | exact absurd hb (by decide)
    | (exfalso; omega)
    | (exfalso; simp at hb; done)
    | (refine W.retY TOK rfl rfl ⟨?_, ?_⟩)
    | (refine W.branch rfl (fun hb => ?_) (fun hb => ?_) <;> ((try simp only [qhb, addI, reduceCtorEq, Int.reduceToNat] at hb); (try replace hb := of_decide_eq_true hb); (try replace hb := of_decide_eq_false hb)))
    | (refine W.callA (c2) rfl rfl rfl rfl hΓ rfl ?_; (conv => whnf); refine ⟨rfl, rfl, ?_, ?_, ?_, ?_⟩; iterate 3 exact qSc15q3; (conv => whnf))
    | (refine W.callA (c3) rfl rfl rfl rfl hΓ rfl ?_; (conv => whnf); refine ⟨rfl, rfl, ?_, ?_, ?_, ?_⟩; iterate 3 exact qSc15q3; (conv => whnf))
    | (refine W.callA (c4) rfl rfl rfl rfl hΓ rfl ?_; (conv => whnf); refine ⟨rfl, rfl, ?_, ?_, ?_, ?_⟩; iterate 3 exact qSc15q3; (conv => whnf))
    | (refine W.go TOK 98 hΓ 1000 rfl ?_; (conv => whnf); refine ⟨?_, ?_⟩)
  all_goals (repeat' apply And.intro)
  all_goals try exact qSc15q4) : P := h
theorem qSc15q6 {P : Prop} (h : P := by
  refine Does.intro (fn := Try.f4) Try.func4 rfl rfl fun Γ hΓ => ?_
  refine W.run TOK 98 hΓ 1000 ?_
  conv => whnf
  refine ⟨?_, ?_⟩
  repeat' first
    | assumption
    | exact Bool.noConfusion hb
    | exact absurd hb (by decide)
    | (exfalso; omega)
    | (exfalso; simp at hb; done)
    | (refine W.retY TOK rfl rfl ⟨?_, ?_⟩)
    | (refine W.branch rfl (fun hb => ?_) (fun hb => ?_) <;> ((try simp only [qhb, addI, reduceCtorEq, Int.reduceToNat] at hb); (try replace hb := of_decide_eq_true hb); (try replace hb := of_decide_eq_false hb)))
    | (refine W.callA (ck) rfl rfl rfl rfl hΓ rfl ?_; (conv => whnf); refine ⟨rfl, rfl, ?_, ?_, ?_, ?_⟩; iterate 3 exact qlf1; (conv => whnf))
    | (refine W.go TOK 98 hΓ 1000 rfl ?_; (conv => whnf); refine ⟨?_, ?_⟩)
  all_goals (repeat' apply And.intro)
  all_goals try exact qcs0) : P := h
def Tq8 : Tab := { l := tabL, stop := [8] }
theorem Tq8OK : TabOK Try.prog Tq8.l := tabOK
theorem byte_take {X : List UInt8} {i : Nat} : ∀ n, ∀ j, j < n → j < i → (byteAt X j).sim (byteAt (X.take i) j) := fun n j _ hji => by
  refine A.sim.of ?_
  unfold byteAt
  rw [List.getD_eq_getElem?_getD, List.getD_eq_getElem?_getD, List.getElem?_take_of_lt hji]
theorem cuts15_does (gen : Int) (l more : List UInt8) (at_ : Int) (hg9 : inr .i64 gen) (hat : inr .u16 at_) : Does Try.prog 4 [.int .i64 gen, bytesA l, bytesA more, .int .u16 at_] [] [] Yes := by
  have ck := known_does
  have ha16 : 0 ≤ at_ ∧ at_ ≤ 65535 := hat
  by_cases h8 : 8 < l.length
  · exact qSc15q6
  by_cases h8m : 8 < more.length
  · exact qSc15q6
  have hg7 : 0 ≤ bitsI .and .i64 gen 255 ∧ bitsI .and .i64 gen 255 ≤ 255 := and_small gen 255 (by decide)
  have wc : IntKind.i64.wrap at_ = at_ := wrap_i64_in (by omega) (by omega)
  have f1 := file_does (bitsI .and .i64 gen 255) l more 0 (by omega) (by decide) (by omega) (by omega)
  have hXl := fileS_len (bitsI .and .i64 gen 255) l more 0
  generalize fileS (bitsI .and .i64 gen 255) l more 0 = X at *
  have c1 := rec_does X (by omega)
  obtain ⟨i, hi⟩ : ∃ i0 : Nat, (i0 : Int) = at_ % ((X.length : Int) + 1) := ⟨(at_ % ((X.length : Int) + 1)).toNat, by have := Int.emod_nonneg at_ (show ((X.length : Int) + 1) ≠ 0 by omega); omega⟩
  have hj : (i : Int) < (X.length : Int) + 1 := by rw [hi]; exact Int.emod_lt_of_pos _ (by omega)
  have hE : IntKind.i64.wrap at_ % ((X.length : Int) + 1) = (i : Int) := by rw [wc, hi]
  have hi9 : i ≤ X.length := by omega
  have ht : (X.take i).length = i := by rw [List.length_take]; omega
  have c2 := rec_does (X.take i) (by omega)
  obtain ⟨⟨mo, g1⟩, g2, g3⟩ := recs_cut X i
  have g4 := recs_cut_len X i
  have g5 := recs_again X i
  have g6 : i < (recsS X).2 ∨ (recsS (X.take i)).1.length = (recsS X).1.length := by
    rcases Nat.lt_or_ge i (recsS X).2 with h | h
    · exact .inl h
    · exact .inr (recs_cut_all h)
  have c3 := rec_does (X.take (recsS (X.take i)).2) (by rw [List.length_take]; omega)
  have g7 := recs_le X
  have htm : (X.take (recsS (X.take i)).2).length = (recsS (X.take i)).2 := by rw [List.length_take]; omega
  have b1 := byte_take (X := X) (i := i)
  have b2 := byte_take (X := X) (i := (recsS (X.take i)).2)
  generalize X.take (recsS (X.take i)).2 = Z2 at *
  generalize X.take i = Z1 at *
  generalize recsS X = V at *
  generalize recsS Z1 = V1 at *
  generalize recsS Z2 = V2 at *
  obtain ⟨R, nn⟩ := V
  obtain ⟨R1, n1⟩ := V1
  obtain ⟨R2, n2⟩ := V2
  simp only at *
  subst g5
  have hR : ∀ m, ∀ j, j < m → j < R2.length → (lsA recA R j).sim (lsA recA R2 j) := fun m j _ hj2 => A.sim.of (by
    unfold lsA
    rw [g1]
    exact congrArg recA (HP.at_append_left hj2))
  clear g1
  have c4 := hrec_does R2 (by omega)
  refine Does.intro (fn := Try.f4) Try.func4 rfl rfl fun Γ hΓ => ?_
  refine W.run Tq8OK 98 hΓ 1000 ?_
  conv => whnf
  refine ⟨?_, ?_⟩
  repeat' first
    | assumption
    | exact Bool.noConfusion hb
    | exact absurd hb (by decide)
    | (exfalso; omega)
    | (exfalso; simp at hb; done)
    | (refine W.retY Tq8OK rfl rfl ⟨?_, ?_⟩)
    | (refine W.branch rfl (fun hb => ?_) (fun hb => ?_) <;> ((try simp only [qhb, addI, reduceCtorEq, Int.reduceToNat] at hb); (try replace hb := of_decide_eq_true hb); (try replace hb := of_decide_eq_false hb)))
    | (refine W.callA (ck) rfl rfl rfl rfl hΓ rfl ?_; (conv => whnf); refine ⟨rfl, rfl, ?_, ?_, ?_, ?_⟩; iterate 3 exact qSc15q1; (conv => whnf))
    | (refine W.callA (f1) rfl rfl rfl rfl hΓ rfl ?_; (conv => whnf); refine ⟨rfl, rfl, ?_, ?_, ?_, ?_⟩; iterate 3 exact qSc15q1; (conv => whnf))
    | (refine W.callA (c1) rfl rfl rfl rfl hΓ rfl ?_; (conv => whnf); refine ⟨rfl, rfl, ?_, ?_, ?_, ?_⟩; iterate 3 exact qSc15q1; (conv => whnf))
    | (refine W.go Tq8OK 98 hΓ 1000 rfl ?_; (conv => whnf); refine ⟨?_, ?_⟩)
  all_goals (repeat' apply And.intro)
  all_goals try exact qcs0
  refine W.seeA ([(9, .own 1 604 0 X.length), (10, .own 12 605 0 R.length), (12, .int .i64 (i : Nat))]) ([(604, some (.arr 1 X.length (byteAt X))), (605, some (.arr 12 R.length (lsA recA R)))]) [17, 18, 19, 20, 21, 22, 23, 24, 25, 26, 27, 28, 29, 30, 31, 32, 33, 34, 35, 36, 37, 38, 39, 40, 41, 42] ?_
  (conv => whnf); refine ⟨?_, ?_⟩; focus ((conv => whnf); refine ⟨rfl, rfl, rfl, rfl, rfl, rfl, ?_, ?_⟩; iterate 2 exact qSc15q2)
  clear hE f1 c1
  rcases g6 with g6 | g6
  · exact qSc15q5
  · exact qSc15q5
theorem scanCuts_law (x0 x1 x2 x3 : A) (s0 : Shaped (.int .i64) x0) (s1 : Shaped (.slice (.int .u8)) x1) (s2 : Shaped (.slice (.int .u8)) x2) (s3 : Shaped (.int .u16) x3) : Does Try.prog 4 [x0, x1, x2, x3] [] [] Yes := by
  obtain ⟨a0, e0, h0⟩ := (Rep.int .i64) x0 s0
  obtain ⟨a1, e1, h1⟩ := Rep.bytes x1 s1
  obtain ⟨a2, e2, h2⟩ := Rep.bytes x2 s2
  obtain ⟨a3, e3, h3⟩ := (Rep.int .u16) x3 s3
  exact Does.args (ys := [(A.int .i64) a0, bytesA a1, bytesA a2, (A.int .u16) a3]) ⟨e0, e1, e2, e3, trivial⟩ ⟨s0.pure, s1.pure, s2.pure, s3.pure, trivial⟩ (cuts15_does a0 a1 a2 a3 h0 h3)

end Go.Proofs.Ytcolghonbncpnaa
