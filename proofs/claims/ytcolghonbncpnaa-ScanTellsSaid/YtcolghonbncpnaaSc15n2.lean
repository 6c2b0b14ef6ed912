/- Walk: a statement of layer 15. -/
import Derived.Test.YtcolghonbncpnaaSc15f
import Derived.Test.YtcolghonbncpnaaPlC
import Derived.Test.YtcolghonbncpnaaVxI
set_option linter.unusedSimpArgs false
set_option linter.unusedVariables false
namespace Go.Proofs.Ytcolghonbncpnaa
open VX
set_option maxRecDepth 100000
set_option maxHeartbeats 4000000
theorem qSc15n21 {P : Prop} (h : P := by (focus ((repeat' apply And.intro) <;> first | exact qlf0 | exact penA_flat _ _ | exact recA_flat _ _ | exact ⟨rfl, rfl, rfl⟩ | exact ⟨rfl, rfl, rfl, rfl, ⟨rfl, rfl⟩⟩ | ((repeat' apply And.intro) <;> rfl) | exact A.sim.nil0 | exact wa | exact wb))) : P := h
theorem qSc15n22 {P : Prop} (h : P := by (focus ((repeat' apply And.intro) <;> first | exact qlf0 | exact ht.symm | exact ht | (show (IntKind.i64.wrap cut % (X.length : Int)).toNat = _; rw [hE2]; exact ht.symm) | (show (IntKind.i64.wrap cut % (X.length : Int)).toNat ≤ _; rw [hE2]; omega) | (rw [hE2, ht]; exact Nat.le_of_lt (by omega)) | (intro j hj; exact hts _ j hj (by omega)) | (intro j hj; exact hts _ j hj (by rw [← ht]; exact hj))))) : P := h
theorem qSc15n23 {P : Prop} (h : P := by (focus ((repeat' apply And.intro) <;> first | exact qlf0 | exact penA_flat _ _ | exact recA_flat _ _ | exact ⟨rfl, rfl, rfl⟩ | exact ⟨rfl, rfl, rfl, rfl, ⟨rfl, rfl⟩⟩ | ((repeat' apply And.intro) <;> rfl)))) : P := h
theorem qSc15n24 {P : Prop} (h : P := by
  refine Does.intro (fn := Try.f7) Try.func7 rfl rfl fun Γ hΓ => ?_
  refine W.run Tn13OK 86 hΓ 1000 ?_
  conv => whnf
  refine ⟨?_, ?_⟩
  repeat' first
    | assumption
    | exact Bool.noConfusion hb
    | exact absurd hb (by decide)
    | (exfalso; omega)
    | (exfalso; simp at hb; done)
    | (refine W.retY Tn13OK rfl rfl ⟨?_, ?_⟩)
    | (refine W.branch rfl (fun hb => ?_) (fun hb => ?_) <;> ((try simp only [qhb, addI, reduceCtorEq, Int.reduceToNat] at hb); (try replace hb := of_decide_eq_true hb); (try replace hb := of_decide_eq_false hb)))
    | (refine W.callA (ck) rfl rfl rfl rfl hΓ rfl ?_; (conv => whnf); refine ⟨rfl, rfl, ?_, ?_, ?_, ?_⟩; iterate 3 exact qSc15n21; (conv => whnf))
    | (refine W.callA (f1) rfl rfl rfl rfl hΓ rfl ?_; (conv => whnf); refine ⟨rfl, rfl, ?_, ?_, ?_, ?_⟩; iterate 3 exact qSc15n21; (conv => whnf))
    | (refine W.callA (f2) rfl rfl rfl rfl hΓ rfl ?_; (conv => whnf); refine ⟨rfl, rfl, ?_, ?_, ?_, ?_⟩; iterate 3 exact qSc15n21; (conv => whnf))
    | (refine W.callA (c1) rfl rfl rfl rfl hΓ rfl ?_; (conv => whnf); refine ⟨rfl, rfl, ?_, ?_, ?_, ?_⟩; iterate 3 exact qSc15n21; (conv => whnf))
    | (refine W.go Tn13OK 86 hΓ 1000 rfl ?_; (conv => whnf); refine ⟨?_, ?_⟩)
  all_goals (repeat' apply And.intro)
  all_goals try exact qcs0
  refine W.seeA ([(13, .own 1 604 0 Z.length), (14, .own 1 605 0 Y.length)]) ([(604, some (.arr 1 Z.length (byteAt Z))), (605, some (.arr 1 Y.length (byteAt Y)))]) [20, 21, 22, 23, 24, 25, 26, 27, 28, 29, 30, 31, 32, 33, 34, 35, 36, 37, 38, 39, 40, 41, 42, 43, 44, 45, 46, 47, 48, 49, 50, 51, 52, 53, 54, 55, 56, 57, 58, 59, 60] ?_
  (conv => whnf); refine ⟨?_, ?_⟩; focus ((conv => whnf); refine ⟨rfl, rfl, rfl, rfl, rfl, rfl, ?_, ?_⟩; iterate 2 exact qSc15n22)
  repeat' first
    | assumption
    | exact Bool.noConfusion hb
    | exact absurd hb (by decide)
    | (exfalso; omega)
    | (exfalso; simp at hb; done)
    | (refine W.retY TOK rfl rfl ⟨?_, ?_⟩)
    | (refine W.branch rfl (fun hb => ?_) (fun hb => ?_) <;> ((try simp only [qhb, addI, reduceCtorEq, Int.reduceToNat] at hb); (try replace hb := of_decide_eq_true hb); (try replace hb := of_decide_eq_false hb)))
    | (refine W.callA (c2) rfl rfl rfl rfl hΓ rfl ?_; (conv => whnf); refine ⟨rfl, rfl, ?_, ?_, ?_, ?_⟩; iterate 3 exact qSc15n23; (conv => whnf))
    | (refine W.callA (c3) rfl rfl rfl rfl hΓ rfl ?_; (conv => whnf); refine ⟨rfl, rfl, ?_, ?_, ?_, ?_⟩; iterate 3 exact qSc15n23; (conv => whnf))
    | (refine W.go TOK 86 hΓ 1000 rfl ?_; (conv => whnf); refine ⟨?_, ?_⟩)
  all_goals (repeat' apply And.intro)
  all_goals try exact qcs0) : P := h
theorem qSc15n25 {P : Prop} (h : P := by
  refine Does.intro (fn := Try.f7) Try.func7 rfl rfl fun Γ hΓ => ?_
  refine W.run TOK 86 hΓ 1000 ?_
  conv => whnf
  refine ⟨?_, ?_⟩
  repeat' first
    | assumption
    | exact Bool.noConfusion hb
    | exact absurd hb (by decide)
    | (exfalso; omega)
    | (exfalso; simp at hb; done)
    | (refine W.retY TOK rfl rfl ⟨?_, ?_⟩)
    | (refine W.branch rfl (fun hb => ?_) (fun hb => ?_) <;> ((try simp only [qhb, addI, reduceCtorEq, Int.reduceToNat] at hb); (try replace hb := of_decide_eq_true hb); (try replace hb := of_decide_eq_false hb)))
    | (refine W.callA (ck) rfl rfl rfl rfl hΓ rfl ?_; (conv => whnf); refine ⟨rfl, rfl, ?_, ?_, ?_, ?_⟩; iterate 3 exact qlf1; (conv => whnf))
    | (refine W.go TOK 86 hΓ 1000 rfl ?_; (conv => whnf); refine ⟨?_, ?_⟩)
  all_goals (repeat' apply And.intro)
  all_goals try exact qcs0) : P := h
def Tn13 : Tab := { l := tabL, stop := [13] }
theorem Tn13OK : TabOK Try.prog Tn13.l := tabOK
theorem fileS_nil (gen : Int) (l : List UInt8) (seq : Int) : fileS gen l [] seq = bseS gen seq (seatL l l.length) := by
  unfold fileS
  show _ ++ [] = _
  rw [List.append_nil]
theorem new_ok {gen seq : Int} {l : List UInt8} (hg : 0 ≤ gen ∧ gen ≤ 255) (hs : 0 ≤ seq ∧ seq ≤ 4095) (hl : l.length ≤ 32) : NewOK gen seq (seatL l l.length) := by
  have hln := seatL_len l l.length
  have hok := seatL_ok l l.length (by omega)
  generalize seatL l l.length = P at *
  refine ⟨base_right (by omega) (by omega) (by omega), base_ok (i64_c (by omega)) (i64_c (by omega)) (by omega), fun j hj => ?_⟩
  have h := hok _ (HP.at_mem hj)
  have ht := h.t
  exact ⟨pen_right (by omega) (by omega) h.r (by omega), pen_ok (by omega) (by omega) h.o (inr_i64.2 (by omega))⟩
theorem newest15_does (l m : List UInt8) (a b : UInt8) (cut : Int) (which : UInt8) (hcut : inr .u16 cut) : Does Try.prog 7 [bytesA l, bytesA m, VX.byte a, VX.byte b, .int .u16 cut, VX.byte which] [] [] Yes := by
  have ck := known_does
  have hc16 : 0 ≤ cut ∧ cut ≤ 65535 := hcut
  by_cases h8 : 8 < l.length
  · exact qSc15n25
  by_cases h8m : 8 < m.length
  · exact qSc15n25
  have ha8 := a.toNat_lt
  have hb8 := b.toNat_lt
  have wa : IntKind.i64.wrap (a.toNat : Int) = (a.toNat : Int) := wrap_i64_in (by omega) (by omega)
  have wb : IntKind.i64.wrap (b.toNat : Int) = (b.toNat : Int) := wrap_i64_in (by omega) (by omega)
  have wc : IntKind.i64.wrap cut = cut := wrap_i64_in (by omega) (by omega)
  have f1 := file_does (a.toNat : Int) l [] 0 (by omega) (by decide) (by omega) (Nat.zero_le _)
  have f2 := file_does (b.toNat : Int) m [] 7 (by omega) (by decide) (by omega) (Nat.zero_le _)
  have n1 := new_ok (gen := (a.toNat : Int)) (seq := 0) (l := l) (by omega) (by decide) (by omega)
  have n2 := new_ok (gen := (b.toNat : Int)) (seq := 7) (l := m) (by omega) (by decide) (by omega)
  have l1 := bse_len (a.toNat : Int) 0 (seatL l l.length)
  have l2 := bse_len (b.toNat : Int) 7 (seatL m m.length)
  rw [seatL_len] at l1 l2
  rw [fileS_nil] at f1 f2
  have hx0 := n1.pos
  have x1 := n1.recs
  have x2 := n1.whole
  have y1 := n2.recs
  have y2 := n2.whole
  have x3 := fun k => n1.cut (k := k)
  clear n1 n2
  generalize seatL l l.length = P at *
  generalize seatL m m.length = P2 at *
  generalize rwS (a.toNat : Int) 0 P P.length = R1 at *
  generalize rwS (b.toNat : Int) 7 P2 P2.length = R2 at *
  generalize bseS (a.toNat : Int) 0 P = X at *
  generalize bseS (b.toNat : Int) 7 P2 = Y at *
  obtain ⟨i, hi⟩ : ∃ i0 : Nat, (i0 : Int) = cut % (X.length : Int) := ⟨(cut % (X.length : Int)).toNat, by have := Int.emod_nonneg cut (show (X.length : Int) ≠ 0 by omega); omega⟩
  have hj : (i : Int) < (X.length : Int) := by rw [hi]; exact Int.emod_lt_of_pos _ (by omega)
  have hE : IntKind.i64.wrap cut % (X.length : Int) = (i : Int) := by rw [wc, hi]
  have hE2 : (IntKind.i64.wrap cut % (X.length : Int)).toNat = i := by rw [hE]; rfl
  have e0 := x3 i (by omega)
  have e1 : chooseS X Y = if (a.toNat : Int) < (b.toNat : Int) then (1, true) else (0, true) := by
    unfold chooseS
    rw [x1, y1, x2.1, x2.2, y2.1, y2.2]
    simp
  have e2 : chooseS (X.take i) Y = (1, true) := by
    unfold chooseS
    rw [e0, y1, y2.2]
    simp
  have e3 : chooseS (X.take i) (X.take i) = (0, false) := by
    unfold chooseS
    rw [e0]
    simp
  have ht : (X.take i).length = i := by rw [List.length_take]; omega
  have c1 := choose_does X Y (by omega) (by omega)
  have c2 := choose_does (X.take i) Y (by omega) (by omega)
  have c3 := choose_does (X.take i) (X.take i) (by omega) (by omega)
  rw [e1] at c1
  rw [e2] at c2
  rw [e3] at c3
  clear e0 e1 e2 e3 x1 x2 x3 y1 y2
  have hts : ∀ n, ∀ j, j < n → j < i → (byteAt X j).sim (byteAt (X.take i) j) := fun n j _ hji => by
    refine A.sim.of ?_
    unfold byteAt
    rw [List.getD_eq_getElem?_getD, List.getD_eq_getElem?_getD, List.getElem?_take_of_lt hji]
  obtain ⟨Z, hZ⟩ : ∃ Z, Z = X.take i := ⟨_, rfl⟩
  rw [← hZ] at c2 c3 ht hts
  clear hZ
  by_cases hab : (a.toNat : Int) < (b.toNat : Int)
  · rw [if_pos hab] at c1
    exact qSc15n24
  · rw [if_neg hab] at c1
    exact qSc15n24
theorem scanNewest_law (x0 x1 x2 x3 x4 x5 : A) (s0 : Shaped (.slice (.int .u8)) x0) (s1 : Shaped (.slice (.int .u8)) x1) (s2 : Shaped (.int .u8) x2) (s3 : Shaped (.int .u8) x3) (s4 : Shaped (.int .u16) x4) (s5 : Shaped (.int .u8) x5) : Does Try.prog 7 [x0, x1, x2, x3, x4, x5] [] [] Yes := by
  obtain ⟨a0, e0, h0⟩ := Rep.bytes x0 s0
  obtain ⟨a1, e1, h1⟩ := Rep.bytes x1 s1
  obtain ⟨a2, e2, h2⟩ := Rep.byte x2 s2
  obtain ⟨a3, e3, h3⟩ := Rep.byte x3 s3
  obtain ⟨a4, e4, h4⟩ := (Rep.int .u16) x4 s4
  obtain ⟨a5, e5, h5⟩ := Rep.byte x5 s5
  exact Does.args (ys := [bytesA a0, bytesA a1, VX.byte a2, VX.byte a3, (A.int .u16) a4, VX.byte a5]) ⟨e0, e1, e2, e3, e4, e5, trivial⟩ ⟨s0.pure, s1.pure, s2.pure, s3.pure, s4.pure, s5.pure, trivial⟩ (newest15_does a0 a1 a2 a3 a4 a5 h4)

end Go.Proofs.Ytcolghonbncpnaa
