/- Walk: a statement of layer 15. -/
import Derived.Test.YtcolghonbncpnaaSc15n2
import Derived.Test.YtcolghonbncpnaaPlC
import Derived.Test.YtcolghonbncpnaaVxI
set_option linter.unusedSimpArgs false
set_option linter.unusedVariables false
namespace Go.Proofs.Ytcolghonbncpnaa
open VX
set_option maxRecDepth 100000
set_option maxHeartbeats 4000000
theorem qSc15t1 {P : Prop} (h : P := by (focus ((repeat' apply And.intro) <;> first | exact qlf0 | exact penA_flat _ _ | exact recA_flat _ _ | exact ⟨rfl, rfl, rfl⟩ | exact ⟨rfl, rfl, rfl, rfl, ⟨rfl, rfl⟩⟩ | ((repeat' apply And.intro) <;> rfl)))) : P := h
theorem qSc15t2 {P : Prop} (h : P := by (focus ((repeat' apply And.intro) <;> first | exact qlf0 | exact hC | exact hC.symm | (rw [hE]; exact hset _ (Nat.le_refl _)) | (rw [hE]; exact hset _ (Nat.le_of_eq hC.symm)) | exact Nat.le_of_eq hC.symm))) : P := h
theorem qSc15t3 {P : Prop} (h : P := by (focus ((repeat' apply And.intro) <;> first | exact qlf0 | exact sim4a (A.sim.refl _) (A.sim.refl _) (A.sim.refl _) (A.sim.refl _)))) : P := h
theorem qSc15t4 {P : Prop} (h : P := by (focus ((repeat' apply And.intro) <;> first | exact qlf0 | exact hZl | exact hZl.symm | exact hin (sim4a (A.sim.refl _) (A.sim.refl _) (A.sim.refl _) (A.sim.refl _))))) : P := h
theorem qSc15t5 {P : Prop} (h : P := by (focus ((repeat' apply And.intro) <;> first | exact qlf0 | (show (IntKind.i64.wrap at_ % (A9.length : Int)).toNat = _; rw [hE2]; exact hC.symm) | (show (IntKind.i64.wrap at_ % (A9.length : Int)).toNat ≤ _; rw [hE2]; omega) | (intro j hj; refine hts _ j hj ?_; omega)))) : P := h
theorem qSc15t6 {P : Prop} (h : P := by (focus ((repeat' apply And.intro) <;> first | exact qlf0 | exact hC | exact hC.symm | exact hm _ | exact Nat.le_of_eq hC))) : P := h
theorem qSc15t7 {P : Prop} (h : P := by (focus ((repeat' apply And.intro) <;> first | exact qlf0 | exact hE | exact hE.symm))) : P := h
theorem qSc15t8 {P : Prop} (h : P := by (focus ((repeat' apply And.intro) <;> first | exact qlf0 | exact hl2 | exact hl2.symm | exact Nat.le_of_eq hl2 | exact hset _ (Nat.le_refl _) | exact hset _ (Nat.le_of_eq hl2)))) : P := h
theorem qSc15t9 {P : Prop} (h : P := by
  clear ih
  repeat' first
    | assumption
    | exact Bool.noConfusion hb
    | exact absurd hb (by decide)
    | (exfalso; omega)
    | (exfalso; simp at hb; done)
    | (refine W.branch rfl (fun hb => ?_) (fun hb => ?_) <;> ((try simp only [qhb, addI, reduceCtorEq, Int.reduceToNat] at hb); (try replace hb := of_decide_eq_true hb); (try replace hb := of_decide_eq_false hb)))
    | (refine W.go Tt18OK 222 hΓ 1000 rfl ?_; (conv => whnf); refine ⟨?_, ?_⟩)
  all_goals (repeat' apply And.intro)
  all_goals try exact qcs0
  refine W.seeA ([(21, .own 1 604 0 A9.length), (22, .own 1 605 0 B9.length), (23, .own 1 606 0 C9.length)]) ([(604, some (.arr 1 A9.length (byteAt A9))), (605, some (.arr 1 B9.length (byteAt B9))), (606, some (.arr 1 C9.length (byteAt C9)))]) [24, 43, 44, 45, 46, 47, 48, 49, 50, 51, 52, 53, 54, 55, 56, 57, 58, 59, 60, 61, 62, 63, 64, 65, 66, 67, 68, 69, 70, 71, 72, 73, 74, 75, 76, 77, 78, 79, 80, 81, 82, 83, 84, 85, 86, 87, 88, 89, 90, 91, 92, 93, 94, 95, 96, 97, 98, 99, 100, 101, 102, 103, 104, 105, 106, 107, 108, 109, 110, 111, 112, 113, 114, 115, 116, 117, 118, 119, 120, 121, 122, 123, 124, 125, 126, 127, 128, 129, 130, 131, 132, 133, 134] ?_
  (conv => whnf); refine ⟨?_, ?_⟩; focus ((conv => whnf); refine ⟨rfl, rfl, rfl, rfl, rfl, rfl, ?_, ?_⟩; iterate 2 exact qlf1)
  refine W.cutA [6, 20, 21, 22, 23] [604, 605, 606] ?_
  (conv => whnf); refine ⟨?_, ?_⟩; focus ((conv => whnf); refine ⟨rfl, rfl, rfl, rfl, rfl, rfl, ?_, ?_⟩; iterate 2 exact qlf1)
  refine W.run TtgOK 222 hΓ 1000 ?_
  conv => whnf
  refine ⟨?_, ?_⟩
  repeat' first
    | assumption
    | exact Bool.noConfusion hb
    | exact absurd hb (by decide)
    | (exfalso; omega)
    | (refine W.branch rfl (fun hb => ?_) (fun hb => ?_) <;> ((try simp only [qhb, addI, reduceCtorEq, Int.reduceToNat] at hb); (try replace hb := of_decide_eq_true hb); (try replace hb := of_decide_eq_false hb)))
    | (refine W.go TtgOK 222 hΓ 1000 rfl ?_; (conv => whnf); refine ⟨?_, ?_⟩)
  all_goals (repeat' apply And.intro)
  all_goals try exact qcs0
  refine W.loopA (Nat) (fun c => c ≤ 4) (fun c => 4 - c) (fun c => [(139, sl 1 bytesA [A9, B9, C9, raw]), (141, .int .i64 (c : Nat))]) (fun _ => []) [] (0) (by decide) ?_
  (conv => whnf); refine ⟨?_, ?_⟩; focus ((conv => whnf); refine ⟨rfl, rfl, rfl, rfl, rfl, rfl, ?_, ?_⟩; iterate 2 exact qSc15t3)
  rintro c hc ihc
  obtain ⟨ZS, hZe⟩ : ∃ Z, Z = ([A9, B9, C9, raw] : List (List UInt8)) := ⟨_, rfl⟩
  have hZS : ∀ z ∈ ZS, z.length ≤ 5000 := fun z hz => by
    rw [hZe] at hz
    simp only [List.mem_cons, List.not_mem_nil, or_false] at hz
    rcases hz with rfl | rfl | rfl | rfl <;> omega
  have hZl : ZS.length = 4 := by rw [hZe]; rfl
  have hZ2 : sl 1 bytesA [A9, B9, C9, raw] = sl 1 bytesA ZS := by rw [hZe]
  have hin : ∀ {g : Nat → A}, (∀ i, i < 4 → (g i).sim (bytesA (([A9, B9, C9, raw] : List (List UInt8)).getD i default))) → ∀ i, i < 4 → (g i).sim (bytesA (ZS.getD i default)) := fun h => by rw [hZe]; exact h
  rw [← hZe] at ihc ⊢
  by_cases hlc : c < 4
  rotate_left
  · clear ihc
    repeat' first
      | assumption
      | exact Bool.noConfusion hb
      | exact absurd hb (by decide)
      | (exfalso; omega)
      | (exfalso; simp at hb; done)
      | (refine W.retY TOK rfl rfl ⟨?_, ?_⟩)
      | (refine W.branch rfl (fun hb => ?_) (fun hb => ?_) <;> ((try simp only [qhb, addI, reduceCtorEq, Int.reduceToNat] at hb); (try replace hb := of_decide_eq_true hb); (try replace hb := of_decide_eq_false hb)))
      | (refine W.go TOK 222 hΓ 1000 rfl ?_; (conv => whnf); refine ⟨?_, ?_⟩)
    all_goals (repeat' apply And.intro)
    all_goals try exact qcs0
  have hZ : (ZS.getD c default).length ≤ 5000 := hZS _ (HP.at_mem (by omega))
  have ih2 := ihc (c + 1) (by omega) (by omega)
  clear ihc hZe hZ2
  obtain ⟨z, hz⟩ : ∃ z, z = ZS.getD c default := ⟨_, rfl⟩
  rw [← hz] at hZ
  have r1 := rec_does z (by omega)
  have r2 := rrec_does z (by omega)
  have q1 := recs_le z
  generalize recsS z = V at *
  obtain ⟨R, nn⟩ := V
  simp only at *
  have r3 := hrec_does R (by omega)
  have r4 := whole_does R (by omega)
  have r5 := rwhole_does R (by omega)
  have q2 := whole_len R
  generalize wholeS R = V at *
  obtain ⟨g, P, ok⟩ := V
  simp only at *
  have r6 := hpen_does P (by omega)
  have hzs : (bytesA (ZS.getD c default)).sim (bytesA z) := by rw [hz]; exact .refl _
  rw [hz] at r1 r2
  repeat' first
    | assumption
    | exact Bool.noConfusion hb
    | exact absurd hb (by decide)
    | (exfalso; omega)
    | exact absurd rfl hb
    | (exfalso; simp at hb; done)
    | (refine W.retY TtgOK rfl rfl ⟨?_, ?_⟩)
    | (refine W.branch rfl (fun hb => ?_) (fun hb => ?_) <;> ((try simp only [qhb, addI, reduceCtorEq, Int.reduceToNat] at hb); (try replace hb := of_decide_eq_true hb); (try replace hb := of_decide_eq_false hb)))
    | (refine W.callA (r1) rfl rfl rfl rfl hΓ rfl ?_; (conv => whnf); refine ⟨rfl, rfl, ?_, ?_, ?_, ?_⟩; iterate 3 exact qSc15t1; (conv => whnf))
    | (refine W.callA (r2) rfl rfl rfl rfl hΓ rfl ?_; (conv => whnf); refine ⟨rfl, rfl, ?_, ?_, ?_, ?_⟩; iterate 3 exact qSc15t1; (conv => whnf))
    | (refine W.callA (r3) rfl rfl rfl rfl hΓ rfl ?_; (conv => whnf); refine ⟨rfl, rfl, ?_, ?_, ?_, ?_⟩; iterate 3 exact qSc15t1; (conv => whnf))
    | (refine W.callA (r4) rfl rfl rfl rfl hΓ rfl ?_; (conv => whnf); refine ⟨rfl, rfl, ?_, ?_, ?_, ?_⟩; iterate 3 exact qSc15t1; (conv => whnf))
    | (refine W.callA (r5) rfl rfl rfl rfl hΓ rfl ?_; (conv => whnf); refine ⟨rfl, rfl, ?_, ?_, ?_, ?_⟩; iterate 3 exact qSc15t1; (conv => whnf))
    | (refine W.callA (r6) rfl rfl rfl rfl hΓ rfl ?_; (conv => whnf); refine ⟨rfl, rfl, ?_, ?_, ?_, ?_⟩; iterate 3 exact qSc15t1; (conv => whnf))
    | (refine W.go TtgOK 222 hΓ 1000 rfl ?_; (conv => whnf); refine ⟨?_, ?_⟩)
  all_goals (repeat' apply And.intro)
  all_goals try exact qcs0
  refine W.loopA (Nat) (fun d => d ≤ 4) (fun d => 4 - d) (fun d => [(194, sl 1 bytesA ZS), (196, .int .i64 (d : Nat))]) (fun _ => []) [] (0) (by decide) ?_
  (conv => whnf); refine ⟨?_, ?_⟩; focus ((conv => whnf); refine ⟨rfl, rfl, rfl, rfl, rfl, rfl, ?_, ?_⟩; iterate 2 exact qSc15t4)
  rintro d hd ihd
  clear r1 r2 r3 r4 r5 r6
  by_cases hld : d < 4
  rotate_left
  · clear ihd
    repeat' first
      | assumption
      | exact Bool.noConfusion hb
      | exact absurd hb (by decide)
      | (exfalso; omega)
      | (exfalso; simp at hb; done)
      | (refine W.toA (ih2) ?_; rotate_left 0; (conv => whnf); refine ⟨rfl, rfl, rfl, rfl, rfl, rfl, ?_, ?_⟩; iterate 2 exact qSc15t1)
      | (refine W.retY TOK rfl rfl ⟨?_, ?_⟩)
      | (refine W.branch rfl (fun hb => ?_) (fun hb => ?_) <;> ((try simp only [qhb, addI, reduceCtorEq, Int.reduceToNat] at hb); (try replace hb := of_decide_eq_true hb); (try replace hb := of_decide_eq_false hb)))
      | (refine W.go TOK 222 hΓ 1000 rfl ?_; (conv => whnf); refine ⟨?_, ?_⟩)
    all_goals (repeat' apply And.intro)
    all_goals try exact qcs0
  have hY : (ZS.getD d default).length ≤ 5000 := hZS _ (HP.at_mem (by omega))
  have ih3 := ihd (d + 1) (by omega) (by omega)
  clear ihd ih2
  have s1 := choose_does z (ZS.getD d default) (by omega) (by omega)
  have s2 := rchoose_does z (ZS.getD d default) (by omega) (by omega)
  generalize chooseS z (ZS.getD d default) = V at *
  obtain ⟨f, is⟩ := V
  simp only at s1 s2
  rw [hz] at s1 s2
  repeat' first
    | assumption
    | exact Bool.noConfusion hb
    | exact absurd hb (by decide)
    | (exfalso; omega)
    | exact absurd rfl hb
    | (exfalso; simp at hb; done)
    | (refine W.toA (ih3) ?_; rotate_left 0; (conv => whnf); refine ⟨rfl, rfl, rfl, rfl, rfl, rfl, ?_, ?_⟩; iterate 2 exact qSc15t1)
    | (refine W.retY TOK rfl rfl ⟨?_, ?_⟩)
    | (refine W.branch rfl (fun hb => ?_) (fun hb => ?_) <;> ((try simp only [qhb, addI, reduceCtorEq, Int.reduceToNat] at hb); (try replace hb := of_decide_eq_true hb); (try replace hb := of_decide_eq_false hb)))
    | (refine W.callA (s1) rfl rfl rfl rfl hΓ rfl ?_; (conv => whnf); refine ⟨rfl, rfl, ?_, ?_, ?_, ?_⟩; iterate 3 exact qSc15t1; (conv => whnf))
    | (refine W.callA (s2) rfl rfl rfl rfl hΓ rfl ?_; (conv => whnf); refine ⟨rfl, rfl, ?_, ?_, ?_, ?_⟩; iterate 3 exact qSc15t1; (conv => whnf))
    | (refine W.go TOK 222 hΓ 1000 rfl ?_; (conv => whnf); refine ⟨?_, ?_⟩)
  all_goals (repeat' apply And.intro)
  all_goals try exact qcs0) : P := h
theorem qSc15t10 {P : Prop} (h : P := by
  refine Does.intro (fn := Try.f3) Try.func3 rfl rfl fun Γ hΓ => ?_
  refine W.run TOK 222 hΓ 1000 ?_
  conv => whnf
  refine ⟨?_, ?_⟩
  repeat' first
    | assumption
    | exact Bool.noConfusion hb
    | exact absurd hb (by decide)
    | (exfalso; omega)
    | (exfalso; simp at hb; done)
    | (refine W.retY TOK rfl rfl ⟨?_, ?_⟩)
    | (refine W.branch rfl (fun hb => ?_) (fun hb => ?_) <;> ((try simp only [qhb, addI, reduceCtorEq, Int.reduceToNat] at hb); (try replace hb := of_decide_eq_true hb); (try replace hb := of_decide_eq_false hb)))
    | (refine W.callA (ck) rfl rfl rfl rfl hΓ rfl ?_; (conv => whnf); refine ⟨rfl, rfl, ?_, ?_, ?_, ?_⟩; iterate 3 exact qlf1; (conv => whnf))
    | (refine W.go TOK 222 hΓ 1000 rfl ?_; (conv => whnf); refine ⟨?_, ?_⟩)
  all_goals (repeat' apply And.intro)
  all_goals try exact qcs0) : P := h
theorem qSc15t11 {P : Prop} (h : P := by
  clear ihd
  repeat' first
    | assumption
    | exact Bool.noConfusion hb
    | exact absurd hb (by decide)
    | (exfalso; omega)
    | (exfalso; simp at hb; done)
    | (refine W.toA (ih2) ?_; rotate_left 0; (conv => whnf); refine ⟨rfl, rfl, rfl, rfl, rfl, rfl, ?_, ?_⟩; iterate 2 exact qSc15t1)
    | (refine W.retY TOK rfl rfl ⟨?_, ?_⟩)
    | (refine W.branch rfl (fun hb => ?_) (fun hb => ?_) <;> ((try simp only [qhb, addI, reduceCtorEq, Int.reduceToNat] at hb); (try replace hb := of_decide_eq_true hb); (try replace hb := of_decide_eq_false hb)))
    | (refine W.go TOK 222 hΓ 1000 rfl ?_; (conv => whnf); refine ⟨?_, ?_⟩)
  all_goals (repeat' apply And.intro)
  all_goals try exact qcs0) : P := h
theorem qSc15t12 {P : Prop} (h : P := by
  clear ihc
  repeat' first
    | assumption
    | exact Bool.noConfusion hb
    | exact absurd hb (by decide)
    | (exfalso; omega)
    | (exfalso; simp at hb; done)
    | (refine W.retY TOK rfl rfl ⟨?_, ?_⟩)
    | (refine W.branch rfl (fun hb => ?_) (fun hb => ?_) <;> ((try simp only [qhb, addI, reduceCtorEq, Int.reduceToNat] at hb); (try replace hb := of_decide_eq_true hb); (try replace hb := of_decide_eq_false hb)))
    | (refine W.go TOK 222 hΓ 1000 rfl ?_; (conv => whnf); refine ⟨?_, ?_⟩)
  all_goals (repeat' apply And.intro)
  all_goals try exact qcs0) : P := h
def Tt18 : Tab := { l := tabL, stop := [18] }
theorem Tt18OK : TabOK Try.prog Tt18.l := tabOK
def Ttg : Tab := { l := tabL, frz := [139, 194] }
theorem TtgOK : TabOK Try.prog Ttg.l := tabOK
theorem sim4a {z a b c d : A} {h : Nat → A} (h0 : a.sim (h 0)) (h1 : b.sim (h 1)) (h2 : c.sim (h 2)) (h3 : d.sim (h 3)) : ∀ i, i < 4 → ((listF z (fillL (repl z 4) [(0, a), (1, b), (2, c), (3, d)])) i).sim (h i) := fun i hi => by
  match i, hi with
  | 0, _ => exact h0
  | 1, _ => exact h1
  | 2, _ => exact h2
  | 3, _ => exact h3
theorem byte_take2 {X : List UInt8} {i : Nat} : ∀ n, ∀ j, j < n → j < i → (byteAt X j).sim (byteAt (X.take i) j) := fun n j _ hji => by
  refine A.sim.of ?_
  unfold byteAt
  rw [List.getD_eq_getElem?_getD, List.getD_eq_getElem?_getD, List.getElem?_take_of_lt hji]
theorem tells15_does (gen other : Int) (l m more : List UInt8) (seq : Int) (raw : List UInt8) (at_ : Int) (x how : UInt8) (hat : inr .u16 at_) : Does Try.prog 3 [.int .i64 gen, .int .i64 other, bytesA l, bytesA m, bytesA more, .int .i64 seq, bytesA raw, .int .u16 at_, VX.byte x, VX.byte how] [] [] Yes := by
  have ck := known_does
  have ha16 : 0 ≤ at_ ∧ at_ ≤ 65535 := hat
  by_cases h81 : 10 < l.length
  · exact qSc15t10
  by_cases h82 : 10 < m.length
  · exact qSc15t10
  by_cases h83 : 12 < more.length
  · exact qSc15t10
  by_cases h84 : 100 < raw.length
  · exact qSc15t10
  have hg7 : 0 ≤ bitsI .and .i64 gen 7 ∧ bitsI .and .i64 gen 7 ≤ 7 := and_small gen 7 (by decide)
  have ho7 : 0 ≤ bitsI .and .i64 other 7 ∧ bitsI .and .i64 other 7 ≤ 7 := and_small other 7 (by decide)
  have hs7 : 0 ≤ bitsI .and .i64 seq 255 ∧ bitsI .and .i64 seq 255 ≤ 255 := and_small seq 255 (by decide)
  have hs8 : 0 ≤ bitsI .and .i64 seq 4095 ∧ bitsI .and .i64 seq 4095 ≤ 4095 := and_small seq 4095 (by decide)
  have f1 := file_does (bitsI .and .i64 gen 7) l more (bitsI .and .i64 seq 255) (by omega) (by omega) (by omega) (by omega)
  have f2 := file_does (bitsI .and .i64 other 7) m more (bitsI .and .i64 seq 4095) (by omega) (by omega) (by omega) (by omega)
  have q1 := fileS_len (bitsI .and .i64 gen 7) l more (bitsI .and .i64 seq 255)
  have q2 := fileS_len (bitsI .and .i64 other 7) m more (bitsI .and .i64 seq 4095)
  have hA0 : 0 < (fileS (bitsI .and .i64 gen 7) l more (bitsI .and .i64 seq 255)).length := by
    have h := (new_ok (gen := bitsI .and .i64 gen 7) (seq := bitsI .and .i64 seq 255) (l := l) (by omega) (by omega) (by omega)).pos
    unfold fileS
    rw [List.length_append]
    omega
  generalize fileS (bitsI .and .i64 gen 7) l more (bitsI .and .i64 seq 255) = A9 at *
  generalize fileS (bitsI .and .i64 other 7) m more (bitsI .and .i64 seq 4095) = B9 at *
  have hA9 : A9.length ≤ 4000 := by omega
  have hB9 : B9.length ≤ 4000 := by omega
  clear q1 q2
  have hx8 := x.toNat_lt
  have hw8 := how.toNat_lt
  have wc : IntKind.i64.wrap at_ = at_ := wrap_i64_in (by omega) (by omega)
  have wx : IntKind.i64.wrap ((x.toNat : Int) % 40) = (x.toNat : Int) % 40 := wrap_i64_in (by omega) (by omega)
  obtain ⟨i0, hi0⟩ : ∃ i0 : Nat, (i0 : Int) = at_ % (A9.length : Int) := ⟨(at_ % (A9.length : Int)).toNat, by have := Int.emod_nonneg at_ (show (A9.length : Int) ≠ 0 by omega); omega⟩
  have hj0 : (i0 : Int) < (A9.length : Int) := by rw [hi0]; exact Int.emod_lt_of_pos _ (by omega)
  have hE : IntKind.i64.wrap at_ % (A9.length : Int) = (i0 : Int) := by rw [wc, hi0]
  by_cases w0 : (how.toNat : Int) % 4 = 0
  · obtain ⟨v, hv⟩ := byte_ex (inr_bits .xor .u8 ((A9.getD i0 0).toNat : Int) (x.toNat : Int))
    have hset : ∀ n, n ≤ A9.length → ∀ i, i < n → (setF (byteAt A9) i0 (A.int .u8 (bitsI .xor .u8 ((A9.getD i0 0).toNat : Int) (x.toNat : Int))) i).sim (byteAt (A9.set i0 v) i) := fun n hn => by rw [hv]; exact set_sim A9 i0 v hn
    have hC : A9.length = (A9.set i0 v).length := by simp
    obtain ⟨C9, hC9⟩ : ∃ C, C = A9.set i0 v := ⟨_, rfl⟩
    rw [← hC9] at hset hC
    clear hC9 hv
    refine Does.intro (fn := Try.f3) Try.func3 rfl rfl fun Γ hΓ => ?_
    refine W.run Tt18OK 222 hΓ 1000 ?_
    conv => whnf
    refine ⟨?_, ?_⟩
    repeat' first
      | assumption
      | exact Bool.noConfusion hb
      | exact absurd hb (by decide)
      | (exfalso; omega)
      | (exfalso; simp at hb; done)
      | (refine W.retY Tt18OK rfl rfl ⟨?_, ?_⟩)
      | (refine W.branch rfl (fun hb => ?_) (fun hb => ?_) <;> ((try simp only [qhb, addI, reduceCtorEq, Int.reduceToNat] at hb); (try replace hb := of_decide_eq_true hb); (try replace hb := of_decide_eq_false hb)))
      | (refine W.callA (ck) rfl rfl rfl rfl hΓ rfl ?_; (conv => whnf); refine ⟨rfl, rfl, ?_, ?_, ?_, ?_⟩; iterate 3 exact qSc15t1; (conv => whnf))
      | (refine W.callA (f1) rfl rfl rfl rfl hΓ rfl ?_; (conv => whnf); refine ⟨rfl, rfl, ?_, ?_, ?_, ?_⟩; iterate 3 exact qSc15t1; (conv => whnf))
      | (refine W.callA (f2) rfl rfl rfl rfl hΓ rfl ?_; (conv => whnf); refine ⟨rfl, rfl, ?_, ?_, ?_, ?_⟩; iterate 3 exact qSc15t1; (conv => whnf))
      | (refine W.go Tt18OK 222 hΓ 1000 rfl ?_; (conv => whnf); refine ⟨?_, ?_⟩)
    all_goals (repeat' apply And.intro)
    all_goals try exact qcs0
    refine W.seeA ([(21, .own 1 604 0 A9.length), (22, .own 1 605 0 B9.length), (23, .own 1 606 0 C9.length)]) ([(604, some (.arr 1 A9.length (byteAt A9))), (605, some (.arr 1 B9.length (byteAt B9))), (606, some (.arr 1 C9.length (byteAt C9)))]) [24, 43, 44, 45, 46, 47, 48, 49, 50, 51, 52, 53, 54, 55, 56, 57, 58, 59, 60, 61, 62, 63, 64, 65, 66, 67, 68, 69, 70, 71, 72, 73, 74, 75, 76, 77, 78, 79, 80, 81, 82, 83, 84, 85, 86, 87, 88, 89, 90, 91, 92, 93, 94, 95, 96, 97, 98, 99, 100, 101, 102, 103, 104, 105, 106, 107, 108, 109, 110, 111, 112, 113, 114, 115, 116, 117, 118, 119, 120, 121, 122, 123, 124, 125, 126, 127, 128, 129, 130, 131, 132, 133, 134] ?_
    (conv => whnf); refine ⟨?_, ?_⟩; focus ((conv => whnf); refine ⟨rfl, rfl, rfl, rfl, rfl, rfl, ?_, ?_⟩; iterate 2 exact qSc15t2)
    refine W.cutA [6, 20, 21, 22, 23] [604, 605, 606] ?_
    (conv => whnf); refine ⟨?_, ?_⟩; focus ((conv => whnf); refine ⟨rfl, rfl, rfl, rfl, rfl, rfl, ?_, ?_⟩; iterate 2 exact qlf1)
    refine W.run TtgOK 222 hΓ 1000 ?_
    conv => whnf
    refine ⟨?_, ?_⟩
    repeat' first
      | assumption
      | exact Bool.noConfusion hb
      | exact absurd hb (by decide)
      | (exfalso; omega)
      | (refine W.branch rfl (fun hb => ?_) (fun hb => ?_) <;> ((try simp only [qhb, addI, reduceCtorEq, Int.reduceToNat] at hb); (try replace hb := of_decide_eq_true hb); (try replace hb := of_decide_eq_false hb)))
      | (refine W.go TtgOK 222 hΓ 1000 rfl ?_; (conv => whnf); refine ⟨?_, ?_⟩)
    all_goals (repeat' apply And.intro)
    all_goals try exact qcs0
    refine W.loopA (Nat) (fun c => c ≤ 4) (fun c => 4 - c) (fun c => [(139, sl 1 bytesA [A9, B9, C9, raw]), (141, .int .i64 (c : Nat))]) (fun _ => []) [] (0) (by decide) ?_
    (conv => whnf); refine ⟨?_, ?_⟩; focus ((conv => whnf); refine ⟨rfl, rfl, rfl, rfl, rfl, rfl, ?_, ?_⟩; iterate 2 exact qSc15t3)
    rintro c hc ihc
    obtain ⟨ZS, hZe⟩ : ∃ Z, Z = ([A9, B9, C9, raw] : List (List UInt8)) := ⟨_, rfl⟩
    have hZS : ∀ z ∈ ZS, z.length ≤ 5000 := fun z hz => by
      rw [hZe] at hz
      simp only [List.mem_cons, List.not_mem_nil, or_false] at hz
      rcases hz with rfl | rfl | rfl | rfl <;> omega
    have hZl : ZS.length = 4 := by rw [hZe]; rfl
    have hZ2 : sl 1 bytesA [A9, B9, C9, raw] = sl 1 bytesA ZS := by rw [hZe]
    have hin : ∀ {g : Nat → A}, (∀ i, i < 4 → (g i).sim (bytesA (([A9, B9, C9, raw] : List (List UInt8)).getD i default))) → ∀ i, i < 4 → (g i).sim (bytesA (ZS.getD i default)) := fun h => by rw [hZe]; exact h
    rw [← hZe] at ihc ⊢
    by_cases hlc : c < 4
    rotate_left
    · exact qSc15t12
    have hZ : (ZS.getD c default).length ≤ 5000 := hZS _ (HP.at_mem (by omega))
    have ih2 := ihc (c + 1) (by omega) (by omega)
    clear ihc hZe hZ2
    obtain ⟨z, hz⟩ : ∃ z, z = ZS.getD c default := ⟨_, rfl⟩
    rw [← hz] at hZ
    have r1 := rec_does z (by omega)
    have r2 := rrec_does z (by omega)
    have q1 := recs_le z
    generalize recsS z = V at *
    obtain ⟨R, nn⟩ := V
    simp only at *
    have r3 := hrec_does R (by omega)
    have r4 := whole_does R (by omega)
    have r5 := rwhole_does R (by omega)
    have q2 := whole_len R
    generalize wholeS R = V at *
    obtain ⟨g, P, ok⟩ := V
    simp only at *
    have r6 := hpen_does P (by omega)
    have hzs : (bytesA (ZS.getD c default)).sim (bytesA z) := by rw [hz]; exact .refl _
    rw [hz] at r1 r2
    repeat' first
      | assumption
      | exact Bool.noConfusion hb
      | exact absurd hb (by decide)
      | (exfalso; omega)
      | exact absurd rfl hb
      | (exfalso; simp at hb; done)
      | (refine W.retY TtgOK rfl rfl ⟨?_, ?_⟩)
      | (refine W.branch rfl (fun hb => ?_) (fun hb => ?_) <;> ((try simp only [qhb, addI, reduceCtorEq, Int.reduceToNat] at hb); (try replace hb := of_decide_eq_true hb); (try replace hb := of_decide_eq_false hb)))
      | (refine W.callA (r1) rfl rfl rfl rfl hΓ rfl ?_; (conv => whnf); refine ⟨rfl, rfl, ?_, ?_, ?_, ?_⟩; iterate 3 exact qSc15t1; (conv => whnf))
      | (refine W.callA (r2) rfl rfl rfl rfl hΓ rfl ?_; (conv => whnf); refine ⟨rfl, rfl, ?_, ?_, ?_, ?_⟩; iterate 3 exact qSc15t1; (conv => whnf))
      | (refine W.callA (r3) rfl rfl rfl rfl hΓ rfl ?_; (conv => whnf); refine ⟨rfl, rfl, ?_, ?_, ?_, ?_⟩; iterate 3 exact qSc15t1; (conv => whnf))
      | (refine W.callA (r4) rfl rfl rfl rfl hΓ rfl ?_; (conv => whnf); refine ⟨rfl, rfl, ?_, ?_, ?_, ?_⟩; iterate 3 exact qSc15t1; (conv => whnf))
      | (refine W.callA (r5) rfl rfl rfl rfl hΓ rfl ?_; (conv => whnf); refine ⟨rfl, rfl, ?_, ?_, ?_, ?_⟩; iterate 3 exact qSc15t1; (conv => whnf))
      | (refine W.callA (r6) rfl rfl rfl rfl hΓ rfl ?_; (conv => whnf); refine ⟨rfl, rfl, ?_, ?_, ?_, ?_⟩; iterate 3 exact qSc15t1; (conv => whnf))
      | (refine W.go TtgOK 222 hΓ 1000 rfl ?_; (conv => whnf); refine ⟨?_, ?_⟩)
    all_goals (repeat' apply And.intro)
    all_goals try exact qcs0
    refine W.loopA (Nat) (fun d => d ≤ 4) (fun d => 4 - d) (fun d => [(194, sl 1 bytesA ZS), (196, .int .i64 (d : Nat))]) (fun _ => []) [] (0) (by decide) ?_
    (conv => whnf); refine ⟨?_, ?_⟩; focus ((conv => whnf); refine ⟨rfl, rfl, rfl, rfl, rfl, rfl, ?_, ?_⟩; iterate 2 exact qSc15t4)
    rintro d hd ihd
    clear r1 r2 r3 r4 r5 r6
    by_cases hld : d < 4
    rotate_left
    · exact qSc15t11
    have hY : (ZS.getD d default).length ≤ 5000 := hZS _ (HP.at_mem (by omega))
    have ih3 := ihd (d + 1) (by omega) (by omega)
    clear ihd ih2
    have s1 := choose_does z (ZS.getD d default) (by omega) (by omega)
    have s2 := rchoose_does z (ZS.getD d default) (by omega) (by omega)
    generalize chooseS z (ZS.getD d default) = V at *
    obtain ⟨f, is⟩ := V
    simp only at s1 s2
    rw [hz] at s1 s2
    repeat' first
      | assumption
      | exact Bool.noConfusion hb
      | exact absurd hb (by decide)
      | (exfalso; omega)
      | exact absurd rfl hb
      | (exfalso; simp at hb; done)
      | (refine W.toA (ih3) ?_; rotate_left 0; (conv => whnf); refine ⟨rfl, rfl, rfl, rfl, rfl, rfl, ?_, ?_⟩; iterate 2 exact qSc15t1)
      | (refine W.retY TOK rfl rfl ⟨?_, ?_⟩)
      | (refine W.branch rfl (fun hb => ?_) (fun hb => ?_) <;> ((try simp only [qhb, addI, reduceCtorEq, Int.reduceToNat] at hb); (try replace hb := of_decide_eq_true hb); (try replace hb := of_decide_eq_false hb)))
      | (refine W.callA (s1) rfl rfl rfl rfl hΓ rfl ?_; (conv => whnf); refine ⟨rfl, rfl, ?_, ?_, ?_, ?_⟩; iterate 3 exact qSc15t1; (conv => whnf))
      | (refine W.callA (s2) rfl rfl rfl rfl hΓ rfl ?_; (conv => whnf); refine ⟨rfl, rfl, ?_, ?_, ?_, ?_⟩; iterate 3 exact qSc15t1; (conv => whnf))
      | (refine W.go TOK 222 hΓ 1000 rfl ?_; (conv => whnf); refine ⟨?_, ?_⟩)
    all_goals (repeat' apply And.intro)
    all_goals try exact qcs0
  by_cases w1 : (how.toNat : Int) % 4 = 1
  · have hC : (A9.take i0).length = i0 := by rw [List.length_take]; omega
    have hts := byte_take2 (X := A9) (i := i0)
    obtain ⟨C9, hC9⟩ : ∃ C, C = A9.take i0 := ⟨_, rfl⟩
    rw [← hC9] at hts hC
    clear hC9
    have hE2 : (IntKind.i64.wrap at_ % (A9.length : Int)).toNat = i0 := by rw [hE]; rfl
    refine Does.intro (fn := Try.f3) Try.func3 rfl rfl fun Γ hΓ => ?_
    refine W.run Tt18OK 222 hΓ 1000 ?_
    conv => whnf
    refine ⟨?_, ?_⟩
    repeat' first
      | assumption
      | exact Bool.noConfusion hb
      | exact absurd hb (by decide)
      | (exfalso; omega)
      | (exfalso; simp at hb; done)
      | (refine W.retY Tt18OK rfl rfl ⟨?_, ?_⟩)
      | (refine W.branch rfl (fun hb => ?_) (fun hb => ?_) <;> ((try simp only [qhb, addI, reduceCtorEq, Int.reduceToNat] at hb); (try replace hb := of_decide_eq_true hb); (try replace hb := of_decide_eq_false hb)))
      | (refine W.callA (ck) rfl rfl rfl rfl hΓ rfl ?_; (conv => whnf); refine ⟨rfl, rfl, ?_, ?_, ?_, ?_⟩; iterate 3 exact qSc15t1; (conv => whnf))
      | (refine W.callA (f1) rfl rfl rfl rfl hΓ rfl ?_; (conv => whnf); refine ⟨rfl, rfl, ?_, ?_, ?_, ?_⟩; iterate 3 exact qSc15t1; (conv => whnf))
      | (refine W.callA (f2) rfl rfl rfl rfl hΓ rfl ?_; (conv => whnf); refine ⟨rfl, rfl, ?_, ?_, ?_, ?_⟩; iterate 3 exact qSc15t1; (conv => whnf))
      | (refine W.go Tt18OK 222 hΓ 1000 rfl ?_; (conv => whnf); refine ⟨?_, ?_⟩)
    all_goals (repeat' apply And.intro)
    all_goals try exact qcs0
    refine W.seeA ([(21, .own 1 604 0 A9.length), (22, .own 1 605 0 B9.length), (23, .own 1 606 0 C9.length)]) ([(604, some (.arr 1 A9.length (byteAt A9))), (605, some (.arr 1 B9.length (byteAt B9))), (606, some (.arr 1 C9.length (byteAt C9)))]) [24, 43, 44, 45, 46, 47, 48, 49, 50, 51, 52, 53, 54, 55, 56, 57, 58, 59, 60, 61, 62, 63, 64, 65, 66, 67, 68, 69, 70, 71, 72, 73, 74, 75, 76, 77, 78, 79, 80, 81, 82, 83, 84, 85, 86, 87, 88, 89, 90, 91, 92, 93, 94, 95, 96, 97, 98, 99, 100, 101, 102, 103, 104, 105, 106, 107, 108, 109, 110, 111, 112, 113, 114, 115, 116, 117, 118, 119, 120, 121, 122, 123, 124, 125, 126, 127, 128, 129, 130, 131, 132, 133, 134] ?_
    (conv => whnf); refine ⟨?_, ?_⟩; focus ((conv => whnf); refine ⟨rfl, rfl, rfl, rfl, rfl, rfl, ?_, ?_⟩; iterate 2 exact qSc15t5)
    refine W.cutA [6, 20, 21, 22, 23] [604, 605, 606] ?_
    (conv => whnf); refine ⟨?_, ?_⟩; focus ((conv => whnf); refine ⟨rfl, rfl, rfl, rfl, rfl, rfl, ?_, ?_⟩; iterate 2 exact qlf1)
    refine W.run TtgOK 222 hΓ 1000 ?_
    conv => whnf
    refine ⟨?_, ?_⟩
    repeat' first
      | assumption
      | exact Bool.noConfusion hb
      | exact absurd hb (by decide)
      | (exfalso; omega)
      | (refine W.branch rfl (fun hb => ?_) (fun hb => ?_) <;> ((try simp only [qhb, addI, reduceCtorEq, Int.reduceToNat] at hb); (try replace hb := of_decide_eq_true hb); (try replace hb := of_decide_eq_false hb)))
      | (refine W.go TtgOK 222 hΓ 1000 rfl ?_; (conv => whnf); refine ⟨?_, ?_⟩)
    all_goals (repeat' apply And.intro)
    all_goals try exact qcs0
    refine W.loopA (Nat) (fun c => c ≤ 4) (fun c => 4 - c) (fun c => [(139, sl 1 bytesA [A9, B9, C9, raw]), (141, .int .i64 (c : Nat))]) (fun _ => []) [] (0) (by decide) ?_
    (conv => whnf); refine ⟨?_, ?_⟩; focus ((conv => whnf); refine ⟨rfl, rfl, rfl, rfl, rfl, rfl, ?_, ?_⟩; iterate 2 exact qSc15t3)
    rintro c hc ihc
    obtain ⟨ZS, hZe⟩ : ∃ Z, Z = ([A9, B9, C9, raw] : List (List UInt8)) := ⟨_, rfl⟩
    have hZS : ∀ z ∈ ZS, z.length ≤ 5000 := fun z hz => by
      rw [hZe] at hz
      simp only [List.mem_cons, List.not_mem_nil, or_false] at hz
      rcases hz with rfl | rfl | rfl | rfl <;> omega
    have hZl : ZS.length = 4 := by rw [hZe]; rfl
    have hZ2 : sl 1 bytesA [A9, B9, C9, raw] = sl 1 bytesA ZS := by rw [hZe]
    have hin : ∀ {g : Nat → A}, (∀ i, i < 4 → (g i).sim (bytesA (([A9, B9, C9, raw] : List (List UInt8)).getD i default))) → ∀ i, i < 4 → (g i).sim (bytesA (ZS.getD i default)) := fun h => by rw [hZe]; exact h
    rw [← hZe] at ihc ⊢
    by_cases hlc : c < 4
    rotate_left
    · exact qSc15t12
    have hZ : (ZS.getD c default).length ≤ 5000 := hZS _ (HP.at_mem (by omega))
    have ih2 := ihc (c + 1) (by omega) (by omega)
    clear ihc hZe hZ2
    obtain ⟨z, hz⟩ : ∃ z, z = ZS.getD c default := ⟨_, rfl⟩
    rw [← hz] at hZ
    have r1 := rec_does z (by omega)
    have r2 := rrec_does z (by omega)
    have q1 := recs_le z
    generalize recsS z = V at *
    obtain ⟨R, nn⟩ := V
    simp only at *
    have r3 := hrec_does R (by omega)
    have r4 := whole_does R (by omega)
    have r5 := rwhole_does R (by omega)
    have q2 := whole_len R
    generalize wholeS R = V at *
    obtain ⟨g, P, ok⟩ := V
    simp only at *
    have r6 := hpen_does P (by omega)
    have hzs : (bytesA (ZS.getD c default)).sim (bytesA z) := by rw [hz]; exact .refl _
    rw [hz] at r1 r2
    repeat' first
      | assumption
      | exact Bool.noConfusion hb
      | exact absurd hb (by decide)
      | (exfalso; omega)
      | exact absurd rfl hb
      | (exfalso; simp at hb; done)
      | (refine W.retY TtgOK rfl rfl ⟨?_, ?_⟩)
      | (refine W.branch rfl (fun hb => ?_) (fun hb => ?_) <;> ((try simp only [qhb, addI, reduceCtorEq, Int.reduceToNat] at hb); (try replace hb := of_decide_eq_true hb); (try replace hb := of_decide_eq_false hb)))
      | (refine W.callA (r1) rfl rfl rfl rfl hΓ rfl ?_; (conv => whnf); refine ⟨rfl, rfl, ?_, ?_, ?_, ?_⟩; iterate 3 exact qSc15t1; (conv => whnf))
      | (refine W.callA (r2) rfl rfl rfl rfl hΓ rfl ?_; (conv => whnf); refine ⟨rfl, rfl, ?_, ?_, ?_, ?_⟩; iterate 3 exact qSc15t1; (conv => whnf))
      | (refine W.callA (r3) rfl rfl rfl rfl hΓ rfl ?_; (conv => whnf); refine ⟨rfl, rfl, ?_, ?_, ?_, ?_⟩; iterate 3 exact qSc15t1; (conv => whnf))
      | (refine W.callA (r4) rfl rfl rfl rfl hΓ rfl ?_; (conv => whnf); refine ⟨rfl, rfl, ?_, ?_, ?_, ?_⟩; iterate 3 exact qSc15t1; (conv => whnf))
      | (refine W.callA (r5) rfl rfl rfl rfl hΓ rfl ?_; (conv => whnf); refine ⟨rfl, rfl, ?_, ?_, ?_, ?_⟩; iterate 3 exact qSc15t1; (conv => whnf))
      | (refine W.callA (r6) rfl rfl rfl rfl hΓ rfl ?_; (conv => whnf); refine ⟨rfl, rfl, ?_, ?_, ?_, ?_⟩; iterate 3 exact qSc15t1; (conv => whnf))
      | (refine W.go TtgOK 222 hΓ 1000 rfl ?_; (conv => whnf); refine ⟨?_, ?_⟩)
    all_goals (repeat' apply And.intro)
    all_goals try exact qcs0
    refine W.loopA (Nat) (fun d => d ≤ 4) (fun d => 4 - d) (fun d => [(194, sl 1 bytesA ZS), (196, .int .i64 (d : Nat))]) (fun _ => []) [] (0) (by decide) ?_
    (conv => whnf); refine ⟨?_, ?_⟩; focus ((conv => whnf); refine ⟨rfl, rfl, rfl, rfl, rfl, rfl, ?_, ?_⟩; iterate 2 exact qSc15t4)
    rintro d hd ihd
    clear r1 r2 r3 r4 r5 r6
    by_cases hld : d < 4
    rotate_left
    · exact qSc15t11
    have hY : (ZS.getD d default).length ≤ 5000 := hZS _ (HP.at_mem (by omega))
    have ih3 := ihd (d + 1) (by omega) (by omega)
    clear ihd ih2
    have s1 := choose_does z (ZS.getD d default) (by omega) (by omega)
    have s2 := rchoose_does z (ZS.getD d default) (by omega) (by omega)
    generalize chooseS z (ZS.getD d default) = V at *
    obtain ⟨f, is⟩ := V
    simp only at s1 s2
    rw [hz] at s1 s2
    repeat' first
      | assumption
      | exact Bool.noConfusion hb
      | exact absurd hb (by decide)
      | (exfalso; omega)
      | exact absurd rfl hb
      | (exfalso; simp at hb; done)
      | (refine W.toA (ih3) ?_; rotate_left 0; (conv => whnf); refine ⟨rfl, rfl, rfl, rfl, rfl, rfl, ?_, ?_⟩; iterate 2 exact qSc15t1)
      | (refine W.retY TOK rfl rfl ⟨?_, ?_⟩)
      | (refine W.branch rfl (fun hb => ?_) (fun hb => ?_) <;> ((try simp only [qhb, addI, reduceCtorEq, Int.reduceToNat] at hb); (try replace hb := of_decide_eq_true hb); (try replace hb := of_decide_eq_false hb)))
      | (refine W.callA (s1) rfl rfl rfl rfl hΓ rfl ?_; (conv => whnf); refine ⟨rfl, rfl, ?_, ?_, ?_, ?_⟩; iterate 3 exact qSc15t1; (conv => whnf))
      | (refine W.callA (s2) rfl rfl rfl rfl hΓ rfl ?_; (conv => whnf); refine ⟨rfl, rfl, ?_, ?_, ?_, ?_⟩; iterate 3 exact qSc15t1; (conv => whnf))
      | (refine W.go TOK 222 hΓ 1000 rfl ?_; (conv => whnf); refine ⟨?_, ?_⟩)
    all_goals (repeat' apply And.intro)
    all_goals try exact qcs0
  by_cases w2 : (how.toNat : Int) % 4 = 2
  · obtain ⟨C9, hC9⟩ : ∃ C, C = A9 ++ raw := ⟨_, rfl⟩
    have hC : C9.length = A9.length + raw.length := by rw [hC9, List.length_append]
    have hm : ∀ m, ∀ j, j < m → (catF A9.length (byteAt A9) (byteAt raw) j).sim (byteAt C9 j) := fun m j _ => by rw [cat_bytes, ← hC9]; exact .refl _
    clear hC9
    refine Does.intro (fn := Try.f3) Try.func3 rfl rfl fun Γ hΓ => ?_
    refine W.run Tt18OK 222 hΓ 1000 ?_
    conv => whnf
    refine ⟨?_, ?_⟩
    repeat' first
      | assumption
      | exact Bool.noConfusion hb
      | exact absurd hb (by decide)
      | (exfalso; omega)
      | (exfalso; simp at hb; done)
      | (refine W.retY Tt18OK rfl rfl ⟨?_, ?_⟩)
      | (refine W.branch rfl (fun hb => ?_) (fun hb => ?_) <;> ((try simp only [qhb, addI, reduceCtorEq, Int.reduceToNat] at hb); (try replace hb := of_decide_eq_true hb); (try replace hb := of_decide_eq_false hb)))
      | (refine W.callA (ck) rfl rfl rfl rfl hΓ rfl ?_; (conv => whnf); refine ⟨rfl, rfl, ?_, ?_, ?_, ?_⟩; iterate 3 exact qSc15t1; (conv => whnf))
      | (refine W.callA (f1) rfl rfl rfl rfl hΓ rfl ?_; (conv => whnf); refine ⟨rfl, rfl, ?_, ?_, ?_, ?_⟩; iterate 3 exact qSc15t1; (conv => whnf))
      | (refine W.callA (f2) rfl rfl rfl rfl hΓ rfl ?_; (conv => whnf); refine ⟨rfl, rfl, ?_, ?_, ?_, ?_⟩; iterate 3 exact qSc15t1; (conv => whnf))
      | (refine W.go Tt18OK 222 hΓ 1000 rfl ?_; (conv => whnf); refine ⟨?_, ?_⟩)
    all_goals (repeat' apply And.intro)
    all_goals try exact qcs0
    refine W.seeA ([(21, .own 1 604 0 A9.length), (22, .own 1 605 0 B9.length), (23, .own 1 606 0 C9.length)]) ([(604, some (.arr 1 A9.length (byteAt A9))), (605, some (.arr 1 B9.length (byteAt B9))), (606, some (.arr 1 C9.length (byteAt C9)))]) [24, 43, 44, 45, 46, 47, 48, 49, 50, 51, 52, 53, 54, 55, 56, 57, 58, 59, 60, 61, 62, 63, 64, 65, 66, 67, 68, 69, 70, 71, 72, 73, 74, 75, 76, 77, 78, 79, 80, 81, 82, 83, 84, 85, 86, 87, 88, 89, 90, 91, 92, 93, 94, 95, 96, 97, 98, 99, 100, 101, 102, 103, 104, 105, 106, 107, 108, 109, 110, 111, 112, 113, 114, 115, 116, 117, 118, 119, 120, 121, 122, 123, 124, 125, 126, 127, 128, 129, 130, 131, 132, 133, 134] ?_
    (conv => whnf); refine ⟨?_, ?_⟩; focus ((conv => whnf); refine ⟨rfl, rfl, rfl, rfl, rfl, rfl, ?_, ?_⟩; iterate 2 exact qSc15t6)
    refine W.cutA [6, 20, 21, 22, 23] [604, 605, 606] ?_
    (conv => whnf); refine ⟨?_, ?_⟩; focus ((conv => whnf); refine ⟨rfl, rfl, rfl, rfl, rfl, rfl, ?_, ?_⟩; iterate 2 exact qlf1)
    refine W.run TtgOK 222 hΓ 1000 ?_
    conv => whnf
    refine ⟨?_, ?_⟩
    repeat' first
      | assumption
      | exact Bool.noConfusion hb
      | exact absurd hb (by decide)
      | (exfalso; omega)
      | (refine W.branch rfl (fun hb => ?_) (fun hb => ?_) <;> ((try simp only [qhb, addI, reduceCtorEq, Int.reduceToNat] at hb); (try replace hb := of_decide_eq_true hb); (try replace hb := of_decide_eq_false hb)))
      | (refine W.go TtgOK 222 hΓ 1000 rfl ?_; (conv => whnf); refine ⟨?_, ?_⟩)
    all_goals (repeat' apply And.intro)
    all_goals try exact qcs0
    refine W.loopA (Nat) (fun c => c ≤ 4) (fun c => 4 - c) (fun c => [(139, sl 1 bytesA [A9, B9, C9, raw]), (141, .int .i64 (c : Nat))]) (fun _ => []) [] (0) (by decide) ?_
    (conv => whnf); refine ⟨?_, ?_⟩; focus ((conv => whnf); refine ⟨rfl, rfl, rfl, rfl, rfl, rfl, ?_, ?_⟩; iterate 2 exact qSc15t3)
    rintro c hc ihc
    obtain ⟨ZS, hZe⟩ : ∃ Z, Z = ([A9, B9, C9, raw] : List (List UInt8)) := ⟨_, rfl⟩
    have hZS : ∀ z ∈ ZS, z.length ≤ 5000 := fun z hz => by
      rw [hZe] at hz
      simp only [List.mem_cons, List.not_mem_nil, or_false] at hz
      rcases hz with rfl | rfl | rfl | rfl <;> omega
    have hZl : ZS.length = 4 := by rw [hZe]; rfl
    have hZ2 : sl 1 bytesA [A9, B9, C9, raw] = sl 1 bytesA ZS := by rw [hZe]
    have hin : ∀ {g : Nat → A}, (∀ i, i < 4 → (g i).sim (bytesA (([A9, B9, C9, raw] : List (List UInt8)).getD i default))) → ∀ i, i < 4 → (g i).sim (bytesA (ZS.getD i default)) := fun h => by rw [hZe]; exact h
    rw [← hZe] at ihc ⊢
    by_cases hlc : c < 4
    rotate_left
    · exact qSc15t12
    have hZ : (ZS.getD c default).length ≤ 5000 := hZS _ (HP.at_mem (by omega))
    have ih2 := ihc (c + 1) (by omega) (by omega)
    clear ihc hZe hZ2
    obtain ⟨z, hz⟩ : ∃ z, z = ZS.getD c default := ⟨_, rfl⟩
    rw [← hz] at hZ
    have r1 := rec_does z (by omega)
    have r2 := rrec_does z (by omega)
    have q1 := recs_le z
    generalize recsS z = V at *
    obtain ⟨R, nn⟩ := V
    simp only at *
    have r3 := hrec_does R (by omega)
    have r4 := whole_does R (by omega)
    have r5 := rwhole_does R (by omega)
    have q2 := whole_len R
    generalize wholeS R = V at *
    obtain ⟨g, P, ok⟩ := V
    simp only at *
    have r6 := hpen_does P (by omega)
    have hzs : (bytesA (ZS.getD c default)).sim (bytesA z) := by rw [hz]; exact .refl _
    rw [hz] at r1 r2
    repeat' first
      | assumption
      | exact Bool.noConfusion hb
      | exact absurd hb (by decide)
      | (exfalso; omega)
      | exact absurd rfl hb
      | (exfalso; simp at hb; done)
      | (refine W.retY TtgOK rfl rfl ⟨?_, ?_⟩)
      | (refine W.branch rfl (fun hb => ?_) (fun hb => ?_) <;> ((try simp only [qhb, addI, reduceCtorEq, Int.reduceToNat] at hb); (try replace hb := of_decide_eq_true hb); (try replace hb := of_decide_eq_false hb)))
      | (refine W.callA (r1) rfl rfl rfl rfl hΓ rfl ?_; (conv => whnf); refine ⟨rfl, rfl, ?_, ?_, ?_, ?_⟩; iterate 3 exact qSc15t1; (conv => whnf))
      | (refine W.callA (r2) rfl rfl rfl rfl hΓ rfl ?_; (conv => whnf); refine ⟨rfl, rfl, ?_, ?_, ?_, ?_⟩; iterate 3 exact qSc15t1; (conv => whnf))
      | (refine W.callA (r3) rfl rfl rfl rfl hΓ rfl ?_; (conv => whnf); refine ⟨rfl, rfl, ?_, ?_, ?_, ?_⟩; iterate 3 exact qSc15t1; (conv => whnf))
      | (refine W.callA (r4) rfl rfl rfl rfl hΓ rfl ?_; (conv => whnf); refine ⟨rfl, rfl, ?_, ?_, ?_, ?_⟩; iterate 3 exact qSc15t1; (conv => whnf))
      | (refine W.callA (r5) rfl rfl rfl rfl hΓ rfl ?_; (conv => whnf); refine ⟨rfl, rfl, ?_, ?_, ?_, ?_⟩; iterate 3 exact qSc15t1; (conv => whnf))
      | (refine W.callA (r6) rfl rfl rfl rfl hΓ rfl ?_; (conv => whnf); refine ⟨rfl, rfl, ?_, ?_, ?_, ?_⟩; iterate 3 exact qSc15t1; (conv => whnf))
      | (refine W.go TtgOK 222 hΓ 1000 rfl ?_; (conv => whnf); refine ⟨?_, ?_⟩)
    all_goals (repeat' apply And.intro)
    all_goals try exact qcs0
    refine W.loopA (Nat) (fun d => d ≤ 4) (fun d => 4 - d) (fun d => [(194, sl 1 bytesA ZS), (196, .int .i64 (d : Nat))]) (fun _ => []) [] (0) (by decide) ?_
    (conv => whnf); refine ⟨?_, ?_⟩; focus ((conv => whnf); refine ⟨rfl, rfl, rfl, rfl, rfl, rfl, ?_, ?_⟩; iterate 2 exact qSc15t4)
    rintro d hd ihd
    clear r1 r2 r3 r4 r5 r6
    by_cases hld : d < 4
    rotate_left
    · exact qSc15t11
    have hY : (ZS.getD d default).length ≤ 5000 := hZS _ (HP.at_mem (by omega))
    have ih3 := ihd (d + 1) (by omega) (by omega)
    clear ihd ih2
    have s1 := choose_does z (ZS.getD d default) (by omega) (by omega)
    have s2 := rchoose_does z (ZS.getD d default) (by omega) (by omega)
    generalize chooseS z (ZS.getD d default) = V at *
    obtain ⟨f, is⟩ := V
    simp only at s1 s2
    rw [hz] at s1 s2
    repeat' first
      | assumption
      | exact Bool.noConfusion hb
      | exact absurd hb (by decide)
      | (exfalso; omega)
      | exact absurd rfl hb
      | (exfalso; simp at hb; done)
      | (refine W.toA (ih3) ?_; rotate_left 0; (conv => whnf); refine ⟨rfl, rfl, rfl, rfl, rfl, rfl, ?_, ?_⟩; iterate 2 exact qSc15t1)
      | (refine W.retY TOK rfl rfl ⟨?_, ?_⟩)
      | (refine W.branch rfl (fun hb => ?_) (fun hb => ?_) <;> ((try simp only [qhb, addI, reduceCtorEq, Int.reduceToNat] at hb); (try replace hb := of_decide_eq_true hb); (try replace hb := of_decide_eq_false hb)))
      | (refine W.callA (s1) rfl rfl rfl rfl hΓ rfl ?_; (conv => whnf); refine ⟨rfl, rfl, ?_, ?_, ?_, ?_⟩; iterate 3 exact qSc15t1; (conv => whnf))
      | (refine W.callA (s2) rfl rfl rfl rfl hΓ rfl ?_; (conv => whnf); refine ⟨rfl, rfl, ?_, ?_, ?_, ?_⟩; iterate 3 exact qSc15t1; (conv => whnf))
      | (refine W.go TOK 222 hΓ 1000 rfl ?_; (conv => whnf); refine ⟨?_, ?_⟩)
    all_goals (repeat' apply And.intro)
    all_goals try exact qcs0
  refine Does.intro (fn := Try.f3) Try.func3 rfl rfl fun Γ hΓ => ?_
  refine W.run TOK 222 hΓ 1000 ?_
  conv => whnf
  refine ⟨?_, ?_⟩
  repeat' first
    | assumption
    | exact Bool.noConfusion hb
    | exact absurd hb (by decide)
    | (exfalso; omega)
    | (exfalso; simp at hb; done)
    | (refine W.retY TOK rfl rfl ⟨?_, ?_⟩)
    | (refine W.branch rfl (fun hb => ?_) (fun hb => ?_) <;> ((try simp only [qhb, addI, reduceCtorEq, Int.reduceToNat] at hb); (try replace hb := of_decide_eq_true hb); (try replace hb := of_decide_eq_false hb)))
    | (refine W.callA (ck) rfl rfl rfl rfl hΓ rfl ?_; (conv => whnf); refine ⟨rfl, rfl, ?_, ?_, ?_, ?_⟩; iterate 3 exact qSc15t1; (conv => whnf))
    | (refine W.callA (f1) rfl rfl rfl rfl hΓ rfl ?_; (conv => whnf); refine ⟨rfl, rfl, ?_, ?_, ?_, ?_⟩; iterate 3 exact qSc15t1; (conv => whnf))
    | (refine W.callA (f2) rfl rfl rfl rfl hΓ rfl ?_; (conv => whnf); refine ⟨rfl, rfl, ?_, ?_, ?_, ?_⟩; iterate 3 exact qSc15t1; (conv => whnf))
    | (refine W.go TOK 222 hΓ 1000 rfl ?_; (conv => whnf); refine ⟨?_, ?_⟩)
  all_goals (repeat' apply And.intro)
  all_goals try exact qcs0
  refine W.loopA (Nat × List UInt8) (fun y => y.1 ≤ A9.length ∧ y.2.length = A9.length) (fun y => A9.length - y.1) (fun y => [(23, .own 1 700 0 y.2.length), (24, .int .i64 (y.1 : Nat))]) (fun y => [(700, some (.arr 1 y.2.length (byteAt y.2)))]) [43, 44, 45, 46, 47, 48, 49, 50, 51, 52, 53, 54, 55, 56, 57, 58, 59, 60, 61, 62, 63, 64, 65, 66, 67, 68, 69, 70, 71, 72, 73, 74, 75, 76, 77, 78, 79, 80, 81, 82, 83, 84, 85, 108, 109, 121, 122, 130, 131] ((i0, A9)) (⟨by simp only; omega, rfl⟩) ?_
  (conv => whnf); refine ⟨?_, ?_⟩; focus ((conv => whnf); refine ⟨rfl, rfl, rfl, rfl, rfl, rfl, ?_, ?_⟩; iterate 2 exact qSc15t7)
  rintro ⟨i, C9⟩ ⟨hi, hC⟩ ih
  simp only at hi hC
  have hE3 : IntKind.i64.wrap at_ % (C9.length : Int) = (i0 : Int) := by rw [hC]; exact hE
  by_cases q1 : i < C9.length
  · by_cases q2 : (i : Int) < (i0 : Int) + (x.toNat : Int) % 40
    · have hl2 : (C9.set i 0).length = C9.length := List.length_set
      have hset : ∀ n, n ≤ C9.length → ∀ j, j < n → (setF (byteAt C9) i (A.int .u8 0) j).sim (byteAt (C9.set i 0) j) := fun n hn => set_sim C9 i 0 hn
      have ih2 := ih (i + 1, C9.set i 0) ⟨by simp only; omega, by simp only; omega⟩ (by simp only; omega)
      clear ih
      generalize C9.set i 0 = D9 at *
      repeat' first
        | assumption
        | exact Bool.noConfusion hb
        | exact absurd hb (by decide)
        | (exfalso; omega)
        | (exfalso; simp at hb; done)
        | (refine W.toA (ih2) ?_; rotate_left 0; (conv => whnf); refine ⟨rfl, rfl, rfl, rfl, rfl, rfl, ?_, ?_⟩; iterate 2 exact qSc15t8)
        | (refine W.branch rfl (fun hb => ?_) (fun hb => ?_) <;> ((try simp only [qhb, addI, reduceCtorEq, Int.reduceToNat] at hb); (try replace hb := of_decide_eq_true hb); (try replace hb := of_decide_eq_false hb)))
        | (refine W.go TOK 222 hΓ 1000 rfl ?_; (conv => whnf); refine ⟨?_, ?_⟩)
      all_goals (repeat' apply And.intro)
      all_goals try first | exact qcl0 | exact hl2.symm | exact qsm0
    · exact qSc15t9
  · exact qSc15t9
theorem scanTells_law (x0 x1 x2 x3 x4 x5 x6 x7 x8 x9 : A) (s0 : Shaped (.int .i64) x0) (s1 : Shaped (.int .i64) x1) (s2 : Shaped (.slice (.int .u8)) x2) (s3 : Shaped (.slice (.int .u8)) x3) (s4 : Shaped (.slice (.int .u8)) x4) (s5 : Shaped (.int .i64) x5) (s6 : Shaped (.slice (.int .u8)) x6) (s7 : Shaped (.int .u16) x7) (s8 : Shaped (.int .u8) x8) (s9 : Shaped (.int .u8) x9) : Does Try.prog 3 [x0, x1, x2, x3, x4, x5, x6, x7, x8, x9] [] [] Yes := by
  obtain ⟨a0, e0, h0⟩ := (Rep.int .i64) x0 s0
  obtain ⟨a1, e1, h1⟩ := (Rep.int .i64) x1 s1
  obtain ⟨a2, e2, h2⟩ := Rep.bytes x2 s2
  obtain ⟨a3, e3, h3⟩ := Rep.bytes x3 s3
  obtain ⟨a4, e4, h4⟩ := Rep.bytes x4 s4
  obtain ⟨a5, e5, h5⟩ := (Rep.int .i64) x5 s5
  obtain ⟨a6, e6, h6⟩ := Rep.bytes x6 s6
  obtain ⟨a7, e7, h7⟩ := (Rep.int .u16) x7 s7
  obtain ⟨a8, e8, h8⟩ := Rep.byte x8 s8
  obtain ⟨a9, e9, h9⟩ := Rep.byte x9 s9
  exact Does.args (ys := [(A.int .i64) a0, (A.int .i64) a1, bytesA a2, bytesA a3, bytesA a4, (A.int .i64) a5, bytesA a6, (A.int .u16) a7, VX.byte a8, VX.byte a9]) ⟨e0, e1, e2, e3, e4, e5, e6, e7, e8, e9, trivial⟩ ⟨s0.pure, s1.pure, s2.pure, s3.pure, s4.pure, s5.pure, s6.pure, s7.pure, s8.pure, s9.pure, trivial⟩ (tells15_does a0 a1 a2 a3 a4 a5 a6 a7 a8 a9 h7)

end Go.Proofs.Ytcolghonbncpnaa
