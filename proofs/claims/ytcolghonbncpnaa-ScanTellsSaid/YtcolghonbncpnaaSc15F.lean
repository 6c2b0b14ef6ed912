/- Walks: frames. -/
import Derived.Test.YtcolghonbncpnaaSc15R
import Derived.Test.YtcolghonbncpnaaPlA
set_option linter.unusedSimpArgs false
set_option linter.unusedVariables false
namespace Go.Proofs.Ytcolghonbncpnaa
open VX
set_option maxRecDepth 100000
set_option maxHeartbeats 4000000
theorem qSc15F1 {P : Prop} (h : P := by (focus ((repeat' apply And.intro) <;> first | exact qlf0 | exact hw | exact sim3a (sim_roB rfl (sim1a (A.sim.of rfl))) (sim_roB (numS_length _).symm (fun _ _ => A.sim.refl _)) (A.sim.refl _)))) : P := h
theorem qSc15F2 {P : Prop} (h : P := by (focus ((repeat' apply And.intro) <;> first | exact qlf0 | exact hw | exact sim3a (sim_roB rfl (sim1a (A.sim.of hk))) (sim_roB (numS_length _).symm (fun _ _ => A.sim.refl _)) (A.sim.refl _)))) : P := h
theorem qSc15F3 {P : Prop} (h : P := by (focus ((repeat' apply And.intro) <;> first | exact qlf0 | exact hlw | exact hw | exact hk2 | exact sim5a (sim_roB h4.symm (take_sim _ _)) (sim_roB rfl (sim1a (A.sim.of hk))) (sim_roB (numS_length _).symm (fun _ _ => A.sim.refl _)) (A.sim.refl _) (A.sim.refl _)))) : P := h
theorem qSc15F4 {P : Prop} (h : P := by (focus ((repeat' apply And.intro) <;> first | exact qlf0 | exact hlw | exact hw))) : P := h
theorem qSc15F5 {P : Prop} (h : P := by (focus ((repeat' apply And.intro) <;> first | exact qlf0 | exact h4e | exact hX4 | exact hcat _ rfl _ hXle | exact hs8 | exact hQ8.symm | exact take_sim _ _))) : P := h
theorem qSc15F6 {P : Prop} (h : P := by (focus ((repeat' apply And.intro) <;> first | exact qlf0 | exact h4e | exact hX4 | exact hcat _ rfl _ hXle | exact hs8 | exact hQ8.symm | exact take_sim _ _ | exact hqw | exact hnw | exact es | exact l1.trans hml.symm | exact l2.trans hbl.symm | exact sub_sim e1 (Nat.le_of_eq l1) | (intro i hi; exact hbs i (Nat.lt_of_lt_of_le hi (Nat.le_of_eq l2)))))) : P := h
theorem qSc15F7 {P : Prop} (h : P := by (focus ((repeat' apply And.intro) <;> first | exact qlf0 | exact h4b | exact hs8 | exact hQ8.symm | exact hkw))) : P := h
theorem qSc15F8 {P : Prop} (h : P := by (focus ((repeat' apply And.intro) <;> first | exact qlf0 | exact h4b | exact hs8 | exact hQ8.symm | exact hkw | exact l2.trans hbl.symm | (intro i hi; exact hbs i (Nat.lt_of_lt_of_le hi (Nat.le_of_eq l2))) | exact hqw))) : P := h
theorem qSc15F9 {P : Prop} (h : P := by first | exact qcl0 | exact hm.symm | exact hts | exact qsm0) : P := h
theorem qSc15F10 {P : Prop} (h : P := by first | exact qcl0 | (simp only [allP, List.nil_append, List.append_nil, List.cons_append, List.append_eq, and_true, true_and, inr_i64, inr_u8, inr_u64, min_i64, max_i64, min_u64, max_u64, min_u8, max_u8, A.purePL, A.pureP, A.sureP, A.surePL, Int.toNat_natCast, Int.reduceToNat, addI, cHi, cLo, hiN, loN, subO, addO, hasIdx, cond_true, cond_false, hnw]; first | done | omega | ((repeat' apply And.intro) <;> first | exact trivial | rfl | omega | decide))) : P := h
theorem qSc15F11 {P : Prop} (h : P := by first | exact qcl0 | exact hqw | exact es | (rw [hnw]; omega) | (rw [hnw]; simp only [min_i64, max_i64]; omega) | (simp only [hnw]; omega) | exact byte_wrap _ | (simp only [allP, List.nil_append, List.append_nil, List.cons_append, List.append_eq, and_true, true_and, inr_i64, inr_u8, inr_u64, min_i64, max_i64, min_u64, max_u64, min_u8, max_u8, A.purePL, A.pureP, A.sureP, A.surePL, Int.toNat_natCast, Int.reduceToNat, addI, cHi, cLo, hiN, loN, subO, addO, hasIdx, cond_true, cond_false, hnw]; first | done | omega | ((repeat' apply And.intro) <;> first | exact trivial | rfl | omega | decide))) : P := h
theorem qSc15F12 {P : Prop} (h : P := by first | exact qcl0 | (simp only [allP, List.nil_append, List.append_nil, List.cons_append, List.append_eq, and_true, true_and, inr_i64, inr_u8, inr_u64, min_i64, max_i64, min_u64, max_u64, min_u8, max_u8, A.purePL, A.pureP, A.sureP, A.surePL, Int.toNat_natCast, Int.reduceToNat, addI, cHi, cLo, hiN, loN, subO, addO, hasIdx, cond_true, cond_false, hkw]; first | done | omega | ((repeat' apply And.intro) <;> first | exact trivial | rfl | omega | decide))) : P := h
theorem qSc15F13 {P : Prop} (h : P := by
  have cc := fcheck_does (rdK b) (rdQ b) ((b.drop 13).take (rdN b)) (by omega) (by omega) (by omega)
  have cb := clone_does ((b.drop 13).take (rdN b)) (by omega)
  have e1 : ((13 : Int) + IntKind.i64.wrap (rdN b : Int) + 8 - 8).toNat = 13 + rdN b := by rw [hnw]; omega
  have l1 : ((13 : Int) + IntKind.i64.wrap (rdN b : Int) + 8).toNat - ((13 : Int) + IntKind.i64.wrap (rdN b : Int) + 8 - 8).toNat = 8 := by rw [hnw]; omega
  have l2 : ((13 : Int) + IntKind.i64.wrap (rdN b : Int) + 8 - 8).toNat - (13 : Int).toNat = rdN b := by rw [hnw]; omega
  have hbs : ∀ i, i < rdN b → (shiftF 13 (byteAt b) i).sim (byteAt ((b.drop 13).take (rdN b)) i) := sub_sim rfl (Nat.le_refl _)
  have es : (13 : Int) + IntKind.i64.wrap (rdN b : Int) + 8 = ((21 + rdN b : Nat) : Int) := by rw [hnw]; omega
  refine Does.intro (fn := Try.f36) Try.func36 rfl rfl fun Γ hΓ => ?_
  refine W.run TrOK 74 hΓ 1000 ?_
  conv => whnf
  refine ⟨?_, ?_⟩
  repeat' first
    | assumption
    | exact Bool.noConfusion hb
    | exact absurd hb (by decide)
    | (exfalso; omega)
    | (refine W.retA TrOK rfl ?_; (conv => whnf); refine ⟨rfl, rfl, rfl, rfl, rfl, rfl, ?_, ?_, ?_⟩)
    | ((first | refine W.branch rfl (fun hb => ?_) (fun hb => ?_) | refine D.branch rfl (fun hb => ?_) (fun hb => ?_)) <;> ((try simp only [qhb, addI, reduceCtorEq, Int.reduceToNat] at hb); (try replace hb := of_decide_eq_true hb); (try replace hb := of_decide_eq_false hb)))
    | ((first | (refine D.callA (c1) rfl rfl rfl rfl hΓ rfl ?_; (conv => whnf); refine ⟨rfl, rfl, rfl, ?_, ?_, ?_, ?_⟩) | (refine W.callA (c1) rfl rfl rfl rfl hΓ rfl ?_; (conv => whnf); refine ⟨rfl, rfl, ?_, ?_, ?_, ?_⟩)); iterate 3 exact qSc15F6; (conv => whnf))
    | ((first | (refine D.callA (c2) rfl rfl rfl rfl hΓ rfl ?_; (conv => whnf); refine ⟨rfl, rfl, rfl, ?_, ?_, ?_, ?_⟩) | (refine W.callA (c2) rfl rfl rfl rfl hΓ rfl ?_; (conv => whnf); refine ⟨rfl, rfl, ?_, ?_, ?_, ?_⟩)); iterate 3 exact qSc15F6; (conv => whnf))
    | ((first | (refine D.callA (c3) rfl rfl rfl rfl hΓ rfl ?_; (conv => whnf); refine ⟨rfl, rfl, rfl, ?_, ?_, ?_, ?_⟩) | (refine W.callA (c3) rfl rfl rfl rfl hΓ rfl ?_; (conv => whnf); refine ⟨rfl, rfl, ?_, ?_, ?_, ?_⟩)); iterate 3 exact qSc15F6; (conv => whnf))
    | ((first | (refine D.callA (c4) rfl rfl rfl rfl hΓ rfl ?_; (conv => whnf); refine ⟨rfl, rfl, rfl, ?_, ?_, ?_, ?_⟩) | (refine W.callA (c4) rfl rfl rfl rfl hΓ rfl ?_; (conv => whnf); refine ⟨rfl, rfl, ?_, ?_, ?_, ?_⟩)); iterate 3 exact qSc15F6; (conv => whnf))
    | ((first | (refine D.callA (c5) rfl rfl rfl rfl hΓ rfl ?_; (conv => whnf); refine ⟨rfl, rfl, rfl, ?_, ?_, ?_, ?_⟩) | (refine W.callA (c5) rfl rfl rfl rfl hΓ rfl ?_; (conv => whnf); refine ⟨rfl, rfl, ?_, ?_, ?_, ?_⟩)); iterate 3 exact qSc15F6; (conv => whnf))
    | ((first | (refine D.callA (heq) rfl rfl rfl rfl hΓ rfl ?_; (conv => whnf); refine ⟨rfl, rfl, rfl, ?_, ?_, ?_, ?_⟩) | (refine W.callA (heq) rfl rfl rfl rfl hΓ rfl ?_; (conv => whnf); refine ⟨rfl, rfl, ?_, ?_, ?_, ?_⟩)); iterate 3 exact qSc15F6; (conv => whnf))
    | ((first | (refine D.callA (cc) rfl rfl rfl rfl hΓ rfl ?_; (conv => whnf); refine ⟨rfl, rfl, rfl, ?_, ?_, ?_, ?_⟩) | (refine W.callA (cc) rfl rfl rfl rfl hΓ rfl ?_; (conv => whnf); refine ⟨rfl, rfl, ?_, ?_, ?_, ?_⟩)); iterate 3 exact qSc15F6; (conv => whnf))
    | ((first | (refine D.callA (cb) rfl rfl rfl rfl hΓ rfl ?_; (conv => whnf); refine ⟨rfl, rfl, rfl, ?_, ?_, ?_, ?_⟩) | (refine W.callA (cb) rfl rfl rfl rfl hΓ rfl ?_; (conv => whnf); refine ⟨rfl, rfl, ?_, ?_, ?_, ?_⟩)); iterate 3 exact qSc15F6; (conv => whnf))
    | (refine W.go TrOK 74 hΓ 1000 rfl ?_; (conv => whnf); refine ⟨?_, ?_⟩)
    | (refine D.go TrOK 74 hΓ 1000 rfl ?_; (conv => whnf); refine ⟨?_, ?_⟩)
    | (refine W.drawn rfl rfl ?_; refine D.run TrOK 74 hΓ 1000 ?_; (conv => whnf); refine ⟨?_, ?_⟩)
  all_goals (repeat' apply And.intro)
  all_goals try exact qSc15F11) : P := h
theorem qSc15F14 {P : Prop} (h : P := by
  refine Does.intro (fn := Try.f25) Try.func25 rfl rfl fun Γ hΓ => ?_
  refine W.run Ts4OK 83 hΓ 1000 ?_
  conv => whnf
  refine ⟨?_, ?_⟩
  repeat' first
    | assumption
    | exact Bool.noConfusion hb
    | exact absurd hb (by decide)
    | (exfalso; omega)
    | (refine W.retA Ts4OK rfl ?_; (conv => whnf); refine ⟨rfl, rfl, rfl, rfl, rfl, rfl, ?_, ?_, ?_⟩)
    | ((first | refine W.branch rfl (fun hb => ?_) (fun hb => ?_) | refine D.branch rfl (fun hb => ?_) (fun hb => ?_)) <;> ((try simp only [qhb, addI, reduceCtorEq, Int.reduceToNat] at hb); (try replace hb := of_decide_eq_true hb); (try replace hb := of_decide_eq_false hb)))
    | (refine W.go Ts4OK 83 hΓ 1000 rfl ?_; (conv => whnf); refine ⟨?_, ?_⟩)
    | (refine D.go Ts4OK 83 hΓ 1000 rfl ?_; (conv => whnf); refine ⟨?_, ?_⟩)
    | (refine W.drawn (id := 3) rfl rfl ?_; refine D.run Ts4OK 83 hΓ 1000 ?_; (conv => whnf); refine ⟨?_, ?_⟩)
  all_goals (repeat' apply And.intro)
  all_goals try exact qcs0
  refine W.seeA ([(7, .int .i64 (rdN b : Nat))]) ([]) [11, 12, 13, 14, 15, 16, 17, 18, 19, 20, 21, 22, 23, 24, 25, 26, 27, 28, 29, 30, 31, 32, 33, 34, 35] ?_
  (conv => whnf); refine ⟨?_, ?_⟩; focus ((conv => whnf); refine ⟨rfl, rfl, rfl, rfl, rfl, rfl, ?_, ?_⟩; iterate 2 exact qSc15F7)
  refine W.run TOK 83 hΓ 1000 ?_
  conv => whnf
  refine ⟨?_, ?_⟩
  repeat' first
    | assumption
    | exact Bool.noConfusion hb
    | exact absurd hb (by decide)
    | (exfalso; omega)
    | (refine W.retA TOK rfl ?_; (conv => whnf); refine ⟨rfl, rfl, rfl, rfl, rfl, rfl, ?_, ?_, ?_⟩)
    | ((first | refine W.branch rfl (fun hb => ?_) (fun hb => ?_) | refine D.branch rfl (fun hb => ?_) (fun hb => ?_)) <;> ((try simp only [qhb, addI, reduceCtorEq, Int.reduceToNat] at hb); (try replace hb := of_decide_eq_true hb); (try replace hb := of_decide_eq_false hb)))
    | ((first | (refine D.callA (cw) rfl rfl rfl rfl hΓ rfl ?_; (conv => whnf); refine ⟨rfl, rfl, rfl, ?_, ?_, ?_, ?_⟩) | (refine W.callA (cw) rfl rfl rfl rfl hΓ rfl ?_; (conv => whnf); refine ⟨rfl, rfl, ?_, ?_, ?_, ?_⟩)); iterate 3 exact qSc15F7; (conv => whnf))
    | (refine W.go TOK 83 hΓ 1000 rfl ?_; (conv => whnf); refine ⟨?_, ?_⟩)
    | (refine D.go TOK 83 hΓ 1000 rfl ?_; (conv => whnf); refine ⟨?_, ?_⟩)
    | (refine W.drawn rfl rfl ?_; refine D.run TOK 83 hΓ 1000 ?_; (conv => whnf); refine ⟨?_, ?_⟩)
  all_goals (repeat' apply And.intro)
  all_goals try exact qSc15F12) : P := h
theorem qSc15F15 {P : Prop} (h : P := by
  refine Does.intro (fn := Try.f36) Try.func36 rfl rfl fun Γ hΓ => ?_
  refine W.run TrOK 74 hΓ 1000 ?_
  conv => whnf
  refine ⟨?_, ?_⟩
  repeat' first
    | assumption
    | exact Bool.noConfusion hb
    | exact absurd hb (by decide)
    | (exfalso; omega)
    | (refine W.retA TrOK rfl ?_; (conv => whnf); refine ⟨rfl, rfl, rfl, rfl, rfl, rfl, ?_, ?_, ?_⟩)
    | ((first | refine W.branch rfl (fun hb => ?_) (fun hb => ?_) | refine D.branch rfl (fun hb => ?_) (fun hb => ?_)) <;> ((try simp only [qhb, addI, reduceCtorEq, Int.reduceToNat] at hb); (try replace hb := of_decide_eq_true hb); (try replace hb := of_decide_eq_false hb)))
    | ((first | (refine D.callA (c1) rfl rfl rfl rfl hΓ rfl ?_; (conv => whnf); refine ⟨rfl, rfl, rfl, ?_, ?_, ?_, ?_⟩) | (refine W.callA (c1) rfl rfl rfl rfl hΓ rfl ?_; (conv => whnf); refine ⟨rfl, rfl, ?_, ?_, ?_, ?_⟩)); iterate 3 exact qSc15F5; (conv => whnf))
    | ((first | (refine D.callA (c2) rfl rfl rfl rfl hΓ rfl ?_; (conv => whnf); refine ⟨rfl, rfl, rfl, ?_, ?_, ?_, ?_⟩) | (refine W.callA (c2) rfl rfl rfl rfl hΓ rfl ?_; (conv => whnf); refine ⟨rfl, rfl, ?_, ?_, ?_, ?_⟩)); iterate 3 exact qSc15F5; (conv => whnf))
    | ((first | (refine D.callA (c3) rfl rfl rfl rfl hΓ rfl ?_; (conv => whnf); refine ⟨rfl, rfl, rfl, ?_, ?_, ?_, ?_⟩) | (refine W.callA (c3) rfl rfl rfl rfl hΓ rfl ?_; (conv => whnf); refine ⟨rfl, rfl, ?_, ?_, ?_, ?_⟩)); iterate 3 exact qSc15F5; (conv => whnf))
    | ((first | (refine D.callA (c4) rfl rfl rfl rfl hΓ rfl ?_; (conv => whnf); refine ⟨rfl, rfl, rfl, ?_, ?_, ?_, ?_⟩) | (refine W.callA (c4) rfl rfl rfl rfl hΓ rfl ?_; (conv => whnf); refine ⟨rfl, rfl, ?_, ?_, ?_, ?_⟩)); iterate 3 exact qSc15F5; (conv => whnf))
    | ((first | (refine D.callA (c5) rfl rfl rfl rfl hΓ rfl ?_; (conv => whnf); refine ⟨rfl, rfl, rfl, ?_, ?_, ?_, ?_⟩) | (refine W.callA (c5) rfl rfl rfl rfl hΓ rfl ?_; (conv => whnf); refine ⟨rfl, rfl, ?_, ?_, ?_, ?_⟩)); iterate 3 exact qSc15F5; (conv => whnf))
    | (refine W.go TrOK 74 hΓ 1000 rfl ?_; (conv => whnf); refine ⟨?_, ?_⟩)
    | (refine D.go TrOK 74 hΓ 1000 rfl ?_; (conv => whnf); refine ⟨?_, ?_⟩)
    | (refine W.drawn rfl rfl ?_; refine D.run TrOK 74 hΓ 1000 ?_; (conv => whnf); refine ⟨?_, ?_⟩)
  all_goals (repeat' apply And.intro)
  all_goals try exact qSc15F10) : P := h
theorem qSc15F16 {P : Prop} (h : P := by
  refine Does.intro (fn := Try.f65) Try.func65 rfl rfl fun Γ hΓ => ?_
  refine W.run TpOK 44 hΓ 1000 ?_
  conv => whnf
  refine ⟨?_, ?_⟩
  repeat' first
    | assumption
    | exact Bool.noConfusion hb
    | exact absurd hb (by decide)
    | (exfalso; omega)
    | (refine W.retA TpOK rfl ?_; (conv => whnf); refine ⟨rfl, rfl, rfl, rfl, rfl, rfl, ?_, ?_, ?_⟩)
    | ((first | refine W.branch rfl (fun hb => ?_) (fun hb => ?_) | refine D.branch rfl (fun hb => ?_) (fun hb => ?_)) <;> ((try simp only [qhb, addI, reduceCtorEq, Int.reduceToNat] at hb); (try replace hb := of_decide_eq_true hb); (try replace hb := of_decide_eq_false hb)))
    | (refine W.go TpOK 44 hΓ 1000 rfl ?_; (conv => whnf); refine ⟨?_, ?_⟩)
    | (refine D.go TpOK 44 hΓ 1000 rfl ?_; (conv => whnf); refine ⟨?_, ?_⟩)
    | (refine W.drawn rfl rfl ?_; refine D.run TpOK 44 hΓ 1000 ?_; (conv => whnf); refine ⟨?_, ?_⟩)
  all_goals (repeat' apply And.intro)
  all_goals try exact qcs0) : P := h
theorem qSc15F17 {P : Prop} (h : P := by
  refine Does.intro (fn := Try.f35) Try.func35 rfl rfl fun Γ hΓ => ?_
  refine W.run TOK 51 hΓ 1000 ?_
  conv => whnf
  refine ⟨?_, ?_⟩
  repeat' first
    | assumption
    | exact Bool.noConfusion hb
    | exact absurd hb (by decide)
    | (exfalso; omega)
    | (refine W.retA TOK rfl ?_; (conv => whnf); refine ⟨rfl, rfl, rfl, rfl, rfl, rfl, ?_, ?_, ?_⟩)
    | (refine W.branch rfl (fun hb => ?_) (fun hb => ?_) <;> ((try simp only [qhb, addI, reduceCtorEq, Int.reduceToNat] at hb); (try replace hb := of_decide_eq_true hb); (try replace hb := of_decide_eq_false hb)))
    | (refine W.go TOK 51 hΓ 1000 rfl ?_; (conv => whnf); refine ⟨?_, ?_⟩)
  all_goals (repeat' apply And.intro)
  all_goals try exact qcs0) : P := h
theorem equal_does (a b : List UInt8) : Does Try.prog 44 [bytesA a, bytesA b] [] [] (Is (.bool (decide (a = b))) []) := by
  have e : decide (bytesOf a.length (byteAt a) = bytesOf b.length (byteAt b)) = decide (a = b) := by rw [bytes_fun rfl, bytes_fun rfl]
  refine Does.intro (fn := Try.f44) Try.func44 rfl rfl fun Γ hΓ => ?_
  refine W.run TOK 10 hΓ 1000 ?_
  conv => whnf
  refine ⟨?_, ?_⟩
  repeat' first
    | assumption
    | exact Bool.noConfusion hb
    | exact absurd hb (by decide)
    | (refine W.retA TOK rfl ?_; (conv => whnf); refine ⟨rfl, rfl, rfl, rfl, rfl, rfl, ?_, ?_, ?_⟩)
    | (refine W.branch rfl (fun hb => ?_) (fun hb => ?_) <;> ((try simp only [qhb, addI, reduceCtorEq, Int.reduceToNat] at hb); (try replace hb := of_decide_eq_true hb); (try replace hb := of_decide_eq_false hb)))
    | (refine W.go TOK 10 hΓ 1000 rfl ?_; (conv => whnf); refine ⟨?_, ?_⟩)
  all_goals (repeat' apply And.intro)
  all_goals try first | exact qcl0 | exact e | exact qsm0

def Tc : Tab := { l := tabL, frz := [9, 14] }
theorem TcOK : TabOK Try.prog Tc.l := tabOK
theorem fcheck_does (k : UInt8) (seq : Int) (body : List UInt8) (hs : 0 ≤ seq) (hs2 : seq ≤ 9223372036854775807) (hb9 : body.length ≤ 1000000000) : Does Try.prog 58 [VX.byte k, .int .i64 seq, bytesA body] [] [] (Is (bytesA (markS k seq body)) []) := by
  have hw : IntKind.u64.wrap seq = seq := wrap_u64_in hs (by omega)
  have hn : inr .u64 seq := inr_u64.2 ⟨hs, by omega⟩
  have ht := mark_text k seq body hb9
  have hm := markS_len k seq body
  have hts : ∀ i, i < 8 → (byteAt (sumS (textS 102 [[k], numS seq, body])) (0 + i)).sim (byteAt (markS k seq body) i) := fun i hi => by
    rw [Nat.zero_add]; exact take_sim _ _ i hi
  refine Does.intro (fn := Try.f58) Try.func58 rfl rfl fun Γ hΓ => ?_
  refine W.run TcOK 17 hΓ 1000 ?_
  conv => whnf
  refine ⟨?_, ?_⟩
  repeat' first
    | assumption
    | exact Bool.noConfusion hb
    | exact absurd hb (by decide)
    | (refine W.retA TcOK rfl ?_; (conv => whnf); refine ⟨rfl, rfl, rfl, rfl, rfl, rfl, ?_, ?_, ?_⟩)
    | (refine W.branch rfl (fun hb => ?_) (fun hb => ?_) <;> ((try simp only [qhb, addI, reduceCtorEq, Int.reduceToNat] at hb); (try replace hb := of_decide_eq_true hb); (try replace hb := of_decide_eq_false hb)))
    | (refine W.callAZ (num_does seq hn) rfl rfl rfl rfl hΓ rfl ?_; (conv => whnf); refine ⟨rfl, rfl, ?_, ?_, ?_, ?_, ?_⟩; iterate 4 exact qSc15F1; (conv => whnf))
    | (refine W.callA (tag_does 102 [[k], numS seq, body] ht) rfl rfl rfl rfl hΓ rfl ?_; (conv => whnf); refine ⟨rfl, rfl, ?_, ?_, ?_, ?_⟩; iterate 3 exact qSc15F1; (conv => whnf))
    | (refine W.go TcOK 17 hΓ 1000 rfl ?_; (conv => whnf); refine ⟨?_, ?_⟩)
  all_goals (repeat' apply And.intro)
  all_goals try exact qSc15F9

def Tm : Tab := { l := tabL, frz := [10, 15] }
theorem TmOK : TabOK Try.prog Tm.l := tabOK
theorem fmark_does (kind : Int) (seq : Int) (body : List UInt8) (hs : 0 ≤ seq) (hs2 : seq ≤ 9223372036854775807) (hb9 : body.length ≤ 1000000000) : Does Try.prog 46 [.int .i64 kind, .int .i64 seq, bytesA body] [] [] (Is (bytesA (markS (byteI kind) seq body)) []) := by
  have hw : IntKind.u64.wrap seq = seq := wrap_u64_in hs (by omega)
  have hn : inr .u64 seq := inr_u64.2 ⟨hs, by omega⟩
  have ht := mark_text (byteI kind) seq body hb9
  have hm := markS_len (byteI kind) seq body
  have hts : ∀ i, i < 8 → (byteAt (sumS (textS 102 [[byteI kind], numS seq, body])) (0 + i)).sim (byteAt (markS (byteI kind) seq body) i) := fun i hi => by
    rw [Nat.zero_add]; exact take_sim _ _ i hi
  have hk := byteI_at kind
  refine Does.intro (fn := Try.f46) Try.func46 rfl rfl fun Γ hΓ => ?_
  refine W.run TmOK 18 hΓ 1000 ?_
  conv => whnf
  refine ⟨?_, ?_⟩
  repeat' first
    | assumption
    | exact Bool.noConfusion hb
    | exact absurd hb (by decide)
    | (refine W.retA TmOK rfl ?_; (conv => whnf); refine ⟨rfl, rfl, rfl, rfl, rfl, rfl, ?_, ?_, ?_⟩)
    | (refine W.branch rfl (fun hb => ?_) (fun hb => ?_) <;> ((try simp only [qhb, addI, reduceCtorEq, Int.reduceToNat] at hb); (try replace hb := of_decide_eq_true hb); (try replace hb := of_decide_eq_false hb)))
    | (refine W.callAZ (rnum_does seq hn) rfl rfl rfl rfl hΓ rfl ?_; (conv => whnf); refine ⟨rfl, rfl, ?_, ?_, ?_, ?_, ?_⟩; iterate 4 exact qSc15F2; (conv => whnf))
    | (refine W.callA (rtag_does 102 [[byteI kind], numS seq, body] ht) rfl rfl rfl rfl hΓ rfl ?_; (conv => whnf); refine ⟨rfl, rfl, ?_, ?_, ?_, ?_⟩; iterate 3 exact qSc15F2; (conv => whnf))
    | (refine W.go TmOK 18 hΓ 1000 rfl ?_; (conv => whnf); refine ⟨?_, ?_⟩)
  all_goals (repeat' apply And.intro)
  all_goals try exact qSc15F9

def Tp : Tab := { l := tabL, frz := [32, 42] }
theorem TpOK : TabOK Try.prog Tp.l := tabOK
theorem put_does (kind seq : Int) (body : List UInt8) (hk9 : inr .i64 kind) (hs9 : inr .i64 seq) (hb9 : body.length ≤ 1000000000) : Does Try.prog 65 [.int .i64 kind, .int .i64 seq, bytesA body] [] [1] (Is (.tup [.own 1 1 0 (putS kind seq body).1.length, .int .i64 (putS kind seq body).2]) [(1, some (.arr 1 (putS kind seq body).1.length (byteAt (putS kind seq body).1)))]) := by
  rw [inr_i64] at hk9 hs9
  by_cases h1 : kind < 1 ∨ 255 < kind ∨ seq < 0
  · rw [show putS kind seq body = ([], 23) from if_pos h1]
    exact qSc15F16
  by_cases h2 : 4096 < body.length
  · rw [show putS kind seq body = ([], 22) by unfold putS; rw [if_neg h1, if_pos h2]]
    exact qSc15F16
  rw [show putS kind seq body = (frameB (byteI kind) seq body, 0) by unfold putS; rw [if_neg h1, if_neg h2]]
  have hw : IntKind.u64.wrap seq = seq := wrap_u64_in (by omega) (by omega)
  have hn : inr .u64 seq := inr_u64.2 ⟨by omega, by omega⟩
  have hlw : IntKind.u64.wrap (body.length : Int) = body.length := wrap_u64_in (by omega) (by omega)
  have hln : inr .u64 (body.length : Int) := inr_u64.2 ⟨by omega, by omega⟩
  have hk := byteI_at kind
  have hk2 := (A.int.inj hk).2
  have h4 : ((numS body.length).take 4).length = 4 := by rw [List.length_take, numS_length]; rfl
  have hfl := frameB_len (byteI kind) seq body
  have hmk := markS_len (byteI kind) seq body
  have hJ : [(numS body.length).take 4, [byteI kind], numS seq, body, markS (byteI kind) seq body].flatten = frameB (byteI kind) seq body := by
    unfold frameB
    simp only [List.flatten_cons, List.flatten_nil, List.append_nil]
  have cj := join_does [(numS body.length).take 4, [byteI kind], numS seq, body, markS (byteI kind) seq body] (show (5 : Nat) ≤ 1000000000000 by decide) (by rw [hJ, hfl]; omega)
  rw [hJ] at cj
  refine Does.intro (fn := Try.f65) Try.func65 rfl rfl fun Γ hΓ => ?_
  refine W.run TpOK 44 hΓ 1000 ?_
  conv => whnf
  refine ⟨?_, ?_⟩
  repeat' first
    | assumption
    | exact Bool.noConfusion hb
    | exact absurd hb (by decide)
    | (exfalso; omega)
    | (refine W.retA TpOK rfl ?_; (conv => whnf); refine ⟨rfl, rfl, rfl, rfl, rfl, rfl, ?_, ?_, ?_⟩)
    | ((first | refine W.branch rfl (fun hb => ?_) (fun hb => ?_) | refine D.branch rfl (fun hb => ?_) (fun hb => ?_)) <;> ((try simp only [qhb, addI, reduceCtorEq, Int.reduceToNat] at hb); (try replace hb := of_decide_eq_true hb); (try replace hb := of_decide_eq_false hb)))
    | ((first | (refine D.callAZ (num_does (body.length : Int) hln) rfl rfl rfl rfl hΓ rfl ?_; (conv => whnf); refine ⟨rfl, rfl, rfl, ?_, ?_, ?_, ?_, ?_⟩) | (refine W.callAZ (num_does (body.length : Int) hln) rfl rfl rfl rfl hΓ rfl ?_; (conv => whnf); refine ⟨rfl, rfl, ?_, ?_, ?_, ?_, ?_⟩)); iterate 4 exact qSc15F3; (conv => whnf))
    | ((first | (refine D.callAZ (num_does seq hn) rfl rfl rfl rfl hΓ rfl ?_; (conv => whnf); refine ⟨rfl, rfl, rfl, ?_, ?_, ?_, ?_, ?_⟩) | (refine W.callAZ (num_does seq hn) rfl rfl rfl rfl hΓ rfl ?_; (conv => whnf); refine ⟨rfl, rfl, ?_, ?_, ?_, ?_, ?_⟩)); iterate 4 exact qSc15F3; (conv => whnf))
    | ((first | (refine D.callA (fcheck_does (byteI kind) seq body (by omega) (by omega) hb9) rfl rfl rfl rfl hΓ rfl ?_; (conv => whnf); refine ⟨rfl, rfl, rfl, ?_, ?_, ?_, ?_⟩) | (refine W.callA (fcheck_does (byteI kind) seq body (by omega) (by omega) hb9) rfl rfl rfl rfl hΓ rfl ?_; (conv => whnf); refine ⟨rfl, rfl, ?_, ?_, ?_, ?_⟩)); iterate 3 exact qSc15F3; (conv => whnf))
    | ((first | (refine D.callA (cj) rfl rfl rfl rfl hΓ rfl ?_; (conv => whnf); refine ⟨rfl, rfl, rfl, ?_, ?_, ?_, ?_⟩) | (refine W.callA (cj) rfl rfl rfl rfl hΓ rfl ?_; (conv => whnf); refine ⟨rfl, rfl, ?_, ?_, ?_, ?_⟩)); iterate 3 exact qSc15F3; (conv => whnf))
    | (refine W.go TpOK 44 hΓ 1000 rfl ?_; (conv => whnf); refine ⟨?_, ?_⟩)
    | (refine D.go TpOK 44 hΓ 1000 rfl ?_; (conv => whnf); refine ⟨?_, ?_⟩)
    | (refine W.drawn rfl rfl ?_; refine D.run TpOK 44 hΓ 1000 ?_; (conv => whnf); refine ⟨?_, ?_⟩)
  all_goals (repeat' apply And.intro)
  all_goals try exact qcs0

theorem rput_does (kind seq : Int) (body : List UInt8) (hk9 : inr .i64 kind) (hs9 : inr .i64 seq) (hb9 : body.length ≤ 1000000000) : Does Try.prog 35 [.int .i64 kind, .int .i64 seq, bytesA body] [] [1] (Is (.tup [.own 1 1 0 (putS kind seq body).1.length, .int .i64 (putS kind seq body).2]) [(1, some (.arr 1 (putS kind seq body).1.length (byteAt (putS kind seq body).1)))]) := by
  rw [inr_i64] at hk9 hs9
  by_cases h1 : kind < 1 ∨ 255 < kind ∨ seq < 0
  · rw [show putS kind seq body = ([], 23) from if_pos h1]
    exact qSc15F17
  by_cases h2 : 4096 < body.length
  · rw [show putS kind seq body = ([], 22) by unfold putS; rw [if_neg h1, if_pos h2]]
    exact qSc15F17
  rw [show putS kind seq body = (frameB (byteI kind) seq body, 0) by unfold putS; rw [if_neg h1, if_neg h2]]
  have hw : IntKind.u64.wrap seq = seq := wrap_u64_in (by omega) (by omega)
  have hn : inr .u64 seq := inr_u64.2 ⟨by omega, by omega⟩
  have hlw : IntKind.u64.wrap (body.length : Int) = body.length := wrap_u64_in (by omega) (by omega)
  have hln : inr .u64 (body.length : Int) := inr_u64.2 ⟨by omega, by omega⟩
  have hk := byteI_at kind
  have hk2 := (A.int.inj hk).2
  have h4 : ((numS body.length).take 4).length = 4 := by rw [List.length_take, numS_length]; rfl
  have hfl := frameB_len (byteI kind) seq body
  have hmk := markS_len (byteI kind) seq body
  have hb0 := byteI_at (body.length : Int)
  have hd8 := byteI_at ((body.length : Int) / 256)
  have hd16 := byteI_at ((body.length : Int) / 65536)
  have hd24 := byteI_at ((body.length : Int) / 16777216)
  have s8 : shrI .i64 (body.length : Int) 8 = (body.length : Int) / 256 := shr_i64 8 _
  have s16 : shrI .i64 (body.length : Int) 16 = (body.length : Int) / 65536 := shr_i64 16 _
  have s24 : shrI .i64 (body.length : Int) 24 = (body.length : Int) / 16777216 := shr_i64 24 _
  have hcat : ∀ n, n ≤ 21 + body.length → ∀ i, i < n → (catF (5 + 8 + body.length) (catF (5 + 8) (catF 5 (listF (A.int .u8 0) (fillL (repl (A.int .u8 0) 5) [(0, A.int .u8 (IntKind.u8.wrap (body.length : Int))), (1, A.int .u8 (IntKind.u8.wrap (shrI .i64 (body.length : Int) 8))), (2, A.int .u8 (IntKind.u8.wrap (shrI .i64 (body.length : Int) 16))), (3, A.int .u8 (IntKind.u8.wrap (shrI .i64 (body.length : Int) 24))), (4, A.int .u8 (IntKind.u8.wrap kind))])) (byteAt (numS seq))) (byteAt body)) (byteAt (markS (byteI kind) seq body)) i).sim (byteAt (frameB (byteI kind) seq body) i) := fun n hn i hi => by
    rw [s8, s16, s24, hb0, hd8, hd16, hd24, hk]
    have e : frameB (byteI kind) seq body = (([byteI (body.length : Int), byteI ((body.length : Int) / 256), byteI ((body.length : Int) / 65536), byteI ((body.length : Int) / 16777216), byteI kind] ++ numS seq) ++ body) ++ markS (byteI kind) seq body := by
      unfold frameB
      rw [num4]
      simp
    rw [e]
    have hX1 : [byteI (body.length : Int), byteI ((body.length : Int) / 256), byteI ((body.length : Int) / 65536), byteI ((body.length : Int) / 16777216), byteI kind].length = 5 := rfl
    have hX2 : ∀ i, i < 5 → listF (A.int .u8 0) (fillL (repl (A.int .u8 0) 5) [(0, VX.byte (byteI (body.length : Int))), (1, VX.byte (byteI ((body.length : Int) / 256))), (2, VX.byte (byteI ((body.length : Int) / 65536))), (3, VX.byte (byteI ((body.length : Int) / 16777216))), (4, VX.byte (byteI kind))]) i = byteAt [byteI (body.length : Int), byteI ((body.length : Int) / 256), byteI ((body.length : Int) / 65536), byteI ((body.length : Int) / 16777216), byteI kind] i := fun i hi => by
      match i, hi with
      | 0, _ | 1, _ | 2, _ | 3, _ | 4, _ => rfl
    generalize [byteI (body.length : Int), byteI ((body.length : Int) / 256), byteI ((body.length : Int) / 65536), byteI ((body.length : Int) / 16777216), byteI kind] = X at *
    refine A.sim.of (cat_eq (l := X ++ numS seq ++ body) (m := markS (byteI kind) seq body) (n := 5 + 8 + body.length) ?_ (cat3 hX1 hX2 (numS_length seq)) (fun _ _ => rfl) i (by rw [hmk]; omega))
    rw [List.length_append, List.length_append, hX1, numS_length]
  refine Does.intro (fn := Try.f35) Try.func35 rfl rfl fun Γ hΓ => ?_
  refine W.run TOK 51 hΓ 1000 ?_
  conv => whnf
  refine ⟨?_, ?_⟩
  repeat' first
    | assumption
    | exact Bool.noConfusion hb
    | exact absurd hb (by decide)
    | (exfalso; omega)
    | (refine W.retA TOK rfl ?_; (conv => whnf); refine ⟨rfl, rfl, rfl, rfl, rfl, rfl, ?_, ?_, ?_⟩)
    | (refine W.branch rfl (fun hb => ?_) (fun hb => ?_) <;> ((try simp only [qhb, addI, reduceCtorEq, Int.reduceToNat] at hb); (try replace hb := of_decide_eq_true hb); (try replace hb := of_decide_eq_false hb)))
    | (refine W.callA (rnum_does seq hn) rfl rfl rfl rfl hΓ rfl ?_; (conv => whnf); refine ⟨rfl, rfl, ?_, ?_, ?_, ?_⟩; iterate 3 exact qSc15F4; (conv => whnf))
    | (refine W.callA (fmark_does kind seq body (by omega) (by omega) hb9) rfl rfl rfl rfl hΓ rfl ?_; (conv => whnf); refine ⟨rfl, rfl, ?_, ?_, ?_, ?_⟩; iterate 3 exact qSc15F4; (conv => whnf))
    | (refine W.go TOK 51 hΓ 1000 rfl ?_; (conv => whnf); refine ⟨?_, ?_⟩)
  all_goals (repeat' apply And.intro)
  all_goals try first | exact qcl0 | exact hcat _ (by rw [hfl]; exact Nat.le_refl _) | exact qsm0

def Tr : Tab := { l := tabL, frz := [18] }
theorem TrOK : TabOK Try.prog Tr.l := tabOK
theorem read_does (b : List UInt8) (hb9 : b.length ≤ 1000000000) : Does Try.prog 36 [bytesA b] [] [1] (Is (.tup [.int .i64 (readS b).1, .int .i64 (readS b).2.1, .own 1 1 0 (readS b).2.2.1.length, .int .i64 (readS b).2.2.2.1, .int .i64 (readS b).2.2.2.2]) [(1, some (.arr 1 (readS b).2.2.1.length (byteAt (readS b).2.2.1)))]) := by
  by_cases h13 : b.length < 13
  · rw [show readS b = frE 21 from if_pos h13]
    refine Does.intro (fn := Try.f36) Try.func36 rfl rfl fun Γ hΓ => ?_
    refine W.run TrOK 74 hΓ 1000 ?_
    conv => whnf
    refine ⟨?_, ?_⟩
    repeat' first
      | assumption
      | exact Bool.noConfusion hb
      | exact absurd hb (by decide)
      | (exfalso; omega)
      | (refine W.retA TrOK rfl ?_; (conv => whnf); refine ⟨rfl, rfl, rfl, rfl, rfl, rfl, ?_, ?_, ?_⟩)
      | ((first | refine W.branch rfl (fun hb => ?_) (fun hb => ?_) | refine D.branch rfl (fun hb => ?_) (fun hb => ?_)) <;> ((try simp only [qhb, addI, reduceCtorEq, Int.reduceToNat] at hb); (try replace hb := of_decide_eq_true hb); (try replace hb := of_decide_eq_false hb)))
      | (refine W.go TrOK 74 hΓ 1000 rfl ?_; (conv => whnf); refine ⟨?_, ?_⟩)
      | (refine D.go TrOK 74 hΓ 1000 rfl ?_; (conv => whnf); refine ⟨?_, ?_⟩)
      | (refine W.drawn rfl rfl ?_; refine D.run TrOK 74 hΓ 1000 ?_; (conv => whnf); refine ⟨?_, ?_⟩)
    all_goals (repeat' apply And.intro)
    all_goals try exact qcs0
  have hn := rdN_lt b
  have hq := rdQ_lt b
  have hk8 := (b.getD 4 0).toNat_lt
  have h4 : (b.take 4).length = 4 := by rw [List.length_take]; omega
  have hQ8 : ((b.drop 5).take 8).length = 8 := by rw [List.length_take, List.length_drop]; omega
  have hnw : IntKind.i64.wrap (rdN b : Int) = rdN b := wrap_i64_in (by omega) (by omega)
  have hq1 : IntKind.u64.wrap (rdQ b : Int) = rdQ b := wrap_u64_in (by omega) (by omega)
  have hX : (b.take 4 ++ [0, 0, 0, 0]).length = 8 := by rw [List.length_append, h4]; rfl
  have c1 := clone_does (b.take 4) (by omega)
  have c2 := new_does (b.take 4 ++ [0, 0, 0, 0]) (by omega)
  have c3 := getn_does (b.take 4 ++ [0, 0, 0, 0]) 0 (by omega)
  rw [numR_8 _ hX, show leN (b.take 4 ++ [0, 0, 0, 0]) = rdN b from leN_zeros _ 4] at c3
  have c4 := new_does ((b.drop 5).take 8) (by omega)
  have c5 := getn_does ((b.drop 5).take 8) 0 (by omega)
  rw [numR_8 _ hQ8] at c5
  dsimp only [Rd.o] at c3 c5
  rw [show leN ((b.drop 5).take 8) = rdQ b from rfl] at c5
  have hcat : ∀ n, n = (b.take 4).length → ∀ m, m ≤ 8 → ∀ i, i < m → (catF n (byteAt (b.take 4)) (shiftF 0 (listF (A.int .u8 0) (fillL (repl (A.int .u8 0) 4) [(0, A.int .u8 0), (1, A.int .u8 0), (2, A.int .u8 0), (3, A.int .u8 0)]))) i).sim (byteAt (b.take 4 ++ [0, 0, 0, 0]) i) := fun n hn m hm i hi => by
    refine cat_sim hn (fun _ _ => rfl) (fun i hi => ?_) (by rw [hn, h4]; show i < 4 + 4; omega)
    match i, hi with
    | 0, _ | 1, _ | 2, _ | 3, _ => rfl
  have h4e : 4 = (b.take 4).length := h4.symm
  have hX4 : (b.take 4).length + 4 = (b.take 4 ++ [0, 0, 0, 0]).length := by rw [hX, h4]
  have hXle : (b.take 4).length + 4 ≤ 8 := by omega
  have hs8 : ∀ i, i < 8 → (shiftF 5 (byteAt b) i).sim (byteAt ((b.drop 5).take 8) i) := sub_sim rfl (Nat.le_refl _)
  by_cases h20 : 4096 < rdN b ∨ (b.getD 4 0).toNat = 0 ∨ 9223372036854775807 < rdQ b
  · rw [show readS b = frE 20 from (if_neg h13).trans (if_pos h20)]
    exact qSc15F15
  by_cases h21 : b.length < 21 + rdN b
  · rw [show readS b = frE 21 from (if_neg h13).trans ((if_neg h20).trans (if_pos h21))]
    exact qSc15F15
  have hqw : IntKind.i64.wrap (rdQ b : Int) = rdQ b := wrap_i64_in (by omega) (by omega)
  have hbl : ((b.drop 13).take (rdN b)).length = rdN b := by rw [List.length_take, List.length_drop]; omega
  have hml : ((b.drop (13 + rdN b)).take 8).length = 8 := by rw [List.length_take, List.length_drop]; omega
  by_cases h24 : markS (rdK b) (rdQ b) ((b.drop 13).take (rdN b)) ≠ (b.drop (13 + rdN b)).take 8
  · rw [show readS b = frE 24 from (if_neg h13).trans ((if_neg h20).trans ((if_neg h21).trans (if_pos h24)))]
    have heq := equal_does ((b.drop (13 + rdN b)).take 8) (markS (rdK b) (rdQ b) ((b.drop 13).take (rdN b)))
    rw [decide_eq_false (fun h => h24 h.symm)] at heq
    exact qSc15F13
  rw [show readS b = ((((rdK b).toNat : Nat) : Int), ((rdQ b : Nat) : Int), (b.drop 13).take (rdN b), ((21 + rdN b : Nat) : Int), 0) from (if_neg h13).trans ((if_neg h20).trans ((if_neg h21).trans (if_neg h24)))]
  have heq := equal_does ((b.drop (13 + rdN b)).take 8) (markS (rdK b) (rdQ b) ((b.drop 13).take (rdN b)))
  rw [decide_eq_true (Classical.not_not.1 h24).symm] at heq
  exact qSc15F13

def Ts4 : Tab := { l := tabL, stop := [4] }
theorem Ts4OK : TabOK Try.prog Ts4.l := tabOK
theorem rread_does (b : List UInt8) (hb9 : b.length ≤ 1000000000) : Does Try.prog 25 [bytesA b] [] [] (Is (.tup [.int .i64 (readS b).1, .int .i64 (readS b).2.1, bytesA (readS b).2.2.1, .int .i64 (readS b).2.2.2.1, .int .i64 (readS b).2.2.2.2]) []) := by
  by_cases h13 : b.length < 13
  · rw [show readS b = frE 21 from if_pos h13]
    refine Does.intro (fn := Try.f25) Try.func25 rfl rfl fun Γ hΓ => ?_
    refine W.run TOK 83 hΓ 1000 ?_
    conv => whnf
    refine ⟨?_, ?_⟩
    repeat' first
      | assumption
      | exact Bool.noConfusion hb
      | exact absurd hb (by decide)
      | (exfalso; omega)
      | (refine W.retA TOK rfl ?_; (conv => whnf); refine ⟨rfl, rfl, rfl, rfl, rfl, rfl, ?_, ?_, ?_⟩)
      | ((first | refine W.branch rfl (fun hb => ?_) (fun hb => ?_) | refine D.branch rfl (fun hb => ?_) (fun hb => ?_)) <;> ((try simp only [qhb, addI, reduceCtorEq, Int.reduceToNat] at hb); (try replace hb := of_decide_eq_true hb); (try replace hb := of_decide_eq_false hb)))
      | (refine W.go TOK 83 hΓ 1000 rfl ?_; (conv => whnf); refine ⟨?_, ?_⟩)
      | (refine D.go TOK 83 hΓ 1000 rfl ?_; (conv => whnf); refine ⟨?_, ?_⟩)
      | (refine W.drawn rfl rfl ?_; refine D.run TOK 83 hΓ 1000 ?_; (conv => whnf); refine ⟨?_, ?_⟩)
    all_goals (repeat' apply And.intro)
    all_goals try exact qcs0
  have hn := rdN_lt b
  have hq := rdQ_lt b
  have hk8 := (b.getD 4 0).toNat_lt
  have h4 : (b.take 4).length = 4 := by rw [List.length_take]; omega
  have hQ8 : ((b.drop 5).take 8).length = 8 := by rw [List.length_take, List.length_drop]; omega
  have hnw : IntKind.i64.wrap (rdN b : Int) = rdN b := wrap_i64_in (by omega) (by omega)
  have hq1 : IntKind.u64.wrap (rdQ b : Int) = rdQ b := wrap_u64_in (by omega) (by omega)
  have hQ7 : rdQ b = leN ((b.drop 5).take 8) := rfl
  have cw := rword_does ((b.drop 5).take 8) hQ8
  rw [← hQ7] at cw
  have hs8 : ∀ i, i < 8 → (shiftF 5 (byteAt b) i).sim (byteAt ((b.drop 5).take 8) i) := sub_sim rfl (Nat.le_refl _)
  have h4b := four_bytes b (by omega)
  have hkw := byte_wrap (b.getD 4 0)
  by_cases h20 : 4096 < rdN b ∨ (b.getD 4 0).toNat = 0 ∨ 9223372036854775807 < rdQ b
  · rw [show readS b = frE 20 from (if_neg h13).trans (if_pos h20)]
    exact qSc15F14
  by_cases h21 : b.length < 21 + rdN b
  · rw [show readS b = frE 21 from (if_neg h13).trans ((if_neg h20).trans (if_pos h21))]
    exact qSc15F14
  have hqw : IntKind.i64.wrap (rdQ b : Int) = rdQ b := wrap_i64_in (by omega) (by omega)
  have hbl : ((b.drop 13).take (rdN b)).length = rdN b := by rw [List.length_take, List.length_drop]; omega
  have hml : ((b.drop (13 + rdN b)).take 8).length = 8 := by rw [List.length_take, List.length_drop]; omega
  by_cases h24 : markS (rdK b) (rdQ b) ((b.drop 13).take (rdN b)) ≠ (b.drop (13 + rdN b)).take 8
  · rw [show readS b = frE 24 from (if_neg h13).trans ((if_neg h20).trans ((if_neg h21).trans (if_pos h24)))]
    have cc := fmark_does (((b.getD 4 0).toNat : Nat) : Int) (rdQ b) ((b.drop 13).take (rdN b)) (by omega) (by omega) (by omega)
    rw [show byteI (((b.getD 4 0).toNat : Nat) : Int) = b.getD 4 0 by unfold byteI; rw [show ((((b.getD 4 0).toNat : Nat) : Int) % 256).toNat = (b.getD 4 0).toNat by omega]; exact UInt8.ofNat_toNat] at cc
    have hmk := markS_len (b.getD 4 0) (rdQ b) ((b.drop 13).take (rdN b))
    have hbs : ∀ i, i < rdN b → (shiftF 13 (byteAt b) i).sim (byteAt ((b.drop 13).take (rdN b)) i) := sub_sim rfl (Nat.le_refl _)
    have l2 : ((13 : Int) + (rdN b : Int)).toNat - (13 : Int).toNat = rdN b := by omega
    have l1 : ((21 : Int) + (rdN b : Int)).toNat - ((13 : Int) + (rdN b : Int)).toNat = 8 := by omega
    have e1 : ((13 : Int) + (rdN b : Int)).toNat = 13 + rdN b := by omega
    have es : (21 : Int) + (rdN b : Int) = ((21 + rdN b : Nat) : Int) := by omega
    have hB1 : bytesOf (markS (b.getD 4 0) (rdQ b) ((b.drop 13).take (rdN b))).length (byteAt (markS (b.getD 4 0) (rdQ b) ((b.drop 13).take (rdN b)))) = markS (b.getD 4 0) (rdQ b) ((b.drop 13).take (rdN b)) := bytes_fun rfl
    have hB2 : bytesOf (((21 : Int) + (rdN b : Int)).toNat - ((13 : Int) + (rdN b : Int)).toNat) (shiftF ((13 : Int) + (rdN b : Int)).toNat (byteAt b)) = (b.drop (13 + rdN b)).take 8 := by
      rw [l1, e1, shift_fun]
      exact bytes_take (by rw [List.length_drop]; omega)
    have hne : ¬ bytesOf (markS (b.getD 4 0) (rdQ b) ((b.drop 13).take (rdN b))).length (byteAt (markS (b.getD 4 0) (rdQ b) ((b.drop 13).take (rdN b)))) = bytesOf (((21 : Int) + (rdN b : Int)).toNat - ((13 : Int) + (rdN b : Int)).toNat) (shiftF ((13 : Int) + (rdN b : Int)).toNat (byteAt b)) := by rw [hB1, hB2]; exact h24
    refine Does.intro (fn := Try.f25) Try.func25 rfl rfl fun Γ hΓ => ?_
    refine W.run Ts4OK 83 hΓ 1000 ?_
    conv => whnf
    refine ⟨?_, ?_⟩
    repeat' first
      | assumption
      | exact Bool.noConfusion hb
      | exact absurd hb (by decide)
      | (exfalso; omega)
      | (refine W.retA Ts4OK rfl ?_; (conv => whnf); refine ⟨rfl, rfl, rfl, rfl, rfl, rfl, ?_, ?_, ?_⟩)
      | ((first | refine W.branch rfl (fun hb => ?_) (fun hb => ?_) | refine D.branch rfl (fun hb => ?_) (fun hb => ?_)) <;> ((try simp only [qhb, addI, reduceCtorEq, Int.reduceToNat] at hb); (try replace hb := of_decide_eq_true hb); (try replace hb := of_decide_eq_false hb)))
      | (refine W.go Ts4OK 83 hΓ 1000 rfl ?_; (conv => whnf); refine ⟨?_, ?_⟩)
      | (refine D.go Ts4OK 83 hΓ 1000 rfl ?_; (conv => whnf); refine ⟨?_, ?_⟩)
      | (refine W.drawn (id := 3) rfl rfl ?_; refine D.run Ts4OK 83 hΓ 1000 ?_; (conv => whnf); refine ⟨?_, ?_⟩)
    all_goals (repeat' apply And.intro)
    all_goals try exact qcs0
    refine W.seeA ([(7, .int .i64 (rdN b : Nat))]) ([]) [11, 12, 13, 14, 15, 16, 17, 18, 19, 20, 21, 22, 23, 24, 25, 26, 27, 28, 29, 30, 31, 32, 33, 34, 35] ?_
    (conv => whnf); refine ⟨?_, ?_⟩; focus ((conv => whnf); refine ⟨rfl, rfl, rfl, rfl, rfl, rfl, ?_, ?_⟩; iterate 2 exact qSc15F8)
    refine W.run TOK 83 hΓ 1000 ?_
    conv => whnf
    refine ⟨?_, ?_⟩
    repeat' first
      | assumption
      | exact Bool.noConfusion hb
      | exact absurd hb (by decide)
      | exact absurd hb hne
      | (exfalso; omega)
      | (refine W.retA TOK rfl ?_; (conv => whnf); refine ⟨rfl, rfl, rfl, rfl, rfl, rfl, ?_, ?_, ?_⟩)
      | ((first | refine W.branch rfl (fun hb => ?_) (fun hb => ?_) | refine D.branch rfl (fun hb => ?_) (fun hb => ?_)) <;> ((try simp only [qhb, addI, reduceCtorEq, Int.reduceToNat] at hb); (try replace hb := of_decide_eq_true hb); (try replace hb := of_decide_eq_false hb)))
      | ((first | (refine D.callA (cw) rfl rfl rfl rfl hΓ rfl ?_; (conv => whnf); refine ⟨rfl, rfl, rfl, ?_, ?_, ?_, ?_⟩) | (refine W.callA (cw) rfl rfl rfl rfl hΓ rfl ?_; (conv => whnf); refine ⟨rfl, rfl, ?_, ?_, ?_, ?_⟩)); iterate 3 exact qSc15F8; (conv => whnf))
      | ((first | (refine D.callA (cc) rfl rfl rfl rfl hΓ rfl ?_; (conv => whnf); refine ⟨rfl, rfl, rfl, ?_, ?_, ?_, ?_⟩) | (refine W.callA (cc) rfl rfl rfl rfl hΓ rfl ?_; (conv => whnf); refine ⟨rfl, rfl, ?_, ?_, ?_, ?_⟩)); iterate 3 exact qSc15F8; (conv => whnf))
      | (refine W.go TOK 83 hΓ 1000 rfl ?_; (conv => whnf); refine ⟨?_, ?_⟩)
      | (refine D.go TOK 83 hΓ 1000 rfl ?_; (conv => whnf); refine ⟨?_, ?_⟩)
      | (refine W.drawn rfl rfl ?_; refine D.run TOK 83 hΓ 1000 ?_; (conv => whnf); refine ⟨?_, ?_⟩)
    all_goals (repeat' apply And.intro)
    all_goals try first | exact qcl0 | exact fun i _ => isInt_shift _ _ i | exact es | exact hqw | exact absurd hb hne | (simp only [allP, List.nil_append, List.append_nil, List.cons_append, List.append_eq, and_true, true_and, inr_i64, inr_u8, inr_u64, min_i64, max_i64, min_u64, max_u64, min_u8, max_u8, A.purePL, A.pureP, A.sureP, A.surePL, Int.toNat_natCast, Int.reduceToNat, addI, cHi, cLo, hiN, loN, subO, addO, hasIdx, cond_true, cond_false, hkw]; first | done | omega | ((repeat' apply And.intro) <;> first | exact trivial | rfl | omega | decide))
  rw [show readS b = ((((rdK b).toNat : Nat) : Int), ((rdQ b : Nat) : Int), (b.drop 13).take (rdN b), ((21 + rdN b : Nat) : Int), 0) from (if_neg h13).trans ((if_neg h20).trans ((if_neg h21).trans (if_neg h24)))]
  have cc := fmark_does (((b.getD 4 0).toNat : Nat) : Int) (rdQ b) ((b.drop 13).take (rdN b)) (by omega) (by omega) (by omega)
  rw [show byteI (((b.getD 4 0).toNat : Nat) : Int) = b.getD 4 0 by unfold byteI; rw [show ((((b.getD 4 0).toNat : Nat) : Int) % 256).toNat = (b.getD 4 0).toNat by omega]; exact UInt8.ofNat_toNat] at cc
  have hmk := markS_len (b.getD 4 0) (rdQ b) ((b.drop 13).take (rdN b))
  have hbs : ∀ i, i < rdN b → (shiftF 13 (byteAt b) i).sim (byteAt ((b.drop 13).take (rdN b)) i) := sub_sim rfl (Nat.le_refl _)
  have l2 : ((13 : Int) + (rdN b : Int)).toNat - (13 : Int).toNat = rdN b := by omega
  have l1 : ((21 : Int) + (rdN b : Int)).toNat - ((13 : Int) + (rdN b : Int)).toNat = 8 := by omega
  have e1 : ((13 : Int) + (rdN b : Int)).toNat = 13 + rdN b := by omega
  have es : (21 : Int) + (rdN b : Int) = ((21 + rdN b : Nat) : Int) := by omega
  have hB1 : bytesOf (markS (b.getD 4 0) (rdQ b) ((b.drop 13).take (rdN b))).length (byteAt (markS (b.getD 4 0) (rdQ b) ((b.drop 13).take (rdN b)))) = markS (b.getD 4 0) (rdQ b) ((b.drop 13).take (rdN b)) := bytes_fun rfl
  have hB2 : bytesOf (((21 : Int) + (rdN b : Int)).toNat - ((13 : Int) + (rdN b : Int)).toNat) (shiftF ((13 : Int) + (rdN b : Int)).toNat (byteAt b)) = (b.drop (13 + rdN b)).take 8 := by
    rw [l1, e1, shift_fun]
    exact bytes_take (by rw [List.length_drop]; omega)
  have hne : bytesOf (markS (b.getD 4 0) (rdQ b) ((b.drop 13).take (rdN b))).length (byteAt (markS (b.getD 4 0) (rdQ b) ((b.drop 13).take (rdN b)))) = bytesOf (((21 : Int) + (rdN b : Int)).toNat - ((13 : Int) + (rdN b : Int)).toNat) (shiftF ((13 : Int) + (rdN b : Int)).toNat (byteAt b)) := by rw [hB1, hB2]; exact Classical.not_not.1 h24
  refine Does.intro (fn := Try.f25) Try.func25 rfl rfl fun Γ hΓ => ?_
  refine W.run Ts4OK 83 hΓ 1000 ?_
  conv => whnf
  refine ⟨?_, ?_⟩
  repeat' first
    | assumption
    | exact Bool.noConfusion hb
    | exact absurd hb (by decide)
    | (exfalso; omega)
    | (refine W.retA Ts4OK rfl ?_; (conv => whnf); refine ⟨rfl, rfl, rfl, rfl, rfl, rfl, ?_, ?_, ?_⟩)
    | ((first | refine W.branch rfl (fun hb => ?_) (fun hb => ?_) | refine D.branch rfl (fun hb => ?_) (fun hb => ?_)) <;> ((try simp only [qhb, addI, reduceCtorEq, Int.reduceToNat] at hb); (try replace hb := of_decide_eq_true hb); (try replace hb := of_decide_eq_false hb)))
    | (refine W.go Ts4OK 83 hΓ 1000 rfl ?_; (conv => whnf); refine ⟨?_, ?_⟩)
    | (refine D.go Ts4OK 83 hΓ 1000 rfl ?_; (conv => whnf); refine ⟨?_, ?_⟩)
    | (refine W.drawn (id := 3) rfl rfl ?_; refine D.run Ts4OK 83 hΓ 1000 ?_; (conv => whnf); refine ⟨?_, ?_⟩)
  all_goals (repeat' apply And.intro)
  all_goals try exact qcs0
  refine W.seeA ([(7, .int .i64 (rdN b : Nat))]) ([]) [11, 12, 13, 14, 15, 16, 17, 18, 19, 20, 21, 22, 23, 24, 25, 26, 27, 28, 29, 30, 31, 32, 33, 34, 35] ?_
  (conv => whnf); refine ⟨?_, ?_⟩; focus ((conv => whnf); refine ⟨rfl, rfl, rfl, rfl, rfl, rfl, ?_, ?_⟩; iterate 2 exact qSc15F8)
  refine W.run TOK 83 hΓ 1000 ?_
  conv => whnf
  refine ⟨?_, ?_⟩
  repeat' first
    | assumption
    | exact Bool.noConfusion hb
    | exact absurd hb (by decide)
    | exact absurd hne hb
    | (exfalso; omega)
    | (refine W.retA TOK rfl ?_; (conv => whnf); refine ⟨rfl, rfl, rfl, rfl, rfl, rfl, ?_, ?_, ?_⟩)
    | ((first | refine W.branch rfl (fun hb => ?_) (fun hb => ?_) | refine D.branch rfl (fun hb => ?_) (fun hb => ?_)) <;> ((try simp only [qhb, addI, reduceCtorEq, Int.reduceToNat] at hb); (try replace hb := of_decide_eq_true hb); (try replace hb := of_decide_eq_false hb)))
    | ((first | (refine D.callA (cw) rfl rfl rfl rfl hΓ rfl ?_; (conv => whnf); refine ⟨rfl, rfl, rfl, ?_, ?_, ?_, ?_⟩) | (refine W.callA (cw) rfl rfl rfl rfl hΓ rfl ?_; (conv => whnf); refine ⟨rfl, rfl, ?_, ?_, ?_, ?_⟩)); iterate 3 exact qSc15F8; (conv => whnf))
    | ((first | (refine D.callA (cc) rfl rfl rfl rfl hΓ rfl ?_; (conv => whnf); refine ⟨rfl, rfl, rfl, ?_, ?_, ?_, ?_⟩) | (refine W.callA (cc) rfl rfl rfl rfl hΓ rfl ?_; (conv => whnf); refine ⟨rfl, rfl, ?_, ?_, ?_, ?_⟩)); iterate 3 exact qSc15F8; (conv => whnf))
    | (refine W.go TOK 83 hΓ 1000 rfl ?_; (conv => whnf); refine ⟨?_, ?_⟩)
    | (refine D.go TOK 83 hΓ 1000 rfl ?_; (conv => whnf); refine ⟨?_, ?_⟩)
    | (refine W.drawn rfl rfl ?_; refine D.run TOK 83 hΓ 1000 ?_; (conv => whnf); refine ⟨?_, ?_⟩)
  all_goals (repeat' apply And.intro)
  all_goals try first | exact qcl0 | exact fun i _ => isInt_shift _ _ i | exact es | exact hqw | exact l2.trans hbl.symm | (show _ ≤ ((b.drop 13).take (rdN b)).length; rw [hbl]; exact Nat.le_refl _) | (intro i hi; exact hbs i (Nat.lt_of_lt_of_le hi (Nat.le_of_eq l2))) | (simp only [allP, List.nil_append, List.append_nil, List.cons_append, List.append_eq, and_true, true_and, inr_i64, inr_u8, inr_u64, min_i64, max_i64, min_u64, max_u64, min_u8, max_u8, A.purePL, A.pureP, A.sureP, A.surePL, Int.toNat_natCast, Int.reduceToNat, addI, cHi, cLo, hiN, loN, subO, addO, hasIdx, cond_true, cond_false, hkw]; first | done | omega | ((repeat' apply And.intro) <;> first | exact trivial | rfl | omega | decide))

end Go.Proofs.Ytcolghonbncpnaa
