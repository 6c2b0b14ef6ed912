/- Walk: JournalReads. -/
import Derived.Test.YtpgjheokcdpgjaaJo14i
import Derived.Test.YtpgjheokcdpgjaaJo14c
import Derived.Test.YtpgjheokcdpgjaaJo14u
import Derived.Test.YtpgjheokcdpgjaaJo14T
import Derived.Test.YtpgjheokcdpgjaaPlB
import Derived.Test.YtpgjheokcdpgjaaVxI
set_option linter.unusedSimpArgs false
set_option linter.unusedVariables false
namespace Go.Proofs.Ytpgjheokcdpgjaa
open VX
set_option maxRecDepth 100000
set_option maxHeartbeats 4000000
theorem qJo14r1 {P : Prop} (h : P := by (focus ((repeat' apply And.intro) <;> first | exact qlf0 | exact ⟨rfl, rfl, rfl⟩ | exact ⟨rfl, rfl, rfl, rfl, ⟨rfl, rfl⟩⟩ | ((repeat' apply And.intro) <;> rfl)))) : P := h
theorem qJo14r2 {P : Prop} (h : P := by (focus ((repeat' apply And.intro) <;> first | exact qlf0 | exact sim5a (A.sim.refl _) (sim_roB hB0.symm (fun _ h => absurd h (Nat.not_lt_zero _))) (sim_roB hC0.symm (fun _ h => absurd h (Nat.not_lt_zero _))) (sim_roB rfl (fun _ _ => A.sim.refl _)) A.sim.nil0))) : P := h
theorem qJo14r3 {P : Prop} (h : P := by (focus ((repeat' apply And.intro) <;> first | exact qlf0 | exact ⟨rfl, rfl, rfl⟩ | exact ⟨rfl, rfl, rfl, rfl, ⟨rfl, rfl⟩⟩ | ((repeat' apply And.intro) <;> rfl) | (intro i hi; have h0 : i = 0 := (by omega); subst h0; exact A.sim.refl _)))) : P := h
theorem qJo14r4 {P : Prop} (h : P := by (focus ((repeat' apply And.intro) <;> first | exact qlf0 | exact hcat _))) : P := h
theorem qJo14r5 {P : Prop} (h : P := by (focus ((repeat' apply And.intro) <;> first | exact qlf0 | (rw [hE1]; exact hset1 _ (Nat.le_of_eq hs1.symm)) | exact hs1 | exact hs1.symm | exact Nat.le_of_eq hs1.symm))) : P := h
theorem qJo14r6 {P : Prop} (h : P := by (focus ((repeat' apply And.intro) <;> first | exact qlf0 | exact hl8 | exact hl8.symm | exact Nat.le_of_eq hl8.symm | exact hsb2 _ (Nat.le_of_eq hlb) | (intro j hj; exact hsb j (Nat.lt_of_lt_of_le hj (Nat.le_of_eq hlb)))))) : P := h
theorem qJo14r7 {P : Prop} (h : P := by (focus ((repeat' apply And.intro) <;> first | exact qlf0 | (rw [hE2]; exact hset2 _ (Nat.le_of_eq hs2.symm)) | exact hs2 | exact hs2.symm | exact Nat.le_of_eq hs2.symm))) : P := h
theorem qJo14r8 {P : Prop} (h : P := by (focus ((repeat' apply And.intro) <;> first | exact qlf0 | exact ⟨rfl, rfl, rfl⟩ | exact ⟨rfl, rfl, rfl, rfl, ⟨rfl, rfl⟩⟩ | ((repeat' apply And.intro) <;> rfl) | exact wk1))) : P := h
theorem qJo14r9 {P : Prop} (h : P := by (focus ((repeat' apply And.intro) <;> first | exact qlf0 | exact sim5a (A.sim.refl _) (sim_roB rfl (fun _ _ => A.sim.refl _)) (sim_roB rfl (fun _ _ => A.sim.refl _)) (sim_roB rfl (fun _ _ => A.sim.refl _)) (sim_roB rfl (fun _ _ => A.sim.refl _))))) : P := h
theorem qJo14r10 {P : Prop} (h : P := by
  clear ihc
  repeat' first
    | assumption
    | exact Bool.noConfusion hb
    | exact absurd hb (by decide)
    | (exfalso; omega)
    | (exfalso; simp at hb; done)
    | (refine W.retY TOK rfl rfl ⟨?_, ?_⟩)
    | (refine W.branch rfl (fun hb => ?_) (fun hb => ?_) <;> ((try simp only [qhb, addI, reduceCtorEq, Int.reduceToNat] at hb); (try replace hb := of_decide_eq_true hb); (try replace hb := of_decide_eq_false hb)))
    | (refine W.go TOK 143 hΓ 1000 rfl ?_; (conv => whnf); refine ⟨?_, ?_⟩)
  all_goals (repeat' apply And.intro)
  all_goals try exact qcs0) : P := h
def Tr9 : Tab := { l := tabL, stop := [9] }
theorem Tr9OK : TabOK Try.prog Tr9.l := tabOK
def Tr14 : Tab := { l := tabL, stop := [14] }
theorem Tr14OK : TabOK Try.prog Tr14.l := tabOK
def Tr15 : Tab := { l := tabL, stop := [15] }
theorem Tr15OK : TabOK Try.prog Tr15.l := tabOK
def Trf : Tab := { l := tabL, frz := [108] }
theorem TrfOK : TabOK Try.prog Trf.l := tabOK
def Tr7 : Tab := { l := tabL, stop := [7] }
theorem Tr7OK : TabOK Try.prog Tr7.l := tabOK
def Tr13 : Tab := { l := tabL, stop := [13] }
theorem Tr13OK : TabOK Try.prog Tr13.l := tabOK
theorem jreads_does (raw : List UInt8) (kind seq : Int) (k a : UInt8) (at_ : Int) (x : UInt8) (hk9 : inr .i64 kind) (hs9 : inr .i64 seq) (ha9 : inr .u16 at_) : Does Try.prog 4 [bytesA raw, .int .i64 kind, .int .i64 seq, VX.byte k, VX.byte a, .int .u16 at_, VX.byte x] [] [] Yes := by
  have ck := known_does
  by_cases h200 : 200 < raw.length
  · refine Does.intro (fn := Try.f4) Try.func4 rfl rfl fun Γ hΓ => ?_
    refine W.run TOK 143 hΓ 1000 ?_
    conv => whnf
    refine ⟨?_, ?_⟩
    repeat' first
      | assumption
      | exact Bool.noConfusion hb
      | exact absurd hb (by decide)
      | (exfalso; omega)
      | (exfalso; simp at hb; done)
      | (refine W.retY TOK rfl rfl ⟨?_, ?_⟩)
      | (refine W.branch rfl (fun hb => ?_) (fun hb => ?_) <;> ((try simp only [qhb, addI, reduceCtorEq, Int.reduceToNat] at hb); (try replace hb := of_decide_eq_true hb); (try replace hb := of_decide_eq_false hb)))
      | (refine W.callA (ck) rfl rfl rfl rfl hΓ rfl ?_; (conv => whnf); refine ⟨rfl, rfl, ?_, ?_, ?_, ?_⟩; iterate 3 exact qlf1; (conv => whnf))
      | (refine W.go TOK 143 hΓ 1000 rfl ?_; (conv => whnf); refine ⟨?_, ?_⟩)
    all_goals (repeat' apply And.intro)
    all_goals try exact qcs0
  have hk8 := k.toNat_lt
  have ha8 := a.toNat_lt
  have cn := name_does a
  have hnl := nameS_len a
  have cu := sup_does (nameS a) 1 (a.toNat : Int) 0 (by omega) (by decide) (inr_u8.2 ⟨by omega, by omega⟩) (inr_u8.2 ⟨by decide, by decide⟩)
  have hu := (updN_ok (s := nameS a) (v := 1) (c := (a.toNat : Int)) (h := 0) (by decide)).1
  generalize updN (nameS a) 1 (a.toNat : Int) 0 = u at cu hu
  have cs := some_does (k.toNat : Int) (a.toNat : Int) seq u (by omega) (by omega)
  have hso := someS_ok (k := (k.toNat : Int)) (a := (a.toNat : Int)) (q := seq) (by omega) (by omega) hu
  generalize someS (k.toNat : Int) (a.toNat : Int) seq u = r at cs hso
  have cp := rjput_does r hso
  have hq9 : 0 ≤ bitsI .and .i64 seq 255 ∧ bitsI .and .i64 seq 255 ≤ 255 := and_small seq 255 (by decide)
  have hk7 : 0 ≤ bitsI .and .i64 kind 7 ∧ bitsI .and .i64 kind 7 ≤ 7 := and_small kind 7 (by decide)
  have cd := rput_does (bitsI .and .i64 kind 7) (bitsI .and .i64 seq 255) raw (i64_s (by omega)) (i64_s (by omega)) (by omega)
  have hD : (putS (bitsI .and .i64 kind 7) (bitsI .and .i64 seq 255) raw).1.length ≤ 5000 := putS_len _ _ _
  generalize putS (bitsI .and .i64 kind 7) (bitsI .and .i64 seq 255) raw = Dp at cd hD
  obtain ⟨D, ed⟩ := Dp
  simp only at cd hD
  have hBl := jput_len r
  generalize hnm : nameS a = nm at *
  cases hr : rightS r with
  | false =>
    rw [show jputS r = ([], 23) by unfold jputS; rw [hr]; rfl] at cp
    simp only [List.length_nil] at cp
    obtain ⟨B9, hB9⟩ : ∃ B9 : List UInt8, B9 = [] := ⟨_, rfl⟩
    obtain ⟨C9, hC9⟩ : ∃ C9 : List UInt8, C9 = [] := ⟨_, rfl⟩
    have hB0 : B9.length = 0 := by rw [hB9]; rfl
    have hC0 : C9.length = 0 := by rw [hC9]; rfl
    refine Does.intro (fn := Try.f4) Try.func4 rfl rfl fun Γ hΓ => ?_
    refine W.run Tr15OK 143 hΓ 1000 ?_
    conv => whnf
    refine ⟨?_, ?_⟩
    repeat' first
      | assumption
      | exact Bool.noConfusion hb
      | exact absurd hb (by decide)
      | (exfalso; omega)
      | (exfalso; simp at hb; done)
      | (refine W.retY Tr15OK rfl rfl ⟨?_, ?_⟩)
      | (refine W.branch rfl (fun hb => ?_) (fun hb => ?_) <;> ((try simp only [qhb, addI, reduceCtorEq, Int.reduceToNat] at hb); (try replace hb := of_decide_eq_true hb); (try replace hb := of_decide_eq_false hb)))
      | (refine W.callA (ck) rfl rfl rfl rfl hΓ rfl ?_; (conv => whnf); refine ⟨rfl, rfl, ?_, ?_, ?_, ?_⟩; iterate 3 exact qJo14r1; (conv => whnf))
      | (refine W.callA (cn) rfl rfl rfl rfl hΓ rfl ?_; (conv => whnf); refine ⟨rfl, rfl, ?_, ?_, ?_, ?_⟩; iterate 3 exact qJo14r1; (conv => whnf))
      | (refine W.callA (cu) rfl rfl rfl rfl hΓ rfl ?_; (conv => whnf); refine ⟨rfl, rfl, ?_, ?_, ?_, ?_⟩; iterate 3 exact qJo14r1; (conv => whnf))
      | (refine W.callA (cs) rfl rfl rfl rfl hΓ rfl ?_; (conv => whnf); refine ⟨rfl, rfl, ?_, ?_, ?_, ?_⟩; iterate 3 exact qJo14r1; (conv => whnf))
      | (refine W.callA (cp) rfl rfl rfl rfl hΓ rfl ?_; (conv => whnf); refine ⟨rfl, rfl, ?_, ?_, ?_, ?_⟩; iterate 3 exact qJo14r1; (conv => whnf))
      | (refine W.callA (cd) rfl rfl rfl rfl hΓ rfl ?_; (conv => whnf); refine ⟨rfl, rfl, ?_, ?_, ?_, ?_⟩; iterate 3 exact qJo14r1; (conv => whnf))
      | (refine W.go Tr15OK 143 hΓ 1000 rfl ?_; (conv => whnf); refine ⟨?_, ?_⟩)
    all_goals (repeat' apply And.intro)
    all_goals try exact qcs0
    refine W.cutA [0, 14, 15, 17, 18, 20] [600, 48, 601] ?_
    (conv => whnf); refine ⟨?_, ?_⟩; focus ((conv => whnf); refine ⟨rfl, rfl, rfl, rfl, rfl, rfl, ?_, ?_⟩; iterate 2 exact qlf1)
    refine W.run TrfOK 143 hΓ 1000 ?_
    conv => whnf
    refine ⟨?_, ?_⟩
    repeat' first
      | assumption
      | exact Bool.noConfusion hb
      | exact absurd hb (by decide)
      | (exfalso; omega)
      | (refine W.branch rfl (fun hb => ?_) (fun hb => ?_) <;> ((try simp only [qhb, addI, reduceCtorEq, Int.reduceToNat] at hb); (try replace hb := of_decide_eq_true hb); (try replace hb := of_decide_eq_false hb)))
      | (refine W.go TrfOK 143 hΓ 1000 rfl ?_; (conv => whnf); refine ⟨?_, ?_⟩)
    all_goals (repeat' apply And.intro)
    all_goals try exact qcs0
    refine W.loopA (Nat) (fun c => c ≤ 5) (fun c => 5 - c) (fun c => [(108, sl 1 bytesA [raw, B9, C9, D, []]), (110, .int .i64 (c : Nat))]) (fun _ => []) [] (0) (by decide) ?_
    (conv => whnf); refine ⟨?_, ?_⟩; focus ((conv => whnf); refine ⟨rfl, rfl, rfl, rfl, rfl, rfl, ?_, ?_⟩; iterate 2 exact qJo14r2)
    rintro c hc ihc
    have hZS : ∀ z ∈ [raw, B9, C9, D, []], z.length ≤ 1000000000 := fun z hz => by
      simp only [List.mem_cons, List.not_mem_nil, or_false] at hz
      rcases hz with rfl | rfl | rfl | rfl | rfl <;> first | omega | exact Nat.zero_le _
    have hZl : ([raw, B9, C9, D, []] : List (List UInt8)).length = 5 := rfl
    generalize ([raw, B9, C9, D, []] : List (List UInt8)) = ZS at hZS hZl ihc ⊢
    by_cases hlc : c < 5
    rotate_left
    · exact qJo14r10
    have hZ : (ZS.getD c default).length ≤ 1000000000 := hZS _ (HP.at_mem (by omega))
    have r1 := jread_does (ZS.getD c default) hZ
    have r2 := rjread_does (ZS.getD c default) hZ
    have r3 := records_does (jreadS (ZS.getD c default)).1
    generalize jreadS (ZS.getD c default) = R at r1 r2 r3
    have ih2 := ihc (c + 1) (by omega) (by omega)
    clear ihc
    repeat' first
      | assumption
      | exact Bool.noConfusion hb
      | exact absurd hb (by decide)
      | (exfalso; omega)
      | exact absurd rfl hb
      | (exfalso; simp at hb; done)
      | (refine W.toA (ih2) ?_; rotate_left 0; (conv => whnf); refine ⟨rfl, rfl, rfl, rfl, rfl, rfl, ?_, ?_⟩; iterate 2 exact qJo14r3)
      | (refine W.retY TOK rfl rfl ⟨?_, ?_⟩)
      | (refine W.branch rfl (fun hb => ?_) (fun hb => ?_) <;> ((try simp only [qhb, addI, reduceCtorEq, Int.reduceToNat] at hb); (try replace hb := of_decide_eq_true hb); (try replace hb := of_decide_eq_false hb)))
      | (refine W.callA (r1) rfl rfl rfl rfl hΓ rfl ?_; (conv => whnf); refine ⟨rfl, rfl, ?_, ?_, ?_, ?_⟩; iterate 3 exact qJo14r3; (conv => whnf))
      | (refine W.callA (r2) rfl rfl rfl rfl hΓ rfl ?_; (conv => whnf); refine ⟨rfl, rfl, ?_, ?_, ?_, ?_⟩; iterate 3 exact qJo14r3; (conv => whnf))
      | (refine W.callA (r3) rfl rfl rfl rfl hΓ rfl ?_; (conv => whnf); refine ⟨rfl, rfl, ?_, ?_, ?_, ?_⟩; iterate 3 exact qJo14r3; (conv => whnf))
      | (refine W.go TOK 143 hΓ 1000 rfl ?_; (conv => whnf); refine ⟨?_, ?_⟩)
    all_goals (repeat' apply And.intro)
    all_goals try exact qcs0
  | true =>
    have hb8 := body_ge hr
    have hb9 := body_len hr
    rw [show jputS r = (frameB (byteI r.kind) r.seq (bodyS r), 0) by unfold jputS; rw [if_pos hr, jput_eq hr]] at cp
    have hBl2 : (frameB (byteI r.kind) r.seq (bodyS r)).length = 21 + (bodyS r).length := frameB_len _ _ _
    generalize frameB (byteI r.kind) r.seq (bodyS r) = B9 at cp hBl2
    simp only at cp
    have hB9 : 29 ≤ B9.length ∧ B9.length ≤ 109 := by omega
    clear hBl2 hBl hb8 hb9
    have haq : 0 ≤ at_ ∧ at_ ≤ 65535 := ha9
    have haw : IntKind.i64.wrap at_ = at_ := wrap_i64_in (by omega) (by omega)
    have hcat : ∀ n : Nat, ∀ j, j < n → (shiftF 0 (byteAt B9) j).sim (byteAt B9 j) := fun n j _ => by rw [shift_fun, List.drop_zero]; exact .refl _
    refine Does.intro (fn := Try.f4) Try.func4 rfl rfl fun Γ hΓ => ?_
    refine W.run Tr7OK 143 hΓ 1000 ?_
    conv => whnf
    refine ⟨?_, ?_⟩
    repeat' first
      | assumption
      | exact Bool.noConfusion hb
      | exact absurd hb (by decide)
      | (exfalso; omega)
      | (exfalso; simp at hb; done)
      | (refine W.retY Tr7OK rfl rfl ⟨?_, ?_⟩)
      | (refine W.branch rfl (fun hb => ?_) (fun hb => ?_) <;> ((try simp only [qhb, addI, reduceCtorEq, Int.reduceToNat] at hb); (try replace hb := of_decide_eq_true hb); (try replace hb := of_decide_eq_false hb)))
      | (refine W.callA (ck) rfl rfl rfl rfl hΓ rfl ?_; (conv => whnf); refine ⟨rfl, rfl, ?_, ?_, ?_, ?_⟩; iterate 3 exact qJo14r1; (conv => whnf))
      | (refine W.callA (cn) rfl rfl rfl rfl hΓ rfl ?_; (conv => whnf); refine ⟨rfl, rfl, ?_, ?_, ?_, ?_⟩; iterate 3 exact qJo14r1; (conv => whnf))
      | (refine W.callA (cu) rfl rfl rfl rfl hΓ rfl ?_; (conv => whnf); refine ⟨rfl, rfl, ?_, ?_, ?_, ?_⟩; iterate 3 exact qJo14r1; (conv => whnf))
      | (refine W.callA (cs) rfl rfl rfl rfl hΓ rfl ?_; (conv => whnf); refine ⟨rfl, rfl, ?_, ?_, ?_, ?_⟩; iterate 3 exact qJo14r1; (conv => whnf))
      | (refine W.callA (cp) rfl rfl rfl rfl hΓ rfl ?_; (conv => whnf); refine ⟨rfl, rfl, ?_, ?_, ?_, ?_⟩; iterate 3 exact qJo14r1; (conv => whnf))
      | (refine W.go Tr7OK 143 hΓ 1000 rfl ?_; (conv => whnf); refine ⟨?_, ?_⟩)
    all_goals (repeat' apply And.intro)
    all_goals try exact qcs0
    refine W.seeA ([(17, .own 1 504 0 B9.length)]) ([(504, some (.arr 1 B9.length (byteAt B9)))]) [30, 31, 32, 33, 34, 35, 36, 37, 38, 39, 40, 41, 42, 43, 44, 45, 46, 47, 48, 49, 50, 51] ?_
    (conv => whnf); refine ⟨?_, ?_⟩; focus ((conv => whnf); refine ⟨rfl, rfl, rfl, rfl, rfl, rfl, ?_, ?_⟩; iterate 2 exact qJo14r4)
    obtain ⟨i1, hi1⟩ : ∃ i0 : Nat, (i0 : Int) = at_ % (B9.length : Int) := ⟨(at_ % (B9.length : Int)).toNat, by have := Int.emod_nonneg at_ (show (B9.length : Int) ≠ 0 by omega); omega⟩
    have hj1 : (i1 : Int) < (B9.length : Int) := by rw [hi1]; exact Int.emod_lt_of_pos _ (by omega)
    have hE1 : IntKind.i64.wrap at_ % (B9.length : Int) = (i1 : Int) := by rw [haw, hi1]
    obtain ⟨v1, hv1⟩ := byte_ex (inr_bits .xor .u8 ((B9.getD i1 0).toNat : Int) (x.toNat : Int))
    have hset1 : ∀ n, n ≤ B9.length → ∀ i, i < n → (setF (byteAt B9) i1 (A.int .u8 (bitsI .xor .u8 ((B9.getD i1 0).toNat : Int) (x.toNat : Int))) i).sim (byteAt (B9.set i1 v1) i) := fun n hn => by rw [hv1]; exact set_sim B9 i1 v1 hn
    have hs1 : B9.length = (B9.set i1 v1).length := by simp
    repeat' first
      | assumption
      | exact Bool.noConfusion hb
      | exact absurd hb (by decide)
      | (exfalso; omega)
      | (exfalso; simp at hb; done)
      | (refine W.retY Tr9OK rfl rfl ⟨?_, ?_⟩)
      | (refine W.branch rfl (fun hb => ?_) (fun hb => ?_) <;> ((try simp only [qhb, addI, reduceCtorEq, Int.reduceToNat] at hb); (try replace hb := of_decide_eq_true hb); (try replace hb := of_decide_eq_false hb)))
      | (refine W.go Tr9OK 143 hΓ 1000 rfl ?_; (conv => whnf); refine ⟨?_, ?_⟩)
    all_goals (repeat' apply And.intro)
    all_goals try exact qcs0
    refine W.seeA ([(17, .own 1 505 0 (B9.set i1 v1).length)]) ([(505, some (.arr 1 (B9.set i1 v1).length (byteAt (B9.set i1 v1))))]) [50, 51, 52, 53, 54, 55, 56, 57, 58, 59, 60, 61, 62, 63] ?_
    (conv => whnf); refine ⟨?_, ?_⟩; focus ((conv => whnf); refine ⟨rfl, rfl, rfl, rfl, rfl, rfl, ?_, ?_⟩; iterate 2 exact qJo14r5)
    have hC9l : (B9.set i1 v1).length ≤ 109 := by rw [← hs1]; omega
    generalize B9.set i1 v1 = C9 at *
    have hlb : ((B9.drop 13).take (B9.length - 21)).length = B9.length - 21 := by rw [List.length_take, List.length_drop]; omega
    have hl8 : ((B9.length : Int) - 8).toNat - 13 = ((B9.drop 13).take (B9.length - 21)).length := by rw [hlb]; omega
    have hsb : ∀ j, j < B9.length - 21 → (shiftF 13 (byteAt B9) j).sim (byteAt ((B9.drop 13).take (B9.length - 21)) j) := sub_sim rfl (Nat.le_refl _)
    have hsb2 : ∀ n, n ≤ B9.length - 21 → ∀ j, j < n → (shiftF 13 (byteAt B9) j).sim (byteAt ((B9.drop 13).take (B9.length - 21)) j) := fun n hn j hj => hsb j (by omega)
    repeat' first
      | assumption
      | exact Bool.noConfusion hb
      | exact absurd hb (by decide)
      | (exfalso; omega)
      | (exfalso; simp at hb; done)
      | (refine W.retY Tr13OK rfl rfl ⟨?_, ?_⟩)
      | (refine W.branch rfl (fun hb => ?_) (fun hb => ?_) <;> ((try simp only [qhb, addI, reduceCtorEq, Int.reduceToNat] at hb); (try replace hb := of_decide_eq_true hb); (try replace hb := of_decide_eq_false hb)))
      | (refine W.callA (cd) rfl rfl rfl rfl hΓ rfl ?_; (conv => whnf); refine ⟨rfl, rfl, ?_, ?_, ?_, ?_⟩; iterate 3 exact qJo14r1; (conv => whnf))
      | (refine W.go Tr13OK 143 hΓ 1000 rfl ?_; (conv => whnf); refine ⟨?_, ?_⟩)
    all_goals (repeat' apply And.intro)
    all_goals try exact qcs0
    refine W.seeA ([(21, .own 1 506 0 ((B9.drop 13).take (B9.length - 21)).length)]) ([(506, some (.arr 1 ((B9.drop 13).take (B9.length - 21)).length (byteAt ((B9.drop 13).take (B9.length - 21)))))]) [62, 63, 64, 65, 66, 67, 68, 69, 70, 71, 72, 73, 74, 75, 76, 77, 78, 79, 80] ?_
    (conv => whnf); refine ⟨?_, ?_⟩; focus ((conv => whnf); refine ⟨rfl, rfl, rfl, rfl, rfl, rfl, ?_, ?_⟩; iterate 2 exact qJo14r6)
    clear hl8 hsb hsb2
    generalize (B9.drop 13).take (B9.length - 21) = D0 at *
    have hD0 : 8 ≤ D0.length ∧ D0.length ≤ 109 := by omega
    obtain ⟨i2, hi2⟩ : ∃ i0 : Nat, (i0 : Int) = at_ % (D0.length : Int) := ⟨(at_ % (D0.length : Int)).toNat, by have := Int.emod_nonneg at_ (show (D0.length : Int) ≠ 0 by omega); omega⟩
    have hj2 : (i2 : Int) < (D0.length : Int) := by rw [hi2]; exact Int.emod_lt_of_pos _ (by omega)
    have hE2 : IntKind.i64.wrap at_ % (D0.length : Int) = (i2 : Int) := by rw [haw, hi2]
    obtain ⟨v2, hv2⟩ := byte_ex (inr_bits .xor .u8 ((D0.getD i2 0).toNat : Int) (x.toNat : Int))
    have hset2 : ∀ n, n ≤ D0.length → ∀ i, i < n → (setF (byteAt D0) i2 (A.int .u8 (bitsI .xor .u8 ((D0.getD i2 0).toNat : Int) (x.toNat : Int))) i).sim (byteAt (D0.set i2 v2) i) := fun n hn => by rw [hv2]; exact set_sim D0 i2 v2 hn
    have hs2 : D0.length = (D0.set i2 v2).length := by simp
    repeat' first
      | assumption
      | exact Bool.noConfusion hb
      | exact absurd hb (by decide)
      | (exfalso; omega)
      | (exfalso; simp at hb; done)
      | (refine W.retY Tr14OK rfl rfl ⟨?_, ?_⟩)
      | (refine W.branch rfl (fun hb => ?_) (fun hb => ?_) <;> ((try simp only [qhb, addI, reduceCtorEq, Int.reduceToNat] at hb); (try replace hb := of_decide_eq_true hb); (try replace hb := of_decide_eq_false hb)))
      | (refine W.go Tr14OK 143 hΓ 1000 rfl ?_; (conv => whnf); refine ⟨?_, ?_⟩)
    all_goals (repeat' apply And.intro)
    all_goals try exact qcs0
    refine W.seeA ([(21, .own 1 507 0 (D0.set i2 v2).length)]) ([(507, some (.arr 1 (D0.set i2 v2).length (byteAt (D0.set i2 v2))))]) [81, 82, 83, 84, 85, 86, 87, 88, 89, 90, 91] ?_
    (conv => whnf); refine ⟨?_, ?_⟩; focus ((conv => whnf); refine ⟨rfl, rfl, rfl, rfl, rfl, rfl, ?_, ?_⟩; iterate 2 exact qJo14r7)
    have hF9l : (D0.set i2 v2).length ≤ 109 := by rw [← hs2]; omega
    clear hset2 hset1
    generalize D0.set i2 v2 = F9 at *
    have wk : IntKind.i64.wrap ((k.toNat : Int) % 3) = (k.toNat : Int) % 3 := wrap_i64_in (by omega) (by omega)
    have wk1 : IntKind.i64.wrap ((k.toNat : Int) % 3) + 1 = (k.toNat : Int) % 3 + 1 := by rw [wk]
    have ce := rput_does ((k.toNat : Int) % 3 + 1) (bitsI .and .i64 seq 255) F9 (i64_s (by omega)) (i64_s (by omega)) (by omega)
    have hE9 : (putS ((k.toNat : Int) % 3 + 1) (bitsI .and .i64 seq 255) F9).1.length ≤ 5000 := putS_len _ _ _
    generalize putS ((k.toNat : Int) % 3 + 1) (bitsI .and .i64 seq 255) F9 = Ep at ce hE9
    obtain ⟨E9, ee⟩ := Ep
    simp only at ce hE9
    repeat' first
      | assumption
      | exact Bool.noConfusion hb
      | exact absurd hb (by decide)
      | (exfalso; omega)
      | (exfalso; simp at hb; done)
      | (refine W.retY Tr15OK rfl rfl ⟨?_, ?_⟩)
      | (refine W.branch rfl (fun hb => ?_) (fun hb => ?_) <;> ((try simp only [qhb, addI, reduceCtorEq, Int.reduceToNat] at hb); (try replace hb := of_decide_eq_true hb); (try replace hb := of_decide_eq_false hb)))
      | (refine W.callA (ce) rfl rfl rfl rfl hΓ rfl ?_; (conv => whnf); refine ⟨rfl, rfl, ?_, ?_, ?_, ?_⟩; iterate 3 exact qJo14r8; (conv => whnf))
      | (refine W.go Tr15OK 143 hΓ 1000 rfl ?_; (conv => whnf); refine ⟨?_, ?_⟩)
    all_goals (repeat' apply And.intro)
    all_goals try first | exact qcl0 | exact wk1 | exact qsm0
    refine W.cutA [0, 14, 15, 17, 18, 20] [600, 505, 601, 602] ?_
    (conv => whnf); refine ⟨?_, ?_⟩; focus ((conv => whnf); refine ⟨rfl, rfl, rfl, rfl, rfl, rfl, ?_, ?_⟩; iterate 2 exact qlf1)
    refine W.run TrfOK 143 hΓ 1000 ?_
    conv => whnf
    refine ⟨?_, ?_⟩
    repeat' first
      | assumption
      | exact Bool.noConfusion hb
      | exact absurd hb (by decide)
      | (exfalso; omega)
      | (refine W.branch rfl (fun hb => ?_) (fun hb => ?_) <;> ((try simp only [qhb, addI, reduceCtorEq, Int.reduceToNat] at hb); (try replace hb := of_decide_eq_true hb); (try replace hb := of_decide_eq_false hb)))
      | (refine W.go TrfOK 143 hΓ 1000 rfl ?_; (conv => whnf); refine ⟨?_, ?_⟩)
    all_goals (repeat' apply And.intro)
    all_goals try exact qcs0
    refine W.loopA (Nat) (fun c => c ≤ 5) (fun c => 5 - c) (fun c => [(108, sl 1 bytesA [raw, B9, C9, D, E9]), (110, .int .i64 (c : Nat))]) (fun _ => []) [] (0) (by decide) ?_
    (conv => whnf); refine ⟨?_, ?_⟩; focus ((conv => whnf); refine ⟨rfl, rfl, rfl, rfl, rfl, rfl, ?_, ?_⟩; iterate 2 exact qJo14r9)
    rintro c hc ihc
    have hZS : ∀ z ∈ [raw, B9, C9, D, E9], z.length ≤ 1000000000 := fun z hz => by
      simp only [List.mem_cons, List.not_mem_nil, or_false] at hz
      rcases hz with rfl | rfl | rfl | rfl | rfl <;> first | omega | exact Nat.zero_le _
    have hZl : ([raw, B9, C9, D, E9] : List (List UInt8)).length = 5 := rfl
    generalize ([raw, B9, C9, D, E9] : List (List UInt8)) = ZS at hZS hZl ihc ⊢
    by_cases hlc : c < 5
    rotate_left
    · exact qJo14r10
    have hZ : (ZS.getD c default).length ≤ 1000000000 := hZS _ (HP.at_mem (by omega))
    have r1 := jread_does (ZS.getD c default) hZ
    have r2 := rjread_does (ZS.getD c default) hZ
    have r3 := records_does (jreadS (ZS.getD c default)).1
    generalize jreadS (ZS.getD c default) = R at r1 r2 r3
    have ih2 := ihc (c + 1) (by omega) (by omega)
    clear ihc
    repeat' first
      | assumption
      | exact Bool.noConfusion hb
      | exact absurd hb (by decide)
      | (exfalso; omega)
      | exact absurd rfl hb
      | (exfalso; simp at hb; done)
      | (refine W.toA (ih2) ?_; rotate_left 0; (conv => whnf); refine ⟨rfl, rfl, rfl, rfl, rfl, rfl, ?_, ?_⟩; iterate 2 exact qJo14r3)
      | (refine W.retY TOK rfl rfl ⟨?_, ?_⟩)
      | (refine W.branch rfl (fun hb => ?_) (fun hb => ?_) <;> ((try simp only [qhb, addI, reduceCtorEq, Int.reduceToNat] at hb); (try replace hb := of_decide_eq_true hb); (try replace hb := of_decide_eq_false hb)))
      | (refine W.callA (r1) rfl rfl rfl rfl hΓ rfl ?_; (conv => whnf); refine ⟨rfl, rfl, ?_, ?_, ?_, ?_⟩; iterate 3 exact qJo14r3; (conv => whnf))
      | (refine W.callA (r2) rfl rfl rfl rfl hΓ rfl ?_; (conv => whnf); refine ⟨rfl, rfl, ?_, ?_, ?_, ?_⟩; iterate 3 exact qJo14r3; (conv => whnf))
      | (refine W.callA (r3) rfl rfl rfl rfl hΓ rfl ?_; (conv => whnf); refine ⟨rfl, rfl, ?_, ?_, ?_, ?_⟩; iterate 3 exact qJo14r3; (conv => whnf))
      | (refine W.go TOK 143 hΓ 1000 rfl ?_; (conv => whnf); refine ⟨?_, ?_⟩)
    all_goals (repeat' apply And.intro)
    all_goals try exact qcs0

theorem journalReads_law (x0 x1 x2 x3 x4 x5 x6 : A) (s0 : Shaped (.slice (.int .u8)) x0) (s1 : Shaped (.int .i64) x1) (s2 : Shaped (.int .i64) x2) (s3 : Shaped (.int .u8) x3) (s4 : Shaped (.int .u8) x4) (s5 : Shaped (.int .u16) x5) (s6 : Shaped (.int .u8) x6) : Does Try.prog 4 [x0, x1, x2, x3, x4, x5, x6] [] [] Yes := by
  obtain ⟨a0, e0, h0⟩ := Rep.bytes x0 s0
  obtain ⟨a1, e1, h1⟩ := (Rep.int .i64) x1 s1
  obtain ⟨a2, e2, h2⟩ := (Rep.int .i64) x2 s2
  obtain ⟨a3, e3, h3⟩ := Rep.byte x3 s3
  obtain ⟨a4, e4, h4⟩ := Rep.byte x4 s4
  obtain ⟨a5, e5, h5⟩ := (Rep.int .u16) x5 s5
  obtain ⟨a6, e6, h6⟩ := Rep.byte x6 s6
  exact Does.args (ys := [bytesA a0, (A.int .i64) a1, (A.int .i64) a2, VX.byte a3, VX.byte a4, (A.int .u16) a5, VX.byte a6]) ⟨e0, e1, e2, e3, e4, e5, e6, trivial⟩ ⟨s0.pure, s1.pure, s2.pure, s3.pure, s4.pure, s5.pure, s6.pure, trivial⟩ (jreads_does a0 a1 a2 a3 a4 a5 a6 h1 h2 h5)

end Go.Proofs.Ytpgjheokcdpgjaa
