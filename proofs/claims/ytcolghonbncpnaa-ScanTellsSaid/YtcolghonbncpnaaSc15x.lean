/- Walks: the records of a journal. -/
import Derived.Test.YtcolghonbncpnaaSc15S
import Derived.Test.YtcolghonbncpnaaSc15T
import Derived.Test.YtcolghonbncpnaaPlB
import Derived.Test.YtcolghonbncpnaaVxI
set_option linter.unusedSimpArgs false
set_option linter.unusedVariables false
namespace Go.Proofs.Ytcolghonbncpnaa
open VX
set_option maxRecDepth 100000
set_option maxHeartbeats 4000000
theorem qSc15x1 {P : Prop} (h : P := by (focus ((repeat' apply And.intro) <;> first | exact qlf0 | exact ⟨rfl, rfl, rfl⟩ | exact ⟨rfl, rfl, rfl, rfl, ⟨rfl, rfl⟩⟩ | ((repeat' apply And.intro) <;> rfl) | exact hdl | exact hdl.symm | exact hsh _ | exact hl2 | exact hl2.symm | exact Nat.le_of_eq hl2 | (intro j hj; refine hm _ ?_ _ (Nat.le_refl _) j hj; exact rfl) | (intro j hj; refine hm _ ?_ _ (Nat.le_of_eq hl2) j hj; exact rfl)))) : P := h
theorem qSc15x2 {P : Prop} (h : P := by (focus ((repeat' apply And.intro) <;> first | exact qlf0 | exact ⟨rfl, rfl, rfl⟩ | exact ⟨rfl, rfl, rfl, rfl, ⟨rfl, rfl⟩⟩ | ((repeat' apply And.intro) <;> rfl) | exact hdl | exact hdl.symm | exact hsh _))) : P := h
theorem qSc15x3 {P : Prop} (h : P := by first | exact qcl0 | exact hdl | exact hdl.symm | exact qsm0 | (show (out.length + 1) * 96 ≤ _; omega) | (show (out.length + 1) * 136 ≤ _; omega) | (show (out.length + 1) * 12 ≤ _; omega)) : P := h
theorem qSc15x4 {P : Prop} (h : P := by first | exact qcl0 | exact hdl | exact hdl.symm | exact qsm0) : P := h
theorem qSc15x5 {P : Prop} (h : P := by
  obtain ⟨n, hn⟩ := jread_ok he
  have hng := hn.ge
  have hnl := hn.le
  have hnum := hn.num
  by_cases h0 : out.length = 0
  · have hbad : ¬ rcBad (jreadS (b.drop p)) out := fun h => h.elim (fun h => h he) fun h => h fun h1 => absurd h1 (by omega)
    have hJ2 := hJ.next hbad hn
    have ih2 := ih (p + n, out ++ [(jreadS (b.drop p)).1]) hJ2 (by simp only; omega)
    clear ih hn hbad hJ hJ2
    generalize jreadS (b.drop p) = R at *
    obtain ⟨r, m, e⟩ := R
    simp only at *
    subst hnum he
    obtain ⟨out2, ho2⟩ : ∃ o, o = out ++ [r] := ⟨_, rfl⟩
    have hl2 : out2.length = out.length + 1 := by rw [ho2, List.length_append]; rfl
    have hm : ∀ g : Nat → A, g 0 = recA r → ∀ m, m ≤ out.length + 1 → ∀ j, j < m → (catF out.length (lsA recA out) g j).sim (lsA recA out2 j) := fun g hg m hm => by rw [ho2]; exact ls_snoc _ rfl hg hm
    rw [← ho2] at ih2
    clear ho2
    repeat' first
      | assumption
      | exact Bool.noConfusion hb
      | exact absurd hb (by decide)
      | (exfalso; omega)
      | exact hb hq2
      | exact hq2 hb
      | (exfalso; simp at hb; done)
      | (refine W.toA (ih2) ?_; rotate_left 0; (conv => whnf); refine ⟨rfl, rfl, rfl, rfl, rfl, rfl, ?_, ?_⟩; iterate 2 exact qSc15x1)
      | ((first | refine W.branch rfl (fun hb => ?_) (fun hb => ?_) | refine D.branch rfl (fun hb => ?_) (fun hb => ?_)) <;> ((try simp only [qhb, addI, reduceCtorEq, Int.reduceToNat] at hb); (try replace hb := of_decide_eq_true hb); (try replace hb := of_decide_eq_false hb)))
      | ((first | (refine D.callA (cr) rfl rfl rfl rfl hΓ rfl ?_; (conv => whnf); refine ⟨rfl, rfl, rfl, ?_, ?_, ?_, ?_⟩) | (refine W.callA (cr) rfl rfl rfl rfl hΓ rfl ?_; (conv => whnf); refine ⟨rfl, rfl, ?_, ?_, ?_, ?_⟩)); iterate 3 exact qSc15x1; (conv => whnf))
      | (refine W.go TOK 46 hΓ 1000 rfl ?_; (conv => whnf); refine ⟨?_, ?_⟩)
      | (refine D.go TOK 46 hΓ 1000 rfl ?_; (conv => whnf); refine ⟨?_, ?_⟩)
      | (refine W.drawn rfl rfl ?_; refine D.run TOK 46 hΓ 1000 ?_; (conv => whnf); refine ⟨?_, ?_⟩)
    all_goals (repeat' apply And.intro)
    all_goals try exact qSc15x3
  · have hs0 := right_seq (hrt _ (HP.at_mem (show out.length - 1 < out.length by omega))).1
    have hs1 : 0 ≤ (out.getD ((out.length : Int) - 1).toNat default).seq ∧ (out.getD ((out.length : Int) - 1).toNat default).seq ≤ 1152921504606846976 := by rw [hix]; exact hs0
    have hw1 : IntKind.i64.wrap ((out.getD ((out.length : Int) - 1).toNat default).seq + 1) = (out.getD ((out.length : Int) - 1).toNat default).seq + 1 := wrap_i64_in (by omega) (by omega)
    by_cases hq : (jreadS (b.drop p)).1.seq = (HP.at_ out (out.length - 1)).seq + 1
    · have hbad : ¬ rcBad (jreadS (b.drop p)) out := fun h => h.elim (fun h => h he) fun h => h fun _ => hq
      have hq2 : (jreadS (b.drop p)).1.seq = (out.getD ((out.length : Int) - 1).toNat default).seq + 1 := by rw [hix]; exact hq
      have hJ2 := hJ.next hbad hn
      have ih2 := ih (p + n, out ++ [(jreadS (b.drop p)).1]) hJ2 (by simp only; omega)
      clear ih hn hbad hJ hJ2
      generalize jreadS (b.drop p) = R at *
      obtain ⟨r, m, e⟩ := R
      simp only at *
      subst hnum he
      obtain ⟨out2, ho2⟩ : ∃ o, o = out ++ [r] := ⟨_, rfl⟩
      have hl2 : out2.length = out.length + 1 := by rw [ho2, List.length_append]; rfl
      have hm : ∀ g : Nat → A, g 0 = recA r → ∀ m, m ≤ out.length + 1 → ∀ j, j < m → (catF out.length (lsA recA out) g j).sim (lsA recA out2 j) := fun g hg m hm => by rw [ho2]; exact ls_snoc _ rfl hg hm
      rw [← ho2] at ih2
      clear ho2
      repeat' first
        | assumption
        | exact Bool.noConfusion hb
        | exact absurd hb (by decide)
        | (exfalso; omega)
        | exact hb hq2
        | exact hq2 hb
        | (exfalso; simp at hb; done)
        | (refine W.toA (ih2) ?_; rotate_left 0; (conv => whnf); refine ⟨rfl, rfl, rfl, rfl, rfl, rfl, ?_, ?_⟩; iterate 2 exact qSc15x1)
        | ((first | refine W.branch rfl (fun hb => ?_) (fun hb => ?_) | refine D.branch rfl (fun hb => ?_) (fun hb => ?_)) <;> ((try simp only [qhb, addI, reduceCtorEq, Int.reduceToNat] at hb); (try replace hb := of_decide_eq_true hb); (try replace hb := of_decide_eq_false hb)))
        | ((first | (refine D.callA (cr) rfl rfl rfl rfl hΓ rfl ?_; (conv => whnf); refine ⟨rfl, rfl, rfl, ?_, ?_, ?_, ?_⟩) | (refine W.callA (cr) rfl rfl rfl rfl hΓ rfl ?_; (conv => whnf); refine ⟨rfl, rfl, ?_, ?_, ?_, ?_⟩)); iterate 3 exact qSc15x1; (conv => whnf))
        | (refine W.go TOK 46 hΓ 1000 rfl ?_; (conv => whnf); refine ⟨?_, ?_⟩)
        | (refine D.go TOK 46 hΓ 1000 rfl ?_; (conv => whnf); refine ⟨?_, ?_⟩)
        | (refine W.drawn rfl rfl ?_; refine D.run TOK 46 hΓ 1000 ?_; (conv => whnf); refine ⟨?_, ?_⟩)
      all_goals (repeat' apply And.intro)
      all_goals try exact qSc15x3
    · have hbad : rcBad (jreadS (b.drop p)) out := .inr fun h => hq (h (by omega))
      have hq2 : ¬ (jreadS (b.drop p)).1.seq = (out.getD ((out.length : Int) - 1).toNat default).seq + 1 := by rw [hix]; exact hq
      clear hn
      have hd := hJ.done hbad
      clear ih hJ hbad
      rw [hd]
      clear hd
      generalize jreadS (b.drop p) = R at *
      obtain ⟨r, m, e⟩ := R
      simp only at *
      repeat' first
        | assumption
        | exact Bool.noConfusion hb
        | exact absurd hb (by decide)
        | (exfalso; omega)
        | exact hb hq2
        | exact hq2 hb
        | (exfalso; simp at hb; done)
        | exact absurd hb he
        | exact absurd he hb
        | (refine W.retA TOK rfl ?_; (conv => whnf); refine ⟨rfl, rfl, rfl, rfl, rfl, rfl, ?_, ?_, ?_⟩)
        | ((first | refine W.branch rfl (fun hb => ?_) (fun hb => ?_) | refine D.branch rfl (fun hb => ?_) (fun hb => ?_)) <;> ((try simp only [qhb, addI, reduceCtorEq, Int.reduceToNat] at hb); (try replace hb := of_decide_eq_true hb); (try replace hb := of_decide_eq_false hb)))
        | ((first | (refine D.callA (cr) rfl rfl rfl rfl hΓ rfl ?_; (conv => whnf); refine ⟨rfl, rfl, rfl, ?_, ?_, ?_, ?_⟩) | (refine W.callA (cr) rfl rfl rfl rfl hΓ rfl ?_; (conv => whnf); refine ⟨rfl, rfl, ?_, ?_, ?_, ?_⟩)); iterate 3 exact qSc15x2; (conv => whnf))
        | (refine W.go TOK 46 hΓ 1000 rfl ?_; (conv => whnf); refine ⟨?_, ?_⟩)
        | (refine D.go TOK 46 hΓ 1000 rfl ?_; (conv => whnf); refine ⟨?_, ?_⟩)
        | (refine W.drawn rfl rfl ?_; refine D.run TOK 46 hΓ 1000 ?_; (conv => whnf); refine ⟨?_, ?_⟩)
      all_goals (repeat' apply And.intro)
      all_goals try exact qSc15x4) : P := h
theorem qSc15x6 {P : Prop} (h : P := by
  have hbad : rcBad (jreadS (b.drop p)) out := .inl he
  have hd := hJ.done hbad
  clear ih hJ hbad
  rw [hd]
  clear hd
  generalize jreadS (b.drop p) = R at *
  obtain ⟨r, m, e⟩ := R
  simp only at *
  repeat' first
    | assumption
    | exact Bool.noConfusion hb
    | exact absurd hb (by decide)
    | (exfalso; omega)
    | exact hb hq2
    | exact hq2 hb
    | (exfalso; simp at hb; done)
    | exact absurd hb he
    | exact absurd he hb
    | (refine W.retA TOK rfl ?_; (conv => whnf); refine ⟨rfl, rfl, rfl, rfl, rfl, rfl, ?_, ?_, ?_⟩)
    | ((first | refine W.branch rfl (fun hb => ?_) (fun hb => ?_) | refine D.branch rfl (fun hb => ?_) (fun hb => ?_)) <;> ((try simp only [qhb, addI, reduceCtorEq, Int.reduceToNat] at hb); (try replace hb := of_decide_eq_true hb); (try replace hb := of_decide_eq_false hb)))
    | ((first | (refine D.callA (cr) rfl rfl rfl rfl hΓ rfl ?_; (conv => whnf); refine ⟨rfl, rfl, rfl, ?_, ?_, ?_, ?_⟩) | (refine W.callA (cr) rfl rfl rfl rfl hΓ rfl ?_; (conv => whnf); refine ⟨rfl, rfl, ?_, ?_, ?_, ?_⟩)); iterate 3 exact qSc15x2; (conv => whnf))
    | (refine W.go TOK 46 hΓ 1000 rfl ?_; (conv => whnf); refine ⟨?_, ?_⟩)
    | (refine D.go TOK 46 hΓ 1000 rfl ?_; (conv => whnf); refine ⟨?_, ?_⟩)
    | (refine W.drawn rfl rfl ?_; refine D.run TOK 46 hΓ 1000 ?_; (conv => whnf); refine ⟨?_, ?_⟩)
  all_goals (repeat' apply And.intro)
  all_goals try exact qSc15x4) : P := h
theorem rec_does (b : List UInt8) (h9 : b.length ≤ 1000000) : Does Try.prog 10 [bytesA b] [] [1] (Is (.tup [.own 12 1 0 (recsS b).1.length, .int .i64 ((recsS b).2 : Nat)]) [(1, some (.arr 12 (recsS b).1.length (lsA recA (recsS b).1)))]) := by
  refine Does.intro (fn := Try.f10) Try.func10 rfl rfl fun Γ hΓ => ?_
  refine W.run TOK 46 hΓ 1000 ?_
  conv => whnf
  refine ⟨?_, ?_⟩
  repeat' first
    | assumption
    | exact Bool.noConfusion hb
    | exact absurd hb (by decide)
    | ((first | refine W.branch rfl (fun hb => ?_) (fun hb => ?_) | refine D.branch rfl (fun hb => ?_) (fun hb => ?_)) <;> ((try simp only [qhb, addI, reduceCtorEq, Int.reduceToNat] at hb); (try replace hb := of_decide_eq_true hb); (try replace hb := of_decide_eq_false hb)))
    | (refine W.go TOK 46 hΓ 1000 rfl ?_; (conv => whnf); refine ⟨?_, ?_⟩)
    | (refine D.go TOK 46 hΓ 1000 rfl ?_; (conv => whnf); refine ⟨?_, ?_⟩)
    | (refine W.drawn rfl rfl ?_; refine D.run TOK 46 hΓ 1000 ?_; (conv => whnf); refine ⟨?_, ?_⟩)
  all_goals (repeat' apply And.intro)
  all_goals try exact qcs0
  refine W.loopA (Nat × List Rec) (RcJ b) (fun x => b.length - x.1) (fun x => [(4, .own 12 700 0 x.2.length), (5, .int .i64 (x.1 : Nat))]) (fun x => [(700, some (.arr 12 x.2.length (lsA recA x.2)))]) [] ((0, [])) (RcJ.start b) ?_
  (conv => whnf); refine ⟨?_, ?_⟩; focus ((conv => whnf); refine ⟨rfl, rfl, rfl, rfl, rfl, rfl, ?_, ?_⟩; iterate 2 exact qlf1)
  rintro ⟨p, out⟩ hJ ih
  have hp : p ≤ b.length := hJ.le
  have hol : 21 * out.length ≤ p := hJ.len
  have hrt := hJ.rows.all
  have hdl : (b.drop p).length = b.length - p := List.length_drop
  have hsh : ∀ n : Nat, ∀ j, j < n → (shiftF p (byteAt b) j).sim (byteAt (b.drop p) j) := fun n j _ => by rw [shift_fun]; exact .refl _
  have cr := jread_does (b.drop p) (by omega)
  have hix : ((out.length : Int) - 1).toNat = out.length - 1 := by omega
  by_cases he : (jreadS (b.drop p)).2.2 = 0
  · exact qSc15x5
  · exact qSc15x6
theorem rrec_does (b : List UInt8) (h9 : b.length ≤ 1000000) : Does Try.prog 11 [bytesA b] [] [1] (Is (.tup [.own 12 1 0 (recsS b).1.length, .int .i64 ((recsS b).2 : Nat)]) [(1, some (.arr 12 (recsS b).1.length (lsA recA (recsS b).1)))]) := by
  refine Does.intro (fn := Try.f11) Try.func11 rfl rfl fun Γ hΓ => ?_
  refine W.run TOK 46 hΓ 1000 ?_
  conv => whnf
  refine ⟨?_, ?_⟩
  repeat' first
    | assumption
    | exact Bool.noConfusion hb
    | exact absurd hb (by decide)
    | ((first | refine W.branch rfl (fun hb => ?_) (fun hb => ?_) | refine D.branch rfl (fun hb => ?_) (fun hb => ?_)) <;> ((try simp only [qhb, addI, reduceCtorEq, Int.reduceToNat] at hb); (try replace hb := of_decide_eq_true hb); (try replace hb := of_decide_eq_false hb)))
    | (refine W.go TOK 46 hΓ 1000 rfl ?_; (conv => whnf); refine ⟨?_, ?_⟩)
    | (refine D.go TOK 46 hΓ 1000 rfl ?_; (conv => whnf); refine ⟨?_, ?_⟩)
    | (refine W.drawn rfl rfl ?_; refine D.run TOK 46 hΓ 1000 ?_; (conv => whnf); refine ⟨?_, ?_⟩)
  all_goals (repeat' apply And.intro)
  all_goals try exact qcs0
  refine W.loopA (Nat × List Rec) (RcJ b) (fun x => b.length - x.1) (fun x => [(4, .own 12 700 0 x.2.length), (5, .int .i64 (x.1 : Nat))]) (fun x => [(700, some (.arr 12 x.2.length (lsA recA x.2)))]) [] ((0, [])) (RcJ.start b) ?_
  (conv => whnf); refine ⟨?_, ?_⟩; focus ((conv => whnf); refine ⟨rfl, rfl, rfl, rfl, rfl, rfl, ?_, ?_⟩; iterate 2 exact qlf1)
  rintro ⟨p, out⟩ hJ ih
  have hp : p ≤ b.length := hJ.le
  have hol : 21 * out.length ≤ p := hJ.len
  have hrt := hJ.rows.all
  have hdl : (b.drop p).length = b.length - p := List.length_drop
  have hsh : ∀ n : Nat, ∀ j, j < n → (shiftF p (byteAt b) j).sim (byteAt (b.drop p) j) := fun n j _ => by rw [shift_fun]; exact .refl _
  have cr := rjread_does (b.drop p) (by omega)
  have hix : ((out.length : Int) - 1).toNat = out.length - 1 := by omega
  by_cases he : (jreadS (b.drop p)).2.2 = 0
  · exact qSc15x5
  · exact qSc15x6
end Go.Proofs.Ytcolghonbncpnaa
