/- Walk: JournalTells. -/
import Derived.Test.YtpgjheokcdpgjaaJo14i
import Derived.Test.YtpgjheokcdpgjaaJo14c
import Derived.Test.YtpgjheokcdpgjaaJo14u
import Derived.Test.YtpgjheokcdpgjaaJo14T
import Derived.Test.YtpgjheokcdpgjaaJo14b
import Derived.Test.YtpgjheokcdpgjaaPlB
import Derived.Test.YtpgjheokcdpgjaaVxI
set_option linter.unusedSimpArgs false
set_option linter.unusedVariables false
namespace Go.Proofs.Ytpgjheokcdpgjaa
open VX
set_option maxRecDepth 100000
set_option maxHeartbeats 4000000
theorem qJo14t1 {P : Prop} (h : P := by (focus ((repeat' apply And.intro) <;> first | exact qlf0 | exact ⟨rfl, rfl, rfl⟩ | exact ⟨rfl, rfl, rfl, rfl, ⟨rfl, rfl⟩⟩ | ((repeat' apply And.intro) <;> rfl)))) : P := h
theorem qJo14t2 {P : Prop} (h : P := by (focus ((repeat' apply And.intro) <;> first | exact qlf0 | exact sim4a (A.sim.refl _) (A.sim.refl _) (A.sim.refl _) (A.sim.refl _)))) : P := h
theorem qJo14t3 {P : Prop} (h : P := by (focus ((repeat' apply And.intro) <;> first | exact qlf0 | exact ⟨rfl, rfl, rfl⟩ | exact ⟨rfl, rfl, rfl, rfl, ⟨rfl, rfl⟩⟩ | ((repeat' apply And.intro) <;> rfl) | exact hl2 | exact hl2.symm | (intro j hj; rw [Nat.zero_add]; refine hm _ ?_ _ (Nat.le_refl _) j hj; exact rfl) | exact fun j _ => isInt_byteAt _ (0 + j)))) : P := h
theorem qJo14t4 {P : Prop} (h : P := by (focus ((repeat' apply And.intro) <;> first | exact qlf0 | exact hq _ | (rw [hE]; exact hq _) | exact hql | exact hql.symm | exact Nat.le_of_eq hql.symm))) : P := h
theorem qJo14t5 {P : Prop} (h : P := by (focus ((repeat' apply And.intro) <;> first | exact qlf0 | exact ⟨rfl, rfl, rfl⟩ | exact ⟨rfl, rfl, rfl, rfl, ⟨rfl, rfl⟩⟩ | ((repeat' apply And.intro) <;> rfl) | exact wk | exact wa))) : P := h
theorem qJo14t6 {P : Prop} (h : P := by
  refine Does.intro (fn := Try.f3) Try.func3 rfl rfl fun Γ hΓ => ?_
  refine W.run TOK 165 hΓ 1000 ?_
  conv => whnf
  refine ⟨?_, ?_⟩
  repeat' first
    | assumption
    | exact Bool.noConfusion hb
    | exact absurd hb (by decide)
    | (exfalso; omega)
    | (exfalso; simp at hb; done)
    | (refine W.retY TOK rfl rfl ⟨?_, ?_⟩)
    | ((first | refine W.branch rfl (fun hb => ?_) (fun hb => ?_) | refine D.branch rfl (fun hb => ?_) (fun hb => ?_)) <;> ((try simp only [qhb, addI, reduceCtorEq, Int.reduceToNat] at hb); (try replace hb := of_decide_eq_true hb); (try replace hb := of_decide_eq_false hb)))
    | ((first | (refine D.callA (ck) rfl rfl rfl rfl hΓ rfl ?_; (conv => whnf); refine ⟨rfl, rfl, rfl, ?_, ?_, ?_, ?_⟩) | (refine W.callA (ck) rfl rfl rfl rfl hΓ rfl ?_; (conv => whnf); refine ⟨rfl, rfl, ?_, ?_, ?_, ?_⟩)); iterate 3 exact qlf1; (conv => whnf))
    | (refine W.go TOK 165 hΓ 1000 rfl ?_; (conv => whnf); refine ⟨?_, ?_⟩)
    | (refine D.go TOK 165 hΓ 1000 rfl ?_; (conv => whnf); refine ⟨?_, ?_⟩)
    | (refine W.drawn rfl rfl ?_; refine D.run TOK 165 hΓ 1000 ?_; (conv => whnf); refine ⟨?_, ?_⟩)
  all_goals (repeat' apply And.intro)
  all_goals try exact qcs0) : P := h
def Ttf : Tab := { l := tabL, frz := [60] }
theorem TtfOK : TabOK Try.prog Ttf.l := tabOK
def Tt21 : Tab := { l := tabL, stop := [21] }
theorem Tt21OK : TabOK Try.prog Tt21.l := tabOK
theorem sim4a {z a b c d : A} {h : Nat → A} (h0 : a.sim (h 0)) (h1 : b.sim (h 1)) (h2 : c.sim (h 2)) (h3 : d.sim (h 3)) : ∀ i, i < 4 → ((listF z (fillL (repl z 4) [(0, a), (1, b), (2, c), (3, d)])) i).sim (h i) := fun i hi => by
  match i, hi with
  | 0, _ => exact h0
  | 1, _ => exact h1
  | 2, _ => exact h2
  | 3, _ => exact h3
theorem jtells_does (raw : Rec) (hraw : RecOK raw) (k a : UInt8) (seq v : Int) (what : UInt8) (l : List UInt8) (gen : Int) (hs9 : inr .i64 seq) (hv9 : inr .i64 v) (hg9 : inr .i64 gen) : Does Try.prog 3 [recA raw, VX.byte k, VX.byte a, .int .i64 seq, .int .i64 v, VX.byte what, bytesA l, .int .i64 gen] [] [] Yes := by
  have ck := known_does
  by_cases h60 : 60 < raw.u.name.length
  · exact qJo14t6
  by_cases h34 : 34 < l.length
  · exact qJo14t6
  have hk8 := k.toNat_lt
  have ha8 := a.toNat_lt
  have hw8 := what.toNat_lt
  have cn := name_does a
  have hnl := nameS_len a
  have cu := sup_does (nameS a) 1 (a.toNat : Int) (what.toNat : Int) (by omega) (by decide) (inr_u8.2 ⟨by omega, by omega⟩) (inr_u8.2 ⟨by omega, by omega⟩)
  have hu := (updN_ok (s := nameS a) (v := 1) (c := (a.toNat : Int)) (h := (what.toNat : Int)) (by decide)).1
  generalize updN (nameS a) 1 (a.toNat : Int) (what.toNat : Int) = u at cu hu
  have cs := some_does (k.toNat : Int) (a.toNat : Int) seq u (by omega) (by omega)
  have hso := someS_ok (k := (k.toNat : Int)) (a := (a.toNat : Int)) (q := seq) (by omega) (by omega) hu
  generalize someS (k.toNat : Int) (a.toNat : Int) seq u = r at cs hso
  have hv7 : 0 ≤ bitsI .and .i64 v 31 ∧ bitsI .and .i64 v 31 ≤ 31 := and_small v 31 (by decide)
  have c1 := bent_does r (what.toNat : Int) v (by omega)
  have o1 := bentS_ok (w := (what.toNat : Int)) hso hv9
  have c2 := bent_does r (what.toNat : Int) (bitsI .and .i64 v 31) (by omega)
  have o2 := bentS_ok (w := (what.toNat : Int)) (v := bitsI .and .i64 v 31) hso (i64_s (by omega))
  generalize bentS r (what.toNat : Int) v = b1 at c1 o1
  generalize bentS r (what.toNat : Int) (bitsI .and .i64 v 31) = b2 at c2 o2
  generalize nameS a = nm at *
  refine Does.intro (fn := Try.f3) Try.func3 rfl rfl fun Γ hΓ => ?_
  refine W.run TtfOK 165 hΓ 1000 ?_
  conv => whnf
  refine ⟨?_, ?_⟩
  repeat' first
    | assumption
    | exact Bool.noConfusion hb
    | exact absurd hb (by decide)
    | (exfalso; omega)
    | (exfalso; simp at hb; done)
    | (refine W.retY TtfOK rfl rfl ⟨?_, ?_⟩)
    | ((first | refine W.branch rfl (fun hb => ?_) (fun hb => ?_) | refine D.branch rfl (fun hb => ?_) (fun hb => ?_)) <;> ((try simp only [qhb, addI, reduceCtorEq, Int.reduceToNat] at hb); (try replace hb := of_decide_eq_true hb); (try replace hb := of_decide_eq_false hb)))
    | ((first | (refine D.callA (ck) rfl rfl rfl rfl hΓ rfl ?_; (conv => whnf); refine ⟨rfl, rfl, rfl, ?_, ?_, ?_, ?_⟩) | (refine W.callA (ck) rfl rfl rfl rfl hΓ rfl ?_; (conv => whnf); refine ⟨rfl, rfl, ?_, ?_, ?_, ?_⟩)); iterate 3 exact qJo14t1; (conv => whnf))
    | ((first | (refine D.callA (cn) rfl rfl rfl rfl hΓ rfl ?_; (conv => whnf); refine ⟨rfl, rfl, rfl, ?_, ?_, ?_, ?_⟩) | (refine W.callA (cn) rfl rfl rfl rfl hΓ rfl ?_; (conv => whnf); refine ⟨rfl, rfl, ?_, ?_, ?_, ?_⟩)); iterate 3 exact qJo14t1; (conv => whnf))
    | ((first | (refine D.callA (cu) rfl rfl rfl rfl hΓ rfl ?_; (conv => whnf); refine ⟨rfl, rfl, rfl, ?_, ?_, ?_, ?_⟩) | (refine W.callA (cu) rfl rfl rfl rfl hΓ rfl ?_; (conv => whnf); refine ⟨rfl, rfl, ?_, ?_, ?_, ?_⟩)); iterate 3 exact qJo14t1; (conv => whnf))
    | ((first | (refine D.callA (cs) rfl rfl rfl rfl hΓ rfl ?_; (conv => whnf); refine ⟨rfl, rfl, rfl, ?_, ?_, ?_, ?_⟩) | (refine W.callA (cs) rfl rfl rfl rfl hΓ rfl ?_; (conv => whnf); refine ⟨rfl, rfl, ?_, ?_, ?_, ?_⟩)); iterate 3 exact qJo14t1; (conv => whnf))
    | ((first | (refine D.callA (c1) rfl rfl rfl rfl hΓ rfl ?_; (conv => whnf); refine ⟨rfl, rfl, rfl, ?_, ?_, ?_, ?_⟩) | (refine W.callA (c1) rfl rfl rfl rfl hΓ rfl ?_; (conv => whnf); refine ⟨rfl, rfl, ?_, ?_, ?_, ?_⟩)); iterate 3 exact qJo14t1; (conv => whnf))
    | ((first | (refine D.callA (c2) rfl rfl rfl rfl hΓ rfl ?_; (conv => whnf); refine ⟨rfl, rfl, rfl, ?_, ?_, ?_, ?_⟩) | (refine W.callA (c2) rfl rfl rfl rfl hΓ rfl ?_; (conv => whnf); refine ⟨rfl, rfl, ?_, ?_, ?_, ?_⟩)); iterate 3 exact qJo14t1; (conv => whnf))
    | (refine W.go TtfOK 165 hΓ 1000 rfl ?_; (conv => whnf); refine ⟨?_, ?_⟩)
    | (refine D.go TtfOK 165 hΓ 1000 rfl ?_; (conv => whnf); refine ⟨?_, ?_⟩)
    | (refine W.drawn rfl rfl ?_; refine D.run TtfOK 165 hΓ 1000 ?_; (conv => whnf); refine ⟨?_, ?_⟩)
  all_goals (repeat' apply And.intro)
  all_goals try exact qcs0
  refine W.loopA (Nat) (fun c => c ≤ 4) (fun c => 4 - c) (fun c => [(60, sl 12 recA [raw, r, b1, b2]), (62, .int .i64 (c : Nat))]) (fun _ => []) [] (0) (by decide) ?_
  (conv => whnf); refine ⟨?_, ?_⟩; focus ((conv => whnf); refine ⟨rfl, rfl, rfl, rfl, rfl, rfl, ?_, ?_⟩; iterate 2 exact qJo14t2)
  rintro c hc ihc
  have hZS : ∀ z ∈ [raw, r, b1, b2], RecOK z := fun z hz => by
    simp only [List.mem_cons, List.not_mem_nil, or_false] at hz
    rcases hz with rfl | rfl | rfl | rfl <;> assumption
  have hZl : ([raw, r, b1, b2] : List Rec).length = 4 := rfl
  generalize ([raw, r, b1, b2] : List Rec) = ZS at hZS hZl ihc ⊢
  by_cases hlc : c < 4
  · have hZ : RecOK (ZS.getD c default) := hZS _ (HP.at_mem (by omega))
    have r1 := jput_does (ZS.getD c default) hZ
    have r2 := rjput_does (ZS.getD c default) hZ
    have r3 := jright_does (ZS.getD c default)
    have r4 := rjright_does (ZS.getD c default)
    have hln := jput_len (ZS.getD c default)
    have ih2 := ihc (c + 1) (by omega) (by omega)
    clear ihc
    cases hr : rightS (ZS.getD c default) with
    | false =>
      rw [show jputS (ZS.getD c default) = ([], 23) by unfold jputS; rw [hr]; rfl] at r1 r2
      rw [hr] at r3 r4
      simp only [List.length_nil] at r1 r2
      repeat' first
        | assumption
        | exact Bool.noConfusion hb
        | exact absurd hb (by decide)
        | (exfalso; omega)
        | exact absurd rfl hb
        | (exfalso; simp at hb; done)
        | (refine W.toA (ih2) ?_; rotate_left 0; (conv => whnf); refine ⟨rfl, rfl, rfl, rfl, rfl, rfl, ?_, ?_⟩; iterate 2 exact qJo14t1)
        | (refine W.retY TOK rfl rfl ⟨?_, ?_⟩)
        | ((first | refine W.branch rfl (fun hb => ?_) (fun hb => ?_) | refine D.branch rfl (fun hb => ?_) (fun hb => ?_)) <;> ((try simp only [qhb, addI, reduceCtorEq, Int.reduceToNat] at hb); (try replace hb := of_decide_eq_true hb); (try replace hb := of_decide_eq_false hb)))
        | ((first | (refine D.callA (r1) rfl rfl rfl rfl hΓ rfl ?_; (conv => whnf); refine ⟨rfl, rfl, rfl, ?_, ?_, ?_, ?_⟩) | (refine W.callA (r1) rfl rfl rfl rfl hΓ rfl ?_; (conv => whnf); refine ⟨rfl, rfl, ?_, ?_, ?_, ?_⟩)); iterate 3 exact qJo14t1; (conv => whnf))
        | ((first | (refine D.callA (r2) rfl rfl rfl rfl hΓ rfl ?_; (conv => whnf); refine ⟨rfl, rfl, rfl, ?_, ?_, ?_, ?_⟩) | (refine W.callA (r2) rfl rfl rfl rfl hΓ rfl ?_; (conv => whnf); refine ⟨rfl, rfl, ?_, ?_, ?_, ?_⟩)); iterate 3 exact qJo14t1; (conv => whnf))
        | ((first | (refine D.callA (r3) rfl rfl rfl rfl hΓ rfl ?_; (conv => whnf); refine ⟨rfl, rfl, rfl, ?_, ?_, ?_, ?_⟩) | (refine W.callA (r3) rfl rfl rfl rfl hΓ rfl ?_; (conv => whnf); refine ⟨rfl, rfl, ?_, ?_, ?_, ?_⟩)); iterate 3 exact qJo14t1; (conv => whnf))
        | ((first | (refine D.callA (r4) rfl rfl rfl rfl hΓ rfl ?_; (conv => whnf); refine ⟨rfl, rfl, rfl, ?_, ?_, ?_, ?_⟩) | (refine W.callA (r4) rfl rfl rfl rfl hΓ rfl ?_; (conv => whnf); refine ⟨rfl, rfl, ?_, ?_, ?_, ?_⟩)); iterate 3 exact qJo14t1; (conv => whnf))
        | (refine W.go TOK 165 hΓ 1000 rfl ?_; (conv => whnf); refine ⟨?_, ?_⟩)
        | (refine D.go TOK 165 hΓ 1000 rfl ?_; (conv => whnf); refine ⟨?_, ?_⟩)
        | (refine W.drawn rfl rfl ?_; refine D.run TOK 165 hΓ 1000 ?_; (conv => whnf); refine ⟨?_, ?_⟩)
      all_goals (repeat' apply And.intro)
      all_goals try exact qcs0
    | true =>
      have hj := jread_put hr hZ [7]
      have hz : (jputS (ZS.getD c default)).2 = 0 := by unfold jputS; rw [if_pos hr]; exact jput_zero hr
      have r5 := jread_does ((jputS (ZS.getD c default)).1 ++ [7]) (by rw [List.length_append]; show _ + 1 ≤ _; omega)
      rw [hj] at r5
      rw [hr] at r3 r4
      clear hj
      generalize jputS (ZS.getD c default) = p at *
      obtain ⟨B, e⟩ := p
      simp only at r1 r2 r5 hz hln
      subst hz
      obtain ⟨B2, hB2⟩ : ∃ B2, B2 = B ++ [7] := ⟨_, rfl⟩
      have hl2 : B2.length = B.length + 1 := by rw [hB2, List.length_append]; rfl
      have hm : ∀ g : Nat → A, g 0 = byteAt [7] 0 → ∀ m, m ≤ B.length + 1 → ∀ j, j < m → (catF B.length (shiftF 0 (byteAt B)) g j).sim (byteAt B2 j) := fun g hg m hm j hj => by
        rw [hB2]
        exact cat_sim rfl (fun i _ => by rw [shift_fun, List.drop_zero]) (fun i hi => by
          have h0 : i = 0 := Nat.lt_one_iff.1 hi
          subst h0
          exact hg) (by show j < _ + 1; omega)
      rw [← hB2] at r5
      clear hB2
      repeat' first
        | assumption
        | exact Bool.noConfusion hb
        | exact absurd hb (by decide)
        | (exfalso; omega)
        | exact absurd rfl hb
        | (exfalso; simp at hb; done)
        | (refine W.toA (ih2) ?_; rotate_left 0; (conv => whnf); refine ⟨rfl, rfl, rfl, rfl, rfl, rfl, ?_, ?_⟩; iterate 2 exact qJo14t3)
        | (refine W.retY TOK rfl rfl ⟨?_, ?_⟩)
        | ((first | refine W.branch rfl (fun hb => ?_) (fun hb => ?_) | refine D.branch rfl (fun hb => ?_) (fun hb => ?_)) <;> ((try simp only [qhb, addI, reduceCtorEq, Int.reduceToNat] at hb); (try replace hb := of_decide_eq_true hb); (try replace hb := of_decide_eq_false hb)))
        | ((first | (refine D.callA (r1) rfl rfl rfl rfl hΓ rfl ?_; (conv => whnf); refine ⟨rfl, rfl, rfl, ?_, ?_, ?_, ?_⟩) | (refine W.callA (r1) rfl rfl rfl rfl hΓ rfl ?_; (conv => whnf); refine ⟨rfl, rfl, ?_, ?_, ?_, ?_⟩)); iterate 3 exact qJo14t3; (conv => whnf))
        | ((first | (refine D.callA (r2) rfl rfl rfl rfl hΓ rfl ?_; (conv => whnf); refine ⟨rfl, rfl, rfl, ?_, ?_, ?_, ?_⟩) | (refine W.callA (r2) rfl rfl rfl rfl hΓ rfl ?_; (conv => whnf); refine ⟨rfl, rfl, ?_, ?_, ?_, ?_⟩)); iterate 3 exact qJo14t3; (conv => whnf))
        | ((first | (refine D.callA (r3) rfl rfl rfl rfl hΓ rfl ?_; (conv => whnf); refine ⟨rfl, rfl, rfl, ?_, ?_, ?_, ?_⟩) | (refine W.callA (r3) rfl rfl rfl rfl hΓ rfl ?_; (conv => whnf); refine ⟨rfl, rfl, ?_, ?_, ?_, ?_⟩)); iterate 3 exact qJo14t3; (conv => whnf))
        | ((first | (refine D.callA (r4) rfl rfl rfl rfl hΓ rfl ?_; (conv => whnf); refine ⟨rfl, rfl, rfl, ?_, ?_, ?_, ?_⟩) | (refine W.callA (r4) rfl rfl rfl rfl hΓ rfl ?_; (conv => whnf); refine ⟨rfl, rfl, ?_, ?_, ?_, ?_⟩)); iterate 3 exact qJo14t3; (conv => whnf))
        | ((first | (refine D.callA (r5) rfl rfl rfl rfl hΓ rfl ?_; (conv => whnf); refine ⟨rfl, rfl, rfl, ?_, ?_, ?_, ?_⟩) | (refine W.callA (r5) rfl rfl rfl rfl hΓ rfl ?_; (conv => whnf); refine ⟨rfl, rfl, ?_, ?_, ?_, ?_⟩)); iterate 3 exact qJo14t3; (conv => whnf))
        | (refine W.go TOK 165 hΓ 1000 rfl ?_; (conv => whnf); refine ⟨?_, ?_⟩)
        | (refine D.go TOK 165 hΓ 1000 rfl ?_; (conv => whnf); refine ⟨?_, ?_⟩)
        | (refine W.drawn rfl rfl ?_; refine D.run TOK 165 hΓ 1000 ?_; (conv => whnf); refine ⟨?_, ?_⟩)
      all_goals (repeat' apply And.intro)
      all_goals try exact qcs0
  · clear ihc
    have cp := seatpending_does l (by omega)
    have hln := seatL_len l l.length
    have hok := seatL_ok l l.length (by omega)
    generalize seatL l l.length = P at cp hln hok
    have hu : ∀ p ∈ P, UpdOK p.u ∧ inr .i64 p.tick := fun p hp => ⟨(hok p hp).o, inr_i64.2 (by have := (hok p hp).t; omega)⟩
    have wk : IntKind.i64.wrap (k.toNat : Int) = (k.toNat : Int) := wrap_i64_in (by omega) (by omega)
    have wa : IntKind.i64.wrap (a.toNat : Int) = (a.toNat : Int) := wrap_i64_in (by omega) (by omega)
    by_cases h5 : 0 < P.length ∧ (what.toNat : Int) % 5 = 0
    · obtain ⟨h51, h52⟩ := h5
      obtain ⟨i, hi⟩ : ∃ i0 : Nat, (i0 : Int) = (a.toNat : Int) % (P.length : Int) := ⟨((a.toNat : Int) % (P.length : Int)).toNat, by have := Int.emod_nonneg (a.toNat : Int) (show (P.length : Int) ≠ 0 by omega); omega⟩
      have hj : (i : Int) < (P.length : Int) := by rw [hi]; exact Int.emod_lt_of_pos _ (by omega)
      have hE : IntKind.i64.wrap (a.toNat : Int) % (P.length : Int) = (i : Int) := by rw [wa, hi]
      obtain ⟨Q, hQ⟩ : ∃ Q, Q = P.set i { HP.at_ P i with u := { (HP.at_ P i).u with ver := 0 } } := ⟨_, rfl⟩
      have hql : P.length = Q.length := by rw [hQ, List.length_set]
      have hu2 : ∀ p ∈ Q, UpdOK p.u ∧ inr .i64 p.tick := fun p hp => by
        rw [hQ] at hp
        rcases List.mem_or_eq_of_mem_set hp with h | h
        · exact hu p h
        · have h0 := hu (HP.at_ P i) (HP.at_mem (by omega))
          subst h
          exact ⟨{ h0.1 with ver := i64_0 }, h0.2⟩
      have hq : ∀ m, ∀ j, j < m → (setF (lsA penA P) i (penA { HP.at_ P i with u := { (HP.at_ P i).u with ver := 0 } }) j).sim (lsA penA Q j) := fun m => by rw [hQ]; exact ls_set _ (by omega)
      repeat' first
        | assumption
        | exact Bool.noConfusion hb
        | exact absurd hb (by decide)
        | (exfalso; omega)
        | (exfalso; simp at hb; done)
        | (refine W.retY Tt21OK rfl rfl ⟨?_, ?_⟩)
        | (refine W.branch rfl (fun hb => ?_) (fun hb => ?_) <;> ((try simp only [qhb, addI, reduceCtorEq, Int.reduceToNat] at hb); (try replace hb := of_decide_eq_true hb); (try replace hb := of_decide_eq_false hb)))
        | (refine W.callA (cp) rfl rfl rfl rfl hΓ rfl ?_; (conv => whnf); refine ⟨rfl, rfl, ?_, ?_, ?_, ?_⟩; iterate 3 exact qJo14t1; (conv => whnf))
        | (refine W.go Tt21OK 165 hΓ 1000 rfl ?_; (conv => whnf); refine ⟨?_, ?_⟩)
      all_goals (repeat' apply And.intro)
      all_goals try exact qcs0
      refine W.seeA ([(27, .own 9 604 0 Q.length)]) ([(604, some (.arr 9 Q.length (lsA penA Q)))]) [118, 119, 120, 121, 122, 123, 124, 125, 126, 127] ?_
      (conv => whnf); refine ⟨?_, ?_⟩; focus ((conv => whnf); refine ⟨rfl, rfl, rfl, rfl, rfl, rfl, ?_, ?_⟩; iterate 2 exact qJo14t4)
      clear hq hQ
      have d1 := base_does gen seq Q hg9 hs9 (by omega) hu2
      have d2 := rbase_does gen seq Q hg9 hs9 (by omega) hu2
      have d3 := base_does (k.toNat : Int) (a.toNat : Int) Q (i64_s (by omega)) (i64_s (by omega)) (by omega) hu2
      have d4 := rbase_does (k.toNat : Int) (a.toNat : Int) Q (i64_s (by omega)) (i64_s (by omega)) (by omega) hu2
      generalize bseS gen seq Q = G1 at d1 d2
      generalize bseS (k.toNat : Int) (a.toNat : Int) Q = G2 at d3 d4
      repeat' first
        | assumption
        | exact Bool.noConfusion hb
        | exact absurd hb (by decide)
        | (exfalso; omega)
        | exact absurd rfl hb
        | (exfalso; simp at hb; done)
        | (refine W.retY TOK rfl rfl ⟨?_, ?_⟩)
        | ((first | refine W.branch rfl (fun hb => ?_) (fun hb => ?_) | refine D.branch rfl (fun hb => ?_) (fun hb => ?_)) <;> ((try simp only [qhb, addI, reduceCtorEq, Int.reduceToNat] at hb); (try replace hb := of_decide_eq_true hb); (try replace hb := of_decide_eq_false hb)))
        | ((first | (refine D.callA (d1) rfl rfl rfl rfl hΓ rfl ?_; (conv => whnf); refine ⟨rfl, rfl, rfl, ?_, ?_, ?_, ?_⟩) | (refine W.callA (d1) rfl rfl rfl rfl hΓ rfl ?_; (conv => whnf); refine ⟨rfl, rfl, ?_, ?_, ?_, ?_⟩)); iterate 3 exact qJo14t5; (conv => whnf))
        | ((first | (refine D.callA (d2) rfl rfl rfl rfl hΓ rfl ?_; (conv => whnf); refine ⟨rfl, rfl, rfl, ?_, ?_, ?_, ?_⟩) | (refine W.callA (d2) rfl rfl rfl rfl hΓ rfl ?_; (conv => whnf); refine ⟨rfl, rfl, ?_, ?_, ?_, ?_⟩)); iterate 3 exact qJo14t5; (conv => whnf))
        | ((first | (refine D.callA (d3) rfl rfl rfl rfl hΓ rfl ?_; (conv => whnf); refine ⟨rfl, rfl, rfl, ?_, ?_, ?_, ?_⟩) | (refine W.callA (d3) rfl rfl rfl rfl hΓ rfl ?_; (conv => whnf); refine ⟨rfl, rfl, ?_, ?_, ?_, ?_⟩)); iterate 3 exact qJo14t5; (conv => whnf))
        | ((first | (refine D.callA (d4) rfl rfl rfl rfl hΓ rfl ?_; (conv => whnf); refine ⟨rfl, rfl, rfl, ?_, ?_, ?_, ?_⟩) | (refine W.callA (d4) rfl rfl rfl rfl hΓ rfl ?_; (conv => whnf); refine ⟨rfl, rfl, ?_, ?_, ?_, ?_⟩)); iterate 3 exact qJo14t5; (conv => whnf))
        | (refine W.go TOK 165 hΓ 1000 rfl ?_; (conv => whnf); refine ⟨?_, ?_⟩)
        | (refine D.go TOK 165 hΓ 1000 rfl ?_; (conv => whnf); refine ⟨?_, ?_⟩)
        | (refine W.drawn rfl rfl ?_; refine D.run TOK 165 hΓ 1000 ?_; (conv => whnf); refine ⟨?_, ?_⟩)
      all_goals (repeat' apply And.intro)
      all_goals try exact qcs0
    · have hu2 := hu
      obtain ⟨Q, hQ⟩ : ∃ Q, Q = P := ⟨_, rfl⟩
      subst hQ
      by_cases h50 : 0 < Q.length
      · have h51 : ¬ (what.toNat : Int) % 5 = 0 := fun h => h5 ⟨h50, h⟩
        repeat' first
          | assumption
          | exact Bool.noConfusion hb
          | exact absurd hb (by decide)
          | (exfalso; omega)
          | exact absurd hb h51
          | (exfalso; simp at hb; done)
          | (refine W.retY Tt21OK rfl rfl ⟨?_, ?_⟩)
          | (refine W.branch rfl (fun hb => ?_) (fun hb => ?_) <;> ((try simp only [qhb, addI, reduceCtorEq, Int.reduceToNat] at hb); (try replace hb := of_decide_eq_true hb); (try replace hb := of_decide_eq_false hb)))
          | (refine W.callA (cp) rfl rfl rfl rfl hΓ rfl ?_; (conv => whnf); refine ⟨rfl, rfl, ?_, ?_, ?_, ?_⟩; iterate 3 exact qJo14t1; (conv => whnf))
          | (refine W.go Tt21OK 165 hΓ 1000 rfl ?_; (conv => whnf); refine ⟨?_, ?_⟩)
        all_goals (repeat' apply And.intro)
        all_goals try exact qcs0
        refine W.seeA ([(27, .own 9 604 0 Q.length)]) ([(604, some (.arr 9 Q.length (lsA penA Q)))]) [118, 119, 120, 121, 122, 123, 124, 125, 126, 127] ?_
        (conv => whnf); refine ⟨?_, ?_⟩; focus ((conv => whnf); refine ⟨rfl, rfl, rfl, rfl, rfl, rfl, ?_, ?_⟩; iterate 2 exact qlf1)
        have d1 := base_does gen seq Q hg9 hs9 (by omega) hu2
        have d2 := rbase_does gen seq Q hg9 hs9 (by omega) hu2
        have d3 := base_does (k.toNat : Int) (a.toNat : Int) Q (i64_s (by omega)) (i64_s (by omega)) (by omega) hu2
        have d4 := rbase_does (k.toNat : Int) (a.toNat : Int) Q (i64_s (by omega)) (i64_s (by omega)) (by omega) hu2
        generalize bseS gen seq Q = G1 at d1 d2
        generalize bseS (k.toNat : Int) (a.toNat : Int) Q = G2 at d3 d4
        repeat' first
          | assumption
          | exact Bool.noConfusion hb
          | exact absurd hb (by decide)
          | (exfalso; omega)
          | exact absurd rfl hb
          | (exfalso; simp at hb; done)
          | (refine W.retY TOK rfl rfl ⟨?_, ?_⟩)
          | ((first | refine W.branch rfl (fun hb => ?_) (fun hb => ?_) | refine D.branch rfl (fun hb => ?_) (fun hb => ?_)) <;> ((try simp only [qhb, addI, reduceCtorEq, Int.reduceToNat] at hb); (try replace hb := of_decide_eq_true hb); (try replace hb := of_decide_eq_false hb)))
          | ((first | (refine D.callA (d1) rfl rfl rfl rfl hΓ rfl ?_; (conv => whnf); refine ⟨rfl, rfl, rfl, ?_, ?_, ?_, ?_⟩) | (refine W.callA (d1) rfl rfl rfl rfl hΓ rfl ?_; (conv => whnf); refine ⟨rfl, rfl, ?_, ?_, ?_, ?_⟩)); iterate 3 exact qJo14t5; (conv => whnf))
          | ((first | (refine D.callA (d2) rfl rfl rfl rfl hΓ rfl ?_; (conv => whnf); refine ⟨rfl, rfl, rfl, ?_, ?_, ?_, ?_⟩) | (refine W.callA (d2) rfl rfl rfl rfl hΓ rfl ?_; (conv => whnf); refine ⟨rfl, rfl, ?_, ?_, ?_, ?_⟩)); iterate 3 exact qJo14t5; (conv => whnf))
          | ((first | (refine D.callA (d3) rfl rfl rfl rfl hΓ rfl ?_; (conv => whnf); refine ⟨rfl, rfl, rfl, ?_, ?_, ?_, ?_⟩) | (refine W.callA (d3) rfl rfl rfl rfl hΓ rfl ?_; (conv => whnf); refine ⟨rfl, rfl, ?_, ?_, ?_, ?_⟩)); iterate 3 exact qJo14t5; (conv => whnf))
          | ((first | (refine D.callA (d4) rfl rfl rfl rfl hΓ rfl ?_; (conv => whnf); refine ⟨rfl, rfl, rfl, ?_, ?_, ?_, ?_⟩) | (refine W.callA (d4) rfl rfl rfl rfl hΓ rfl ?_; (conv => whnf); refine ⟨rfl, rfl, ?_, ?_, ?_, ?_⟩)); iterate 3 exact qJo14t5; (conv => whnf))
          | (refine W.go TOK 165 hΓ 1000 rfl ?_; (conv => whnf); refine ⟨?_, ?_⟩)
          | (refine D.go TOK 165 hΓ 1000 rfl ?_; (conv => whnf); refine ⟨?_, ?_⟩)
          | (refine W.drawn rfl rfl ?_; refine D.run TOK 165 hΓ 1000 ?_; (conv => whnf); refine ⟨?_, ?_⟩)
        all_goals (repeat' apply And.intro)
        all_goals try exact qcs0
      · have h51 : True := trivial
        repeat' first
          | assumption
          | exact Bool.noConfusion hb
          | exact absurd hb (by decide)
          | (exfalso; omega)
          | exact absurd hb h51
          | (exfalso; simp at hb; done)
          | (refine W.retY Tt21OK rfl rfl ⟨?_, ?_⟩)
          | (refine W.branch rfl (fun hb => ?_) (fun hb => ?_) <;> ((try simp only [qhb, addI, reduceCtorEq, Int.reduceToNat] at hb); (try replace hb := of_decide_eq_true hb); (try replace hb := of_decide_eq_false hb)))
          | (refine W.callA (cp) rfl rfl rfl rfl hΓ rfl ?_; (conv => whnf); refine ⟨rfl, rfl, ?_, ?_, ?_, ?_⟩; iterate 3 exact qJo14t1; (conv => whnf))
          | (refine W.go Tt21OK 165 hΓ 1000 rfl ?_; (conv => whnf); refine ⟨?_, ?_⟩)
        all_goals (repeat' apply And.intro)
        all_goals try exact qcs0
        refine W.seeA ([(27, .own 9 604 0 Q.length)]) ([(604, some (.arr 9 Q.length (lsA penA Q)))]) [118, 119, 120, 121, 122, 123, 124, 125, 126, 127] ?_
        (conv => whnf); refine ⟨?_, ?_⟩; focus ((conv => whnf); refine ⟨rfl, rfl, rfl, rfl, rfl, rfl, ?_, ?_⟩; iterate 2 exact qlf1)
        have d1 := base_does gen seq Q hg9 hs9 (by omega) hu2
        have d2 := rbase_does gen seq Q hg9 hs9 (by omega) hu2
        have d3 := base_does (k.toNat : Int) (a.toNat : Int) Q (i64_s (by omega)) (i64_s (by omega)) (by omega) hu2
        have d4 := rbase_does (k.toNat : Int) (a.toNat : Int) Q (i64_s (by omega)) (i64_s (by omega)) (by omega) hu2
        generalize bseS gen seq Q = G1 at d1 d2
        generalize bseS (k.toNat : Int) (a.toNat : Int) Q = G2 at d3 d4
        repeat' first
          | assumption
          | exact Bool.noConfusion hb
          | exact absurd hb (by decide)
          | (exfalso; omega)
          | exact absurd rfl hb
          | (exfalso; simp at hb; done)
          | (refine W.retY TOK rfl rfl ⟨?_, ?_⟩)
          | ((first | refine W.branch rfl (fun hb => ?_) (fun hb => ?_) | refine D.branch rfl (fun hb => ?_) (fun hb => ?_)) <;> ((try simp only [qhb, addI, reduceCtorEq, Int.reduceToNat] at hb); (try replace hb := of_decide_eq_true hb); (try replace hb := of_decide_eq_false hb)))
          | ((first | (refine D.callA (d1) rfl rfl rfl rfl hΓ rfl ?_; (conv => whnf); refine ⟨rfl, rfl, rfl, ?_, ?_, ?_, ?_⟩) | (refine W.callA (d1) rfl rfl rfl rfl hΓ rfl ?_; (conv => whnf); refine ⟨rfl, rfl, ?_, ?_, ?_, ?_⟩)); iterate 3 exact qJo14t5; (conv => whnf))
          | ((first | (refine D.callA (d2) rfl rfl rfl rfl hΓ rfl ?_; (conv => whnf); refine ⟨rfl, rfl, rfl, ?_, ?_, ?_, ?_⟩) | (refine W.callA (d2) rfl rfl rfl rfl hΓ rfl ?_; (conv => whnf); refine ⟨rfl, rfl, ?_, ?_, ?_, ?_⟩)); iterate 3 exact qJo14t5; (conv => whnf))
          | ((first | (refine D.callA (d3) rfl rfl rfl rfl hΓ rfl ?_; (conv => whnf); refine ⟨rfl, rfl, rfl, ?_, ?_, ?_, ?_⟩) | (refine W.callA (d3) rfl rfl rfl rfl hΓ rfl ?_; (conv => whnf); refine ⟨rfl, rfl, ?_, ?_, ?_, ?_⟩)); iterate 3 exact qJo14t5; (conv => whnf))
          | ((first | (refine D.callA (d4) rfl rfl rfl rfl hΓ rfl ?_; (conv => whnf); refine ⟨rfl, rfl, rfl, ?_, ?_, ?_, ?_⟩) | (refine W.callA (d4) rfl rfl rfl rfl hΓ rfl ?_; (conv => whnf); refine ⟨rfl, rfl, ?_, ?_, ?_, ?_⟩)); iterate 3 exact qJo14t5; (conv => whnf))
          | (refine W.go TOK 165 hΓ 1000 rfl ?_; (conv => whnf); refine ⟨?_, ?_⟩)
          | (refine D.go TOK 165 hΓ 1000 rfl ?_; (conv => whnf); refine ⟨?_, ?_⟩)
          | (refine W.drawn rfl rfl ?_; refine D.run TOK 165 hΓ 1000 ?_; (conv => whnf); refine ⟨?_, ?_⟩)
        all_goals (repeat' apply And.intro)
        all_goals try exact qcs0

abbrev SHU : Sh := .strct (.cons (.str) (.cons (.int .i64) (.cons (.int .u64) (.cons (.int .i64) (.cons (.strct (.cons (.int .u64) (.cons (.int .u64) .nil))) .nil)))))
abbrev SHR : Sh := .strct (.cons (.int .i64) (.cons (.int .i64) (.cons (.int .i64) (.cons (.int .i64) (.cons (.strct (.cons (.str) (.cons (.int .i64) (.cons (.int .u64) (.cons (.int .i64) (.cons (.strct (.cons (.int .u64) (.cons (.int .u64) .nil))) .nil)))))) (.cons (.int .i64) (.cons (.int .i64) .nil)))))))
theorem repUpd : Rep SHU updA UpdOK := fun x h => by
  obtain ⟨a, e, h⟩ := (Rep.strct (RepL.cons Rep.str (RepL.cons (Rep.int .i64) (RepL.cons (Rep.int .u64) (RepL.cons (Rep.int .i64) (RepL.cons (Rep.strct (RepL.cons (Rep.int .u64) (RepL.cons (Rep.int .u64) RepL.nil))) RepL.nil)))))) x h
  exact ⟨⟨a.1, a.2.1, a.2.2.1, a.2.2.2.1, a.2.2.2.2.1.1, a.2.2.2.2.1.2.1⟩, e, ⟨h.2.1, h.2.2.1, h.2.2.2.1, h.2.2.2.2.1.1, h.2.2.2.2.1.2.1⟩⟩
theorem repRec : Rep SHR recA RecOK := fun x h => by
  obtain ⟨a, e, h⟩ := Rep.strct (RepL.cons (Rep.int .i64) (RepL.cons (Rep.int .i64) (RepL.cons (Rep.int .i64) (RepL.cons (Rep.int .i64) (RepL.cons repUpd (RepL.cons (Rep.int .i64) (RepL.cons (Rep.int .i64) RepL.nil))))))) x h
  exact ⟨⟨a.1, a.2.1, a.2.2.1, a.2.2.2.1, a.2.2.2.2.1, a.2.2.2.2.2.1, a.2.2.2.2.2.2.1⟩, e, ⟨h.1, h.2.1, h.2.2.1, h.2.2.2.1, h.2.2.2.2.1, h.2.2.2.2.2.1, h.2.2.2.2.2.2.1⟩⟩
theorem journalTells_law (x0 x1 x2 x3 x4 x5 x6 x7 : A) (s0 : Shaped SHR x0) (s1 : Shaped (.int .u8) x1) (s2 : Shaped (.int .u8) x2) (s3 : Shaped (.int .i64) x3) (s4 : Shaped (.int .i64) x4) (s5 : Shaped (.int .u8) x5) (s6 : Shaped (.slice (.int .u8)) x6) (s7 : Shaped (.int .i64) x7) : Does Try.prog 3 [x0, x1, x2, x3, x4, x5, x6, x7] [] [] Yes := by
  obtain ⟨a0, e0, h0⟩ := repRec x0 s0
  obtain ⟨a1, e1, h1⟩ := Rep.byte x1 s1
  obtain ⟨a2, e2, h2⟩ := Rep.byte x2 s2
  obtain ⟨a3, e3, h3⟩ := (Rep.int .i64) x3 s3
  obtain ⟨a4, e4, h4⟩ := (Rep.int .i64) x4 s4
  obtain ⟨a5, e5, h5⟩ := Rep.byte x5 s5
  obtain ⟨a6, e6, h6⟩ := Rep.bytes x6 s6
  obtain ⟨a7, e7, h7⟩ := (Rep.int .i64) x7 s7
  exact Does.args (ys := [recA a0, VX.byte a1, VX.byte a2, (A.int .i64) a3, (A.int .i64) a4, VX.byte a5, bytesA a6, (A.int .i64) a7]) ⟨e0, e1, e2, e3, e4, e5, e6, e7, trivial⟩ ⟨s0.pure, s1.pure, s2.pure, s3.pure, s4.pure, s5.pure, s6.pure, s7.pure, trivial⟩ (jtells_does a0 h0 a1 a2 a3 a4 a5 a6 a7 h3 h4 h7)

end Go.Proofs.Ytpgjheokcdpgjaa
