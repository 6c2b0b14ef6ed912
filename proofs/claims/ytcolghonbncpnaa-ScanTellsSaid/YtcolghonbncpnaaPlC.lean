/- Plain laws and the functions that answer for the program's (part 3 of 3). -/
import Derived.Test.YtcolghonbncpnaaPlB
set_option linter.unusedSimpArgs false
set_option linter.unusedVariables false
/- Journals that are cut, that have holes, and which of two counts: plain Lean. -/
namespace VX
open Go
theorem RcJ.ext {b : List UInt8} : ∀ (k : Nat) {p : Nat} {out : List Rec}, b.length - p < k → RcJ b (p, out) → (∃ more, (recsS b).1 = out ++ more) ∧ p ≤ (recsS b).2
  | 0, p, out, hk, h => absurd hk (Nat.not_lt_zero _)
  | k + 1, p, out, hk, h => by
    by_cases hb : rcBad (jreadS (b.drop p)) out
    · rw [h.done hb]
      exact ⟨⟨[], (List.append_nil _).symm⟩, Nat.le_refl _⟩
    · have he : (jreadS (b.drop p)).2.2 = 0 := Classical.not_not.1 fun h => hb (.inl h)
      obtain ⟨n, hn⟩ := jread_ok he
      have hl := hn.le
      rw [List.length_drop] at hl
      have := hn.ge
      obtain ⟨⟨more, h1⟩, h2⟩ := RcJ.ext k (by omega) (h.next hb hn)
      exact ⟨⟨[(jreadS (b.drop p)).1] ++ more, by rw [h1, List.append_assoc]⟩, by omega⟩
theorem recs_ext {b : List UInt8} {out : List Rec} {rest : List UInt8} (h : Rows out) (e : b = flatJ out ++ rest) : (∃ more, (recsS b).1 = out ++ more) ∧ (flatJ out).length ≤ (recsS b).2 :=
  RcJ.ext (b.length + 1) (Nat.lt_succ_of_le (Nat.sub_le _ _)) (rcJ_of h rest e)
theorem Told.take {b : List UInt8} {R : List Rec} {p : Nat} (h : Told b R p) : b.take p = flatJ R := by
  have e := h.bytes
  have l := h.len
  generalize b.drop p = rest at e
  rw [e, l]
  simp
theorem recs_cut (b : List UInt8) (k : Nat) : (∃ more, (recsS b).1 = (recsS (b.take k)).1 ++ more) ∧ (recsS (b.take k)).2 ≤ (recsS b).2 ∧ (recsS (b.take k)).2 ≤ k := by
  have ht := recs_told (b.take k)
  have e : b = flatJ (recsS (b.take k)).1 ++ ((b.take k).drop (recsS (b.take k)).2 ++ b.drop k) := by
    rw [← List.append_assoc, ← ht.bytes, List.take_append_drop]
  obtain ⟨h1, h2⟩ := recs_ext ht.rows e
  rw [← ht.len] at h2
  have h3 := (recs_le (b.take k)).1
  rw [List.length_take] at h3
  exact ⟨h1, h2, by omega⟩
theorem recs_cut_len (b : List UInt8) (k : Nat) : (recsS (b.take k)).1.length ≤ (recsS b).1.length := by
  obtain ⟨⟨more, h⟩, _⟩ := recs_cut b k
  rw [h, List.length_append]; omega
theorem recs_cut_all {b : List UInt8} {k : Nat} (h : (recsS b).2 ≤ k) : (recsS (b.take k)).1.length = (recsS b).1.length := by
  have ht := recs_told b
  have hl := recs_le b
  have e : b.take k = flatJ (recsS b).1 ++ (b.drop (recsS b).2).take (k - (recsS b).2) := by
    have h1 : b.take (recsS b).2 = flatJ (recsS b).1 := ht.take
    rw [← h1, ← List.take_add]
    congr 1
    omega
  obtain ⟨⟨more, h1⟩, _⟩ := recs_ext ht.rows e
  have h2 := recs_cut_len b k
  have h3 : (recsS (b.take k)).1.length = (recsS b).1.length + more.length := by rw [h1, List.length_append]
  omega
theorem recs_cut_lt {b : List UInt8} {k : Nat} (h : k < (recsS b).2) : (recsS (b.take k)).1.length < (recsS b).1.length := by
  obtain ⟨⟨more, h1⟩, _, h3⟩ := recs_cut b k
  have t1 := (recs_told b).len
  have t2 := (recs_told (b.take k)).len
  cases more with
  | nil =>
    rw [List.append_nil] at h1
    rw [h1] at t1
    omega
  | cons x m => rw [h1, List.length_append, List.length_cons]; omega
theorem recs_again (b : List UInt8) (k : Nat) : (recsS (b.take (recsS (b.take k)).2)).1 = (recsS (b.take k)).1 := by
  have ht := recs_told (b.take k)
  obtain ⟨_, _, h3⟩ := recs_cut b k
  have e : b.take (recsS (b.take k)).2 = flatJ (recsS (b.take k)).1 := by
    have h1 : (b.take k).take (recsS (b.take k)).2 = flatJ (recsS (b.take k)).1 := ht.take
    rw [List.take_take, Nat.min_eq_left h3] at h1
    exact h1
  rw [recs_of (rest := []) ht.rows (by rw [e, List.append_nil]) (.inl (jread_end (by decide)))]

/-! ### a journal anew is whole, and no part of it -/
structure NewOK (gen seq : Int) (P : List Pen) : Prop where
  base : rightS (baseR gen seq P.length) = true
  baseok : RecOK (baseR gen seq P.length)
  pen : ∀ j, j < P.length → rightS (penR seq j (HP.at_ P j)) = true ∧ RecOK (penR seq j (HP.at_ P j))
theorem NewOK.bytes {gen seq : Int} {P : List Pen} (h : NewOK gen seq P) : bseS gen seq P = flatJ (rwS gen seq P P.length) := by
  rw [bse_yes h.base fun j hj => (h.pen j hj).1, rwS_flat]
theorem NewOK.recs {gen seq : Int} {P : List Pen} (h : NewOK gen seq P) : recsS (bseS gen seq P) = (rwS gen seq P P.length, (bseS gen seq P).length) := by
  rw [h.bytes]
  exact recs_of (rest := []) (rwS_rows h.base h.baseok _ fun j hj => h.pen j hj) (List.append_nil _).symm (.inl (jread_end (by decide)))
theorem NewOK.whole {gen seq : Int} {P : List Pen} (h : NewOK gen seq P) : (wholeS (rwS gen seq P P.length)).1 = gen ∧ (wholeS (rwS gen seq P P.length)).2.2 = true := by
  have hl := rwS_len gen seq P P.length
  have h0 := rwS_zero gen seq P P.length
  rw [whole_yes ⟨by omega, by rw [h0], by rw [h0, hl]; show (P.length : Int) ≤ _; omega⟩ fun j h1 h2 _ => rwS_kind gen seq P P.length j h1 (by omega), h0]
  exact ⟨rfl, rfl⟩
theorem NewOK.cut {gen seq : Int} {P : List Pen} (h : NewOK gen seq P) {k : Nat} (hk : k < (bseS gen seq P).length) : wholeS (recsS ((bseS gen seq P).take k)).1 = (0, [], false) := by
  have hr := h.recs
  have hlt := recs_cut_lt (b := bseS gen seq P) (k := k) (by rw [hr]; exact hk)
  obtain ⟨⟨more, h1⟩, _⟩ := recs_cut (bseS gen seq P) k
  rw [hr] at hlt h1
  simp only at hlt h1
  generalize (recsS ((bseS gen seq P).take k)).1 = out at hlt h1
  have hl := rwS_len gen seq P P.length
  have h0 := rwS_zero gen seq P P.length
  refine whole_noH fun hw => ?_
  obtain ⟨w1, w2, w3⟩ := hw
  rw [h1, HP.at_append_left w1] at h0
  rw [h0] at w3
  have w4 : (P.length : Int) ≤ (out.length : Int) - 1 := w3
  omega
theorem NewOK.pos {gen seq : Int} {P : List Pen} (h : NewOK gen seq P) : 0 < (bseS gen seq P).length := by
  have h1 := (recs_le (bseS gen seq P)).2
  rw [h.recs] at h1
  have hl := rwS_len gen seq P P.length
  simp only at h1
  omega
/-! ### a hole -/
theorem rows_take {l m : List Rec} (h : Rows (l ++ m)) : Rows l := by
  induction m using snocInd with
  | nil => rwa [List.append_nil] at h
  | snoc m x ih =>
    rw [← List.append_assoc] at h
    generalize he : (l ++ m) ++ [x] = z at h
    cases h with
    | nil => simp at he
    | snoc h1 _ _ _ =>
      have := List.append_inj_left' he rfl
      subst this
      exact ih h1
theorem told_read {b : List UInt8} {R : List Rec} {p : Nat} (h : Told b R p) {j : Nat} (hj : j < R.length) :
    jreadS (b.drop (flatJ (R.take j)).length) = (HP.at_ R j, (((jputS (HP.at_ R j)).1.length : Nat) : Int), 0) ∧ (flatJ (R.take (j + 1))).length = (flatJ (R.take j)).length + (jputS (HP.at_ R j)).1.length := by
  have hs : R.take (j + 1) = R.take j ++ [HP.at_ R j] := recs_take hj
  have hb := h.bytes
  have hR : R = R.take j ++ ([HP.at_ R j] ++ R.drop (j + 1)) := by rw [← List.append_assoc, ← hs, List.take_append_drop]
  have hf : flatJ R = flatJ (R.take j) ++ ((jputS (HP.at_ R j)).1 ++ flatJ (R.drop (j + 1))) := by
    conv => lhs; rw [hR]
    rw [flatJ_app, flatJ_app]
    simp [flatJ]
  have ha := h.rows.all _ (HP.at_mem hj)
  refine ⟨?_, by rw [hs, flatJ_snoc, List.length_append]⟩
  conv => lhs; rw [hb]
  rw [hf, List.append_assoc, drop_app, List.append_assoc]
  exact jread_put ha.1 ha.2 _
theorem told_le {b : List UInt8} {R : List Rec} {p : Nat} (h : Told b R p) (j : Nat) : (flatJ (R.take j)).length ≤ p := by
  rw [h.len]
  conv => rhs; rw [← List.take_append_drop j R, flatJ_app, List.length_append]
  omega
/-- Noughts from at on, m of them. -/
def holeS (b : List UInt8) (p m : Nat) : List UInt8 := b.take p ++ (List.replicate m 0 ++ b.drop (p + m))
theorem holeS_zero (b : List UInt8) (p : Nat) : holeS b p 0 = b := by simp [holeS]
theorem holeS_len {b : List UInt8} {p m : Nat} (h : p + m ≤ b.length) : (holeS b p m).length = b.length := by
  simp [holeS]; omega
theorem holeS_set {b : List UInt8} {p m : Nat} (h : p + m < b.length) : (holeS b p m).set (p + m) 0 = holeS b p (m + 1) := by
  unfold holeS
  have hp : (b.take p).length = p := by rw [List.length_take]; omega
  rw [List.set_append_right _ _ (by omega), hp, Nat.add_sub_cancel_left, List.set_append_right _ _ (by simp), List.length_replicate, Nat.sub_self, List.drop_eq_getElem_cons h, List.set_cons_zero, List.replicate_succ', List.append_assoc, show p + (m + 1) = p + m + 1 by omega]
  rfl
theorem hole_recs {b : List UInt8} {R : List Rec} {p : Nat} (h : Told b R p) {j : Nat} (hj : j < R.length) :
    recsS (holeS b (flatJ (R.take j)).length (jputS (HP.at_ R j)).1.length) = (R.take j, (flatJ (R.take j)).length) := by
  have hr : Rows (R.take j) := rows_take (m := R.drop j) (by rw [List.take_append_drop]; exact h.rows)
  have ha := h.rows.all _ (HP.at_mem hj)
  have h5 : 21 ≤ (jputS (HP.at_ R j)).1.length := by
    unfold jputS; rw [if_pos ha.1, jput_eq ha.1, frameB_len]; omega
  have hb : b.take (flatJ (R.take j)).length = flatJ (R.take j) := by
    conv => lhs; rw [h.bytes, ← List.take_append_drop j R, flatJ_app, List.append_assoc]
    simp
  refine recs_of hr (rest := List.replicate (jputS (HP.at_ R j)).1.length 0 ++ b.drop ((flatJ (R.take j)).length + (jputS (HP.at_ R j)).1.length)) ?_ (.inl (jread_hole ?_))
  · unfold holeS; rw [hb]
  · rw [List.getD_eq_getElem?_getD, List.getElem?_append_left (by rw [List.length_replicate]; omega), List.getElem?_replicate, if_pos (by omega)]
    rfl
theorem NewOK.file_pos {gen seq : Int} {P : List Pen} (h : NewOK gen seq P) (rest : List UInt8) : 0 < (recsS (bseS gen seq P ++ rest)).1.length := by
  obtain ⟨⟨more, e⟩, _⟩ := recs_ext (b := bseS gen seq P ++ rest) (rest := rest) (rwS_rows h.base h.baseok P.length fun j hj => h.pen j hj) (by rw [h.bytes])
  have := rwS_len gen seq P P.length
  rw [e, List.length_append]
  omega
theorem byte_drop {X : List UInt8} {p : Nat} : ∀ n, ∀ j, j < n → (byteAt X (p + j)).sim (byteAt (X.drop p) j) := fun n j _ => by
  refine A.sim.of ?_
  unfold byteAt
  rw [List.getD_eq_getElem?_getD, List.getD_eq_getElem?_getD, List.getElem?_drop]
end VX

