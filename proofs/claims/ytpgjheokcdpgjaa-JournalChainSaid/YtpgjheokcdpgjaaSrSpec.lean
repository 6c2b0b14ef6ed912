/- Sorting in place: turning, merging, in plain Lean. -/
import Derived.Test.YtpgjheokcdpgjaaHpSpec
set_option linter.unusedSimpArgs false
set_option linter.unusedVariables false
set_option linter.unusedSectionVars false
namespace HP
variable {α : Type} [Inhabited α]

theorem ext_at {a b : List α} (hl : a.length = b.length) (h : ∀ k, k < a.length → at_ a k = at_ b k) : a = b := by
  apply List.ext_getElem hl
  intro i h1 h2
  have := h i h1
  simpa [at_, List.getD_eq_getElem?_getD, h1, h2] using this
/-- A list told by a function. -/
def mk (n : Nat) (f : Nat → α) : List α := (List.range n).map f
/-! ### what stands outside stays; all are there -/
def seg (d : List α) (a b : Nat) : List α := (d.take b).drop a
theorem seg_len {d : List α} {a b : Nat} (h : b ≤ d.length) : (seg d a b).length = b - a := by rw [seg, List.length_drop, List.length_take]; omega
theorem seg_at {d : List α} {a b k : Nat} (h : a + k < b) : at_ (seg d a b) k = at_ d (a + k) := by
  simp only [at_, List.getD_eq_getElem?_getD, seg]
  rw [List.getElem?_drop, List.getElem?_take_of_lt h]
theorem seg_split {d : List α} {a b : Nat} (h : a ≤ b) : d = d.take a ++ (seg d a b ++ d.drop b) := by
  have h1 : d.take a = (d.take b).take a := by rw [List.take_take, Nat.min_eq_left h]
  rw [h1, seg, ← List.append_assoc, List.take_append_drop, List.take_append_drop]
structure Mv (a b : Nat) (d d' : List α) : Prop where
  len : d'.length = d.length
  out : ∀ k, k < a ∨ b ≤ k → at_ d' k = at_ d k
  perm : List.Perm d' d
theorem Mv.refl (a b : Nat) (d : List α) : Mv a b d d := ⟨rfl, fun _ _ => rfl, List.Perm.refl _⟩
theorem Mv.trans {a b : Nat} {d e f : List α} (h : Mv a b d e) (k : Mv a b e f) : Mv a b d f := ⟨k.len.trans h.len, fun q hq => (k.out q hq).trans (h.out q hq), k.perm.trans h.perm⟩
theorem Mv.mono {a b a' b' : Nat} {d e : List α} (h : Mv a b d e) (ha : a' ≤ a) (hb : b ≤ b') : Mv a' b' d e := ⟨h.len, fun q hq => h.out q (by omega), h.perm⟩
theorem take_eq {d d' : List α} {a : Nat} (hl : d'.length = d.length) (h : ∀ k, k < a → at_ d' k = at_ d k) : d'.take a = d.take a := by
  refine ext_at (by simp [hl]) fun k hk => ?_
  rw [List.length_take] at hk
  rw [at_take (by omega), at_take (by omega)]
  exact h k (by omega)
theorem at_drop (d : List α) (b k : Nat) : at_ (d.drop b) k = at_ d (b + k) := by
  simp only [at_, List.getD_eq_getElem?_getD]; rw [List.getElem?_drop]
theorem drop_eq {d d' : List α} {b : Nat} (hl : d'.length = d.length) (h : ∀ k, b ≤ k → at_ d' k = at_ d k) : d'.drop b = d.drop b := by
  refine ext_at (by simp [hl]) fun k hk => ?_
  rw [at_drop, at_drop]
  exact h _ (by omega)
theorem Mv.seg {a b : Nat} {d d' : List α} (h : Mv a b d d') (hab : a ≤ b) : List.Perm (HP.seg d' a b) (HP.seg d a b) := by
  have e1 := take_eq h.len fun k hk => h.out k (.inl hk)
  have e2 := drop_eq h.len fun k hk => h.out k (.inr hk)
  have p := h.perm
  rw [seg_split (d := d') hab, seg_split (d := d) hab, e1, e2] at p
  exact (List.perm_append_right_iff _).1 ((List.perm_append_left_iff _).1 p)
/-! ### order -/
variable {lt : α → α → Bool}
def Srt (lt : α → α → Bool) (d : List α) (a b : Nat) : Prop := ∀ i j, a ≤ i → i < j → j < b → lt (at_ d j) (at_ d i) = false
theorem Srt.mono {d : List α} {a b a' b' : Nat} (h : Srt lt d a b) (ha : a ≤ a') (hb : b' ≤ b) : Srt lt d a' b' := fun i j h1 h2 h3 => h i j (by omega) h2 (by omega)
theorem Srt.congr {d d' : List α} {a b : Nat} (h : Srt lt d a b) (he : ∀ k, a ≤ k → k < b → at_ d' k = at_ d k) : Srt lt d' a b := fun i j h1 h2 h3 => by
  rw [he j (by omega) h3, he i h1 (by omega)]
  exact h i j h1 h2 h3
theorem Srt.one {d : List α} {a b : Nat} (h : b ≤ a + 1) : Srt lt d a b := fun i j h1 h2 h3 => by omega
theorem Srt.le (ho : Ord lt) {d : List α} {a b : Nat} (h : Srt lt d a b) {i j : Nat} (h1 : a ≤ i) (h2 : i ≤ j) (h3 : j < b) : lt (at_ d j) (at_ d i) = false := by
  rcases Nat.lt_or_ge i j with h' | h'
  · exact h i j h1 h' h3
  · have : i = j := by omega
    subst this; exact ho.irr _
def Sl (lt : α → α → Bool) (l : List α) : Prop := List.Pairwise (fun x y => lt y x = false) l
theorem uniq (ho : Ord lt) : ∀ {l m : List α}, Sl lt l → Sl lt m → List.Perm l m → l = m
  | [], m, _, _, p => (List.Perm.nil_eq p)
  | x :: l, [], _, _, p => absurd p.length_eq (by simp)
  | x :: l, y :: m, h1, h2, p => by
    have hx := List.pairwise_cons.1 h1
    have hy := List.pairwise_cons.1 h2
    have e : x = y := by
      have m1 : x ∈ y :: m := p.subset (List.mem_cons_self ..)
      have m2 : y ∈ x :: l := p.symm.subset (List.mem_cons_self ..)
      rcases List.mem_cons.1 m1 with e | m1
      · exact e
      · rcases List.mem_cons.1 m2 with e | m2
        · exact e.symm
        · exact ho.tot x y (hy.1 x m1) (hx.1 y m2)
    subst e
    rw [uniq ho hx.2 hy.2 ((List.perm_cons x).1 p)]
theorem Srt.sl {d : List α} {a b : Nat} (h : Srt lt d a b) (hb : b ≤ d.length) : Sl lt (seg d a b) := by
  have hl := seg_len (d := d) (a := a) hb
  refine List.pairwise_iff_getElem.2 fun i j hi hj hij => ?_
  have e : ∀ k (hk : k < (seg d a b).length), (seg d a b)[k] = at_ d (a + k) := fun k hk => by
    have := seg_at (d := d) (a := a) (b := b) (k := k) (by omega)
    rw [← this]
    simp [at_, List.getD_eq_getElem?_getD, hk]
  rw [e i hi, e j hj]
  exact h (a + i) (a + j) (by omega) (by omega) (by omega)
/-! ### one is put into its place -/
/-- What holds of all of a part holds when the part is only moved. -/
theorem Mv.all {a b : Nat} {d d' : List α} (h : Mv a b d d') (hab : a ≤ b) (hb : b ≤ d.length) {P : α → Prop} (hp : ∀ k, a ≤ k → k < b → P (at_ d k)) : ∀ k, a ≤ k → k < b → P (at_ d' k) := fun k h1 h2 => by
  have hs := h.seg hab
  have hl' : (HP.seg d' a b).length = b - a := seg_len (by rw [h.len]; exact hb)
  have e : at_ d' k = at_ (HP.seg d' a b) (k - a) := by rw [seg_at (by omega)]; congr 1; omega
  have hm : at_ d' k ∈ HP.seg d' a b := by rw [e]; exact at_mem (by omega)
  obtain ⟨q, hq, he⟩ := mem_at (hs.subset hm)
  rw [seg_len hb] at hq
  rw [← he, seg_at (by omega)]
  exact hp _ (by omega) (by omega)
end HP
