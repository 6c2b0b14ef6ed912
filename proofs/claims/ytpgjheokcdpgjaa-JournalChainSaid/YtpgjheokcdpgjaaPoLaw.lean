/- Pools whose names are told apart by their numbers: plain Lean. -/
import Derived.Test.YtpgjheokcdpgjaaPoSpec3
set_option linter.unusedSimpArgs false
set_option linter.unusedVariables false
namespace VX
open Go

def nm (i : Nat) : List UInt8 := [UInt8.ofNat (97 + i)]
theorem nm_inj {i j : Nat} (hi : i < 100) (hj : j < 100) (h : nm i = nm j) : i = j := by
  have := congrArg UInt8.toNat (List.cons.inj h).1
  simp at this
  omega
structure OrdJ (i : Nat) (A : List Pen) : Prop where
  len : A.length ≤ i
  each : ∀ p ∈ A, p.u.ver = 1 ∧ 0 ≤ p.seq ∧ p.seq < i ∧ p.u.name = nm p.seq.toNat
  up : A.Pairwise fun p q => p.seq < q.seq
theorem OrdJ.other {i : Nat} {A : List Pen} (h : OrdJ i A) (hi : i < 100) : ∀ p ∈ A, p.u.name ≠ nm i := fun p hp e => by
  obtain ⟨_, h1, h2, h3⟩ := h.each p hp
  have := nm_inj (by omega) hi (h3.symm.trans e)
  omega
theorem OrdJ.add {i : Nat} {A : List Pen} (h : OrdJ i A) (k c r s t : Int) (b : Bool) : OrdJ (i + 1) (A ++ [⟨⟨nm i, 1, k, c, r, s⟩, t, (i : Nat), b⟩]) := by
  refine ⟨by have := h.len; simp only [List.length_append, List.length_cons, List.length_nil]; omega, fun p hp => ?_, ?_⟩
  · rcases List.mem_append.1 hp with hp | hp
    · obtain ⟨h0, h1, h2, h3⟩ := h.each p hp
      exact ⟨h0, h1, by omega, h3⟩
    · have : p = ⟨⟨nm i, 1, k, c, r, s⟩, t, (i : Nat), b⟩ := by simpa using hp
      subst this
      exact ⟨rfl, by simp only; omega, by simp only; omega, rfl⟩
  · rw [List.pairwise_append]
    refine ⟨h.up, List.pairwise_singleton _ _, fun p hp q hq => ?_⟩
    have : q = ⟨⟨nm i, 1, k, c, r, s⟩, t, (i : Nat), b⟩ := by simpa using hq
    subst this
    exact (h.each p hp).2.2.1
theorem OrdJ.lt {i : Nat} {A : List Pen} (h : OrdJ i A) {a b : Nat} (hab : a < b) (hb : b < A.length) : (HP.at_ A a).seq < (HP.at_ A b).seq := by
  have := List.pairwise_iff_getElem.1 h.up a b (by omega) hb hab
  simpa [HP.at_, List.getD_eq_getElem?_getD, hb, show a < A.length by omega] using this
theorem OrdJ.uniq {i : Nat} {A : List Pen} (h : OrdJ i A) (hi : i ≤ 100) {a b : Nat} (ha : a < A.length) (hb : b < A.length) (e : (HP.at_ A a).u.name = (HP.at_ A b).u.name) : a = b := by
  obtain ⟨_, h1, h2, h3⟩ := h.each _ (HP.at_mem ha)
  obtain ⟨_, k1, k2, k3⟩ := h.each _ (HP.at_mem hb)
  have hs := nm_inj (by omega) (by omega) (h3.symm.trans (e.trans k3))
  rcases Nat.lt_trichotomy a b with q | q | q
  · have := h.lt q hb; omega
  · exact q
  · have := h.lt q ha; omega
theorem isP_false {s : List UInt8} {v : Int} {p : Pen} : isP s v p = false ↔ p.u.name = s ∧ p.u.ver = v := by
  unfold isP
  simp
theorem OrdJ.idx {i : Nat} {A : List Pen} (h : OrdJ i A) (hi : i ≤ 100) {k : Nat} (hk : k < A.length) : idxP A (HP.at_ A k).u.name 1 = (k : Nat) := by
  rcases idxS_at (isP (HP.at_ A k).u.name 1) A 0 with ⟨_, h2⟩ | ⟨j, h1, e, h3, _⟩
  · have := h2 _ (HP.at_mem hk)
    rw [isP_false.2 ⟨rfl, (h.each _ (HP.at_mem hk)).1⟩] at this
    cases this
  · have := h.uniq hi h1 hk (isP_false.1 h3).1
    subst this
    rw [Nat.zero_add] at e
    exact e
theorem at_erase {α : Type} [Inhabited α] (A : List α) (k j : Nat) : HP.at_ (A.eraseIdx k) j = if j < k then HP.at_ A j else HP.at_ A (j + 1) := by
  simp only [HP.at_, List.getD_eq_getElem?_getD, List.getElem?_eraseIdx]
  split <;> rfl
theorem OrdJ.gone {i : Nat} {A : List Pen} (h : OrdJ i A) (hi : i ≤ 100) {k : Nat} (hk : k < A.length) : idxP (A.eraseIdx k) (HP.at_ A k).u.name 1 = -1 := by
  have hl : (A.eraseIdx k).length = A.length - 1 := by rw [List.length_eraseIdx, if_pos hk]
  rcases idxS_at (isP (HP.at_ A k).u.name 1) (A.eraseIdx k) 0 with ⟨e, _⟩ | ⟨j, h1, e, h3, _⟩
  · exact e
  · exfalso
    have hn := (isP_false.1 h3).1
    rw [at_erase] at hn
    by_cases hj : j < k
    · rw [if_pos hj] at hn
      have := h.uniq hi (by omega) hk hn
      omega
    · rw [if_neg hj] at hn
      have := h.uniq hi (by omega) hk hn
      omega
end VX
