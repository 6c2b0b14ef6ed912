/- Lists of data in slices: setting, swapping, keeping those that fit. -/
import Derived.Test.YtpgjheokcdpgjaaCatL
import Derived.Test.YtpgjheokcdpgjaaHpSpec
set_option linter.unusedSimpArgs false
set_option linter.unusedVariables false
set_option linter.unusedSectionVars false
namespace VX
open Go
section
variable {α : Type} [Inhabited α]
/-- The elements of a list, as they lie in an array. -/
def lsA (f : α → A) (l : List α) : Nat → A := fun i => f (l.getD i default)
theorem ls_snoc {f : α → A} {a : List α} (d : α) {n m : Nat} (hn : n = a.length) {g : Nat → A} (hg : (g 0) = f d) (hm : m ≤ n + 1) : ∀ k, k < m → (catF n (lsA f a) g k).sim (lsA f (a ++ [d]) k) := fun k hk => A.sim.of (by
  subst hn
  unfold lsA
  by_cases h : k < a.length
  · rw [catF_lt h]
    simp only [List.getD_eq_getElem?_getD]
    rw [List.getElem?_append_left h]
  · have : k = a.length := by omega
    subst this
    rw [catF_ge (Nat.le_refl _), Nat.sub_self, hg]
    simp [List.getD_eq_getElem?_getD])
/-! ### keeping those that fit -/
def kept (p : α → Bool) (l : List α) (j : Nat) : List α := (l.take j).filter p
/-- The first one that does not fit; below 0: none. -/
def idxS (p : α → Bool) : List α → Nat → Int
  | [], _ => -1
  | a :: l, i => if p a = false then i else idxS p l (i + 1)
theorem idxS_at (p : α → Bool) : ∀ (l : List α) (i : Nat), (idxS p l i = -1 ∧ ∀ a ∈ l, p a = true) ∨ (∃ j : Nat, j < l.length ∧ idxS p l i = (i + j : Nat) ∧ p (HP.at_ l j) = false ∧ ∀ q, q < j → p (HP.at_ l q) = true)
  | [], i => .inl ⟨rfl, by simp⟩
  | a :: l, i => by
    unfold idxS
    by_cases h : p a = false
    · rw [if_pos h]
      exact .inr ⟨0, by simp, rfl, by simpa [HP.at_] using h, fun q hq => absurd hq (Nat.not_lt_zero _)⟩
    · rw [if_neg h]
      have h' : p a = true := by simpa using h
      rcases idxS_at p l (i + 1) with ⟨h1, h2⟩ | ⟨j, h1, h2, h3, h4⟩
      · refine .inl ⟨h1, fun b hb => ?_⟩
        rcases List.mem_cons.1 hb with rfl | hb
        · exact h'
        · exact h2 b hb
      · refine .inr ⟨j + 1, by simpa using h1, by rw [h2]; congr 1; omega, by simpa [HP.at_] using h3, fun q hq => ?_⟩
        cases q with
        | zero => simpa [HP.at_] using h'
        | succ q => simpa [HP.at_] using h4 q (by omega)
end
end VX
