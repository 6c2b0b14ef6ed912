/- Lists of data in slices: setting, swapping, keeping those that fit. -/
import Derived.Test.YtgnfgjlfmmpalaaCatL
import Derived.Test.YtgnfgjlfmmpalaaHpSpec
set_option linter.unusedSimpArgs false
set_option linter.unusedVariables false
set_option linter.unusedSectionVars false
namespace VX
open Go
section
variable {α : Type} [Inhabited α]
/-- The elements of a list, as they lie in an array. -/
def lsA (f : α → A) (l : List α) : Nat → A := fun i => f (l.getD i default)
theorem ls_snoc {f : α → A} {a : List α} (d : α) {n m : Nat} (hn : n = a.length) {g : Nat → A} (hg : (g 0) = f d) (hm : m ≤ n + 1) : ∀ k, k < m → (catF n (lsA f a) g k).sim (lsA f (a ++ [d]) k) := fun k hk => A.sim.of (by
  subst hn
  unfold lsA
  by_cases h : k < a.length
  · rw [catF_lt h]
    simp only [List.getD_eq_getElem?_getD]
    rw [List.getElem?_append_left h]
  · have : k = a.length := by omega
    subst this
    rw [catF_ge (Nat.le_refl _), Nat.sub_self, hg]
    simp [List.getD_eq_getElem?_getD])
/-! ### keeping those that fit -/
def kept (p : α → Bool) (l : List α) (j : Nat) : List α := (l.take j).filter p
end
end VX
