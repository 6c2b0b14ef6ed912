/- Parts, one behind another, in plain Lean. -/
import Derived.Test.YtinlkodebiifjaaFrSpec2
set_option linter.unusedSimpArgs false
set_option linter.unusedVariables false
namespace VX
def accL {α : Type} (f : Nat → List α) (i : Nat) : List α := (List.range i).flatMap f
def rstL {α : Type} (f : Nat → List α) (n i : Nat) : List α := (List.range' i (n - i)).flatMap f
theorem accL_succ {α : Type} (f : Nat → List α) (i : Nat) : accL f (i + 1) = accL f i ++ f i := by
  unfold accL
  rw [List.range_succ, List.flatMap_append]
  simp
theorem rstL_succ {α : Type} (f : Nat → List α) {n i : Nat} (h : i < n) : rstL f n i = f i ++ rstL f n (i + 1) := by
  unfold rstL
  rw [show n - i = (n - (i + 1)) + 1 by omega, List.range'_succ, List.flatMap_cons]
theorem rstL_end {α : Type} (f : Nat → List α) (n : Nat) : rstL f n n = [] := by simp [rstL]
theorem rstL_zero {α : Type} (f : Nat → List α) (n : Nat) : rstL f n 0 = accL f n := by
  unfold rstL accL
  rw [Nat.sub_zero, List.range_eq_range']
theorem acc_rst {α : Type} (f : Nat → List α) (n : Nat) : ∀ k i, i + k = n → accL f i ++ rstL f n i = accL f n
  | 0, i, h => by
    have : i = n := by omega
    subst this
    rw [rstL_end, List.append_nil]
  | k + 1, i, h => by
    rw [rstL_succ f (by omega), ← List.append_assoc, ← accL_succ]
    exact acc_rst f n k (i + 1) (by omega)
theorem accL_len {α : Type} (f : Nat → List α) (c : Nat) : ∀ i, (∀ j, j < i → (f j).length ≤ c) → (accL f i).length ≤ c * i
  | 0, _ => by simp [accL]
  | i + 1, h => by
    have ih := accL_len f c i fun j hj => h j (by omega)
    have := h i (by omega)
    rw [accL_succ, List.length_append, Nat.mul_succ]
    omega
end VX
