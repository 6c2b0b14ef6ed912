/- Elements behind one another. -/
import Derived.Test.YtpgjheokcdpgjaaByL
set_option linter.unusedSimpArgs false
set_option linter.unusedVariables false
namespace VX
open Go
theorem catF_lt {n i : Nat} {g h : Nat → A} (hi : i < n) : catF n g h i = g i := by
  cases n with
  | zero => omega
  | succ n =>
    have : Nat.blt i (n + 1) = true := by simp [Nat.blt]; omega
    simp [catF, this]
theorem catF_ge {n i : Nat} {g h : Nat → A} (hi : n ≤ i) : catF n g h i = h (i - n) := by
  cases n with
  | zero => rfl
  | succ n =>
    have : Nat.blt i (n + 1) = false := by
      cases e : Nat.blt i (n + 1) with
      | false => rfl
      | true => simp [Nat.blt] at e; omega
    simp [catF, this]
end VX
