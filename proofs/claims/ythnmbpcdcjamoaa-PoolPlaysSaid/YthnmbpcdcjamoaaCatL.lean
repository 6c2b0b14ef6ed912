/- Elements behind one another. -/
import Derived.Test.YthnmbpcdcjamoaaByL
set_option linter.unusedSimpArgs false
set_option linter.unusedVariables false
namespace VX
open Go
/-- The first so many are alike, told one by one. -/
def allSim (g h : Nat → A) : Nat → Prop
  | 0 => True
  | n + 1 => allSim g h n ∧ g n = h n
theorem sim_lit {g h : Nat → A} : ∀ {n : Nat}, allSim g h n → ∀ i, i < n → (g i).sim (h i)
  | 0, _, i, hi => absurd hi (Nat.not_lt_zero i)
  | n + 1, H, i, hi => by
    rcases Nat.lt_or_ge i n with h1 | h1
    · exact sim_lit H.1 i h1
    · have : i = n := by omega
      subst this
      exact A.sim.of H.2
theorem cat0 {n : Nat} (g h : Nat → A) : ∀ i, i < n → (catF 0 g h i).sim (h i) := fun _ _ => A.sim.refl _
theorem catF_lt {n i : Nat} {g h : Nat → A} (hi : i < n) : catF n g h i = g i := by
  cases n with
  | zero => omega
  | succ n =>
    have : Nat.blt i (n + 1) = true := by simp [Nat.blt]; omega
    simp [catF, this]
theorem catF_ge {n i : Nat} {g h : Nat → A} (hi : n ≤ i) : catF n g h i = h (i - n) := by
  cases n with
  | zero => rfl
  | succ n =>
    have : Nat.blt i (n + 1) = false := by
      cases e : Nat.blt i (n + 1) with
      | false => rfl
      | true => simp [Nat.blt] at e; omega
    simp [catF, this]
end VX
