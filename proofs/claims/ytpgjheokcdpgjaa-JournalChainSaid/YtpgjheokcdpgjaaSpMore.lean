/- More on bytes. -/
import Derived.Test.YtpgjheokcdpgjaaSpSpec
set_option linter.unusedSimpArgs false
set_option linter.unusedVariables false
namespace VX
open Go
theorem A.sim.ro' {sz n m : Nat} {g g' : Nat → A} (hn : n = m) (h : ∀ i, i < n → (g i).sim (g' i)) : (A.ro sz n g).sim (.ro sz m g') := by
  subst hn; exact .ro h
end VX
namespace VX
open Go
end VX
