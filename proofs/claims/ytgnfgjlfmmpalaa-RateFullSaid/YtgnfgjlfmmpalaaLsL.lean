/- Lists of data in slices: setting, swapping, keeping those that fit. -/
import Derived.Test.YtgnfgjlfmmpalaaCatL
import Derived.Test.YtgnfgjlfmmpalaaHpSpec
set_option linter.unusedSimpArgs false
set_option linter.unusedVariables false
set_option linter.unusedSectionVars false
namespace VX
open Go
section
variable {α : Type} [Inhabited α]
/-! ### keeping those that fit -/
def kept (p : α → Bool) (l : List α) (j : Nat) : List α := (l.take j).filter p
end
end VX
