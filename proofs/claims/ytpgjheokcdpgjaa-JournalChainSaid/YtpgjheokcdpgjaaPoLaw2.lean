/- Those that are picked: order and names, plain Lean. -/
import Derived.Test.YtpgjheokcdpgjaaPoLaw
set_option linter.unusedSimpArgs false
set_option linter.unusedVariables false
namespace VX
open Go

/-! ### of like deadlines -/
end VX
