/- How many may wait: plain Lean. -/
import Derived.Test.YtpgjheokcdpgjaaPoLaw2
set_option linter.unusedSimpArgs false
set_option linter.unusedVariables false
namespace VX
open Go

end VX
