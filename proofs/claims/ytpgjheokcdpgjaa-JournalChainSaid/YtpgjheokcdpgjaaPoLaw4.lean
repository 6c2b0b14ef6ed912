/- What is synced: plain Lean. -/
import Derived.Test.YtpgjheokcdpgjaaPoLaw3
set_option linter.unusedSimpArgs false
set_option linter.unusedVariables false
namespace VX
open Go

end VX
