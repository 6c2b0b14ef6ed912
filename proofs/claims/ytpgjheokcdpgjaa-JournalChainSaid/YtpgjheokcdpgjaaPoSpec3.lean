/- A pool of requests that wait: those that are picked, in plain Lean. -/
import Derived.Test.YtpgjheokcdpgjaaPoSpec2
set_option linter.unusedSimpArgs false
set_option linter.unusedVariables false
namespace VX
open Go

end VX
