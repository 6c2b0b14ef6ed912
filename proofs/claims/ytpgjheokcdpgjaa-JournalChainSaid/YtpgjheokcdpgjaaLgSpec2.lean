/- Logs as trees, in plain Lean: paths, and what they lead to. -/
import Derived.Test.YtpgjheokcdpgjaaLgSpec
set_option linter.unusedSimpArgs false
set_option linter.unusedVariables false
namespace VX
open Go
end VX
namespace VX
end VX
namespace VX
open Go
end VX
namespace VX
end VX
namespace VX
open Go
end VX
namespace VX
end VX
namespace VX
end VX
namespace VX
end VX
