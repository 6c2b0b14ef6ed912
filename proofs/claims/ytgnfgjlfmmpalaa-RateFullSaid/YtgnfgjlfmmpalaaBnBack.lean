/- What was put together is read back, in plain Lean. -/
import Derived.Test.YtgnfgjlfmmpalaaBnSpec
set_option linter.unusedSimpArgs false
set_option linter.unusedVariables false
namespace VX
open Go
end VX
namespace VX
open Go
end VX
