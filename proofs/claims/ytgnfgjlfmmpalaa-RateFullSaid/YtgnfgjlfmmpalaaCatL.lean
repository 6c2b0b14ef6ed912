/- Elements behind one another. -/
import Derived.Test.YtgnfgjlfmmpalaaByL
set_option linter.unusedSimpArgs false
set_option linter.unusedVariables false
namespace VX
open Go
end VX
