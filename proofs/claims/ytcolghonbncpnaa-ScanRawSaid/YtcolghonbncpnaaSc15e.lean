/- Walks: requests told by numbers. -/
import Derived.Test.YtcolghonbncpnaaSc15a
import Derived.Test.YtcolghonbncpnaaPlA
set_option linter.unusedSimpArgs false
set_option linter.unusedVariables false
namespace Go.Proofs.Ytcolghonbncpnaa
open VX
set_option maxRecDepth 100000
set_option maxHeartbeats 4000000
end Go.Proofs.Ytcolghonbncpnaa
