/- Walks: names. -/
import Derived.Test.YtgnfgjlfmmpalaaRa18
import Derived.Test.YtgnfgjlfmmpalaaLsL
import Derived.Test.YtgnfgjlfmmpalaaVxH
set_option linter.unusedSimpArgs false
set_option linter.unusedVariables false
namespace Go.Proofs.Ytgnfgjlfmmpalaa
open VX
set_option maxRecDepth 100000
set_option maxHeartbeats 4000000

end Go.Proofs.Ytgnfgjlfmmpalaa
