/- Walks: the reference reads numbers, entries, requests. -/
import Derived.Test.YtpgjheokcdpgjaaJo14V
import Derived.Test.YtpgjheokcdpgjaaPlB
import Derived.Test.YtpgjheokcdpgjaaVxI
set_option linter.unusedSimpArgs false
set_option linter.unusedVariables false
namespace Go.Proofs.Ytpgjheokcdpgjaa
open VX
set_option maxRecDepth 100000
set_option maxHeartbeats 4000000
end Go.Proofs.Ytpgjheokcdpgjaa
