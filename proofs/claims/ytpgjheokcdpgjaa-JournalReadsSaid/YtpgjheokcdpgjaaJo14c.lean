/- Walks: the statements of layer 14. -/
import Derived.Test.YtpgjheokcdpgjaaJo14h
import Derived.Test.YtpgjheokcdpgjaaJo14e
import Derived.Test.YtpgjheokcdpgjaaPlB
import Derived.Test.YtpgjheokcdpgjaaVxI
set_option linter.unusedSimpArgs false
set_option linter.unusedVariables false
namespace Go.Proofs.Ytpgjheokcdpgjaa
open VX
set_option maxRecDepth 100000
set_option maxHeartbeats 4000000
theorem nameS_len (k : UInt8) : 1 ≤ (nameS k).length ∧ (nameS k).length ≤ 32 := by
  have h : k.toNat % 6 < 6 := Nat.mod_lt _ (by decide)
  unfold nameS
  generalize k.toNat % 6 = i at h
  have : i = 0 ∨ i = 1 ∨ i = 2 ∨ i = 3 ∨ i = 4 ∨ i = 5 := by omega
  rcases this with rfl | rfl | rfl | rfl | rfl | rfl <;> decide
end Go.Proofs.Ytpgjheokcdpgjaa
