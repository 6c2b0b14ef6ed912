/- How numbers, strings, and what is due stand to one another: strict total orders. -/
import Derived.Test.YtpgjheokcdpgjaaLsL
import Derived.Test.YtpgjheokcdpgjaaSrSpec
set_option linter.unusedSimpArgs false
set_option linter.unusedVariables false
namespace VX
open Go
/-- What is due: when, of which class, how often served, who. -/
structure Due where
  at_ : Int
  cls : Int
  rank : Int
  name : List UInt8
  deriving DecidableEq
instance : Inhabited Due := ⟨⟨0, 0, 0, []⟩⟩
end VX
