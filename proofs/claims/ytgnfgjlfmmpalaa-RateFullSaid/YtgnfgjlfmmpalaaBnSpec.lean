/- What readers of bytes tell, in plain Lean. -/
import Derived.Test.YtgnfgjlfmmpalaaSpSpec
import Derived.Test.YtgnfgjlfmmpalaaVxH
set_option linter.unusedSimpArgs false
set_option linter.unusedVariables false
namespace VX
open Go
/-- A reader: what is left, the first error. -/
def rd (l : List UInt8) (e : Int) : Obj := .var (.agg [bytesA l, .int .i64 e])
structure Rd where
  l : List UInt8
  e : Int
  deriving DecidableEq
def Rd.o (r : Rd) : Obj := rd r.l r.e
/-- No number below naught. -/
def mx (n : Int) : Nat := (if n < 0 then 0 else n).toNat
end VX
