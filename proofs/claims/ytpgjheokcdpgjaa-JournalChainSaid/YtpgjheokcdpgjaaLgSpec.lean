/- Logs as trees, in plain Lean: lengths of numbers, splits. -/
import Derived.Test.YtpgjheokcdpgjaaByL
set_option linter.unusedSimpArgs false
set_option linter.unusedVariables false
namespace VX
open Go
theorem byte_wrap (b : UInt8) : IntKind.i64.wrap (b.toNat : Int) = b.toNat := by
  have := UInt8.toNat_lt b
  exact wrap_i64_in (by omega) (by omega)
end VX
namespace VX
open Go
end VX
namespace VX
open Go
end VX
namespace VX
end VX
