/- Lists of bytes, as slices have them: in plain Lean. -/
import Derived.Test.YtgnfgjlfmmpalaaSpMore
import Derived.Test.YtgnfgjlfmmpalaaBnSpec
import Derived.Test.YtgnfgjlfmmpalaaBnBack
import Derived.Test.YtgnfgjlfmmpalaaVxH
set_option linter.unusedSimpArgs false
set_option linter.unusedVariables false
namespace VX
open Go
theorem isInt_byteAt (l : List UInt8) (i : Nat) : isInt .u8 (byteAt l i) := ⟨_, rfl⟩
end VX
namespace VX
open Go
theorem min_i64 : IntKind.i64.min = -9223372036854775808 := by decide
theorem max_i64 : IntKind.i64.max = 9223372036854775807 := by decide
theorem min_u64 : IntKind.u64.min = 0 := by decide
theorem max_u64 : IntKind.u64.max = 18446744073709551615 := by decide
theorem min_u8 : IntKind.u8.min = 0 := by decide
theorem max_u8 : IntKind.u8.max = 255 := by decide
end VX
namespace VX
open Go
end VX
namespace VX
open Go
end VX
namespace VX
end VX
