/- Lists of bytes, as slices have them: in plain Lean. -/
import Derived.Test.YtpgjheokcdpgjaaSpMore
import Derived.Test.YtpgjheokcdpgjaaBnSpec
import Derived.Test.YtpgjheokcdpgjaaBnBack
import Derived.Test.YtpgjheokcdpgjaaVxI
set_option linter.unusedSimpArgs false
set_option linter.unusedVariables false
namespace VX
open Go
theorem cat_fun {l m : List UInt8} {n : Nat} (hn : n = l.length) : catF n (byteAt l) (byteAt m) = byteAt (l ++ m) := by
  subst hn; funext j; exact cat_bytes l m j
theorem shift_fun (o : Nat) (l : List UInt8) : shiftF o (byteAt l) = byteAt (l.drop o) := by
  funext j
  cases o with
  | zero => rfl
  | succ o => exact drop_at l (o + 1) j
theorem bytes_fun {n : Nat} {l : List UInt8} (h : n = l.length) : bytesOf n (byteAt l) = l := by
  subst h
  apply List.ext_getElem
  · simp [bytesOf]
  · intro i h1 h2
    simp only [bytesOf, List.getElem_map, List.getElem_range, byteAt, byte, byteOf, List.getD_eq_getElem?_getD, List.getElem?_eq_getElem h2, Option.getD_some]
    simp
theorem isInt_byteAt (l : List UInt8) (i : Nat) : isInt .u8 (byteAt l i) := ⟨_, rfl⟩
end VX
namespace VX
open Go
theorem min_i64 : IntKind.i64.min = -9223372036854775808 := by decide
theorem max_i64 : IntKind.i64.max = 9223372036854775807 := by decide
theorem min_u64 : IntKind.u64.min = 0 := by decide
theorem max_u64 : IntKind.u64.max = 18446744073709551615 := by decide
theorem min_u8 : IntKind.u8.min = 0 := by decide
theorem max_u8 : IntKind.u8.max = 255 := by decide
end VX
namespace VX
open Go
end VX
namespace VX
open Go
theorem sim2a {z a b : A} {h : Nat → A} (h0 : a.sim (h 0)) (h1 : b.sim (h 1)) : ∀ i, i < 2 → ((listF z (fillL (repl z 2) [(0, a), (1, b)])) i).sim (h i) := fun i hi => by
  match i, hi with
  | 0, _ => exact h0
  | 1, _ => exact h1
theorem sim1a {z a : A} {h : Nat → A} (h0 : a.sim (h 0)) : ∀ i, i < 1 → ((listF z (fillL (repl z 1) [(0, a)])) i).sim (h i) := fun i hi => by
  match i, hi with
  | 0, _ => exact h0
end VX
namespace VX
end VX
