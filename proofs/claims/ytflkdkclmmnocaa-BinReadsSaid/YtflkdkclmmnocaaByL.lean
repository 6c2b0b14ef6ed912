/- Lists of bytes, as slices have them: in plain Lean. -/
import Derived.Test.YtflkdkclmmnocaaSpMore
import Derived.Test.YtflkdkclmmnocaaBnSpec
import Derived.Test.YtflkdkclmmnocaaBnBack
import Derived.Test.YtflkdkclmmnocaaVxH
set_option linter.unusedSimpArgs false
set_option linter.unusedVariables false
namespace VX
open Go
theorem cat_fun {l m : List UInt8} {n : Nat} (hn : n = l.length) : catF n (byteAt l) (byteAt m) = byteAt (l ++ m) := by
  subst hn; funext j; exact cat_bytes l m j
theorem shift_fun (o : Nat) (l : List UInt8) : shiftF o (byteAt l) = byteAt (l.drop o) := by
  funext j
  cases o with
  | zero => rfl
  | succ o => exact drop_at l (o + 1) j
theorem bytes_fun {n : Nat} {l : List UInt8} (h : n = l.length) : bytesOf n (byteAt l) = l := by
  subst h
  apply List.ext_getElem
  · simp [bytesOf]
  · intro i h1 h2
    simp only [bytesOf, List.getElem_map, List.getElem_range, byteAt, byte, byteOf, List.getD_eq_getElem?_getD, List.getElem?_eq_getElem h2, Option.getD_some]
    simp
theorem bytes_take {n : Nat} {l : List UInt8} (h : n ≤ l.length) : bytesOf n (byteAt l) = l.take n := by
  have : bytesOf n (byteAt l) = bytesOf n (byteAt (l.take n)) := by
    unfold bytesOf
    apply List.map_congr_left
    intro i hi
    rw [take_at l n i (by simpa using hi)]
  rw [this]
  exact bytes_fun (by rw [List.length_take]; omega)
theorem isInt_byteAt (l : List UInt8) (i : Nat) : isInt .u8 (byteAt l i) := ⟨_, rfl⟩
theorem take_fun {n : Nat} {l : List UInt8} {i : Nat} (h : i < n) : byteAt (l.take n) i = byteAt l i := (take_at l n i h).symm
theorem sim_bytes {l m : List UInt8} {n : Nat} (h : ∀ i, i < n → l.getD i 0 = m.getD i 0) : ∀ i, i < n → (byteAt l i).sim (byteAt m i) := fun i hi => A.sim.of (by unfold byteAt; rw [h i hi])
theorem sim_eq {l m : List UInt8} {n : Nat} (h : l = m) : ∀ i, i < n → (byteAt l i).sim (byteAt m i) := fun i hi => A.sim.of (by rw [h])
theorem byteAt_nil (i : Nat) : byteAt [] i = .int .u8 0 := rfl
end VX
namespace VX
open Go
theorem min_i64 : IntKind.i64.min = -9223372036854775808 := by decide
theorem max_i64 : IntKind.i64.max = 9223372036854775807 := by decide
theorem min_u64 : IntKind.u64.min = 0 := by decide
theorem max_u64 : IntKind.u64.max = 18446744073709551615 := by decide
theorem min_u8 : IntKind.u8.min = 0 := by decide
theorem max_u8 : IntKind.u8.max = 255 := by decide
end VX
