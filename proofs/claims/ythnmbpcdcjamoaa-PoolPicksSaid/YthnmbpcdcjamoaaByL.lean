/- Lists of bytes, as slices have them: in plain Lean. -/
import Derived.Test.YthnmbpcdcjamoaaSpMore
import Derived.Test.YthnmbpcdcjamoaaBnSpec
import Derived.Test.YthnmbpcdcjamoaaBnBack
import Derived.Test.YthnmbpcdcjamoaaVxI
set_option linter.unusedSimpArgs false
set_option linter.unusedVariables false
namespace VX
open Go
theorem cat_fun {l m : List UInt8} {n : Nat} (hn : n = l.length) : catF n (byteAt l) (byteAt m) = byteAt (l ++ m) := by
  subst hn; funext j; exact cat_bytes l m j
theorem shift_fun (o : Nat) (l : List UInt8) : shiftF o (byteAt l) = byteAt (l.drop o) := by
  funext j
  cases o with
  | zero => rfl
  | succ o => exact drop_at l (o + 1) j
theorem bytes_fun {n : Nat} {l : List UInt8} (h : n = l.length) : bytesOf n (byteAt l) = l := by
  subst h
  apply List.ext_getElem
  · simp [bytesOf]
  · intro i h1 h2
    simp only [bytesOf, List.getElem_map, List.getElem_range, byteAt, byte, byteOf, List.getD_eq_getElem?_getD, List.getElem?_eq_getElem h2, Option.getD_some]
    simp
theorem bytes_take {n : Nat} {l : List UInt8} (h : n ≤ l.length) : bytesOf n (byteAt l) = l.take n := by
  have : bytesOf n (byteAt l) = bytesOf n (byteAt (l.take n)) := by
    unfold bytesOf
    apply List.map_congr_left
    intro i hi
    rw [take_at l n i (by simpa using hi)]
  rw [this]
  exact bytes_fun (by rw [List.length_take]; omega)
theorem isInt_byteAt (l : List UInt8) (i : Nat) : isInt .u8 (byteAt l i) := ⟨_, rfl⟩
theorem take_fun {n : Nat} {l : List UInt8} {i : Nat} (h : i < n) : byteAt (l.take n) i = byteAt l i := (take_at l n i h).symm
theorem sim_bytes {l m : List UInt8} {n : Nat} (h : ∀ i, i < n → l.getD i 0 = m.getD i 0) : ∀ i, i < n → (byteAt l i).sim (byteAt m i) := fun i hi => A.sim.of (by unfold byteAt; rw [h i hi])
theorem sim_eq {l m : List UInt8} {n : Nat} (h : l = m) : ∀ i, i < n → (byteAt l i).sim (byteAt m i) := fun i hi => A.sim.of (by rw [h])
theorem byteAt_nil (i : Nat) : byteAt [] i = .int .u8 0 := rfl
end VX
namespace VX
open Go
theorem min_i64 : IntKind.i64.min = -9223372036854775808 := by decide
theorem max_i64 : IntKind.i64.max = 9223372036854775807 := by decide
theorem min_u64 : IntKind.u64.min = 0 := by decide
theorem max_u64 : IntKind.u64.max = 18446744073709551615 := by decide
theorem min_u8 : IntKind.u8.min = 0 := by decide
theorem max_u8 : IntKind.u8.max = 255 := by decide
end VX
namespace VX
open Go
theorem sl_take {α : Type} [Inhabited α] {f : α → A} (l : List α) (k : Nat) : ∀ i, i < k → (f (l.getD i default)).sim (f ((l.take k).getD i default)) := fun i hi => A.sim.of (by
  rw [List.getD_eq_getElem?_getD, List.getD_eq_getElem?_getD, List.getElem?_take_of_lt hi])
theorem sl_drop {α : Type} [Inhabited α] {f : α → A} (l : List α) (k m : Nat) : ∀ i, i < m → (shiftF k (fun i => f (l.getD i default)) i).sim (f ((l.drop k).getD i default)) := fun i _ => A.sim.of (by
  have e : f ((l.drop k).getD i default) = f (l.getD (k + i) default) := by rw [List.getD_eq_getElem?_getD, List.getD_eq_getElem?_getD, List.getElem?_drop]
  rw [e]
  cases k with
  | zero => rw [Nat.zero_add]; rfl
  | succ k => rfl)
theorem sl_get {α : Type} [Inhabited α] {p : α → Prop} {l : List α} (h : ∀ a ∈ l, p a) {i : Nat} (hi : i < l.length) : p (l.getD i default) := by
  rw [List.getD_eq_getElem?_getD, List.getElem?_eq_getElem hi]
  exact h _ (List.getElem_mem hi)
theorem all_take {α : Type} {p : α → Prop} {l : List α} (h : ∀ a ∈ l, p a) (k : Nat) : ∀ a ∈ l.take k, p a := fun a ha => h a (List.mem_of_mem_take ha)
theorem all_drop {α : Type} {p : α → Prop} {l : List α} (h : ∀ a ∈ l, p a) (k : Nat) : ∀ a ∈ l.drop k, p a := fun a ha => h a (List.mem_of_mem_drop ha)
end VX
namespace VX
open Go
theorem sim2a {z a b : A} {h : Nat → A} (h0 : a.sim (h 0)) (h1 : b.sim (h 1)) : ∀ i, i < 2 → ((listF z (fillL (repl z 2) [(0, a), (1, b)])) i).sim (h i) := fun i hi => by
  match i, hi with
  | 0, _ => exact h0
  | 1, _ => exact h1
theorem sim1a {z a : A} {h : Nat → A} (h0 : a.sim (h 0)) : ∀ i, i < 1 → ((listF z (fillL (repl z 1) [(0, a)])) i).sim (h i) := fun i hi => by
  match i, hi with
  | 0, _ => exact h0
end VX
namespace VX
theorem sim2b {z a b : A} {h : Nat → A} (h0 : a.sim (h 0)) (h1 : b.sim (h 1)) : ∀ i, i < 2 → ((listF z (fillL (repl z 2) [(0, a), (1, b)])) (0 + i)).sim (h i) := fun i hi => by
  rw [Nat.zero_add]; exact sim2a h0 h1 i hi
theorem sim1b {z a : A} {h : Nat → A} (h0 : a.sim (h 0)) : ∀ i, i < 1 → ((listF z (fillL (repl z 1) [(0, a)])) (0 + i)).sim (h i) := fun i hi => by
  rw [Nat.zero_add]; exact sim1a h0 i hi
end VX
