/- More on bytes. -/
import Derived.Test.YthnmbpcdcjamoaaSpSpec
set_option linter.unusedSimpArgs false
set_option linter.unusedVariables false
namespace VX
open Go
theorem A.sim.ro' {sz n m : Nat} {g g' : Nat → A} (hn : n = m) (h : ∀ i, i < n → (g i).sim (g' i)) : (A.ro sz n g).sim (.ro sz m g') := by
  subst hn; exact .ro h
theorem zero_fill (c : UInt8) (m j : Nat) (h : j < m) : (A.int .u8 0).sim (byteAt (fillB c m 0) j) := by
  refine .of ?_
  unfold byteAt fillB
  rw [List.replicate_zero, List.nil_append, List.getD_eq_getElem?_getD, List.getElem?_replicate, if_pos (by omega)]
  rfl
theorem lent_take (l : List UInt8) (n : Nat) {i : Nat} (h : i < n) : (byteAt l (0 + i)).sim (byteAt (l.take n) i) := by
  rw [Nat.zero_add]; exact .of (take_at l n i h)
theorem lent_all (l : List UInt8) (i : Nat) : (byteAt l (0 + i)).sim (byteAt l i) := by
  rw [Nat.zero_add]; exact .refl _
theorem lent_cat (l : List UInt8) (n : Nat) (b : UInt8) {h : Nat → A} (hh : h 0 = byte b) (hn : n ≤ l.length) {i : Nat} (hi : i < n + 1) : (catF n (byteAt l) h (0 + i)).sim (byteAt (l.take n ++ [b]) i) := by
  rw [Nat.zero_add, catF_eq]
  refine .of ?_
  by_cases e : i < n
  · rw [if_pos e, take_at l n i e]
    unfold byteAt
    rw [List.getD_eq_getElem?_getD, List.getD_eq_getElem?_getD, List.getElem?_append_left (by rw [List.length_take]; omega)]
  · have : i = n := by omega
    subst this
    rw [if_neg e, Nat.sub_self, hh]
    unfold byteAt
    rw [List.getD_eq_getElem?_getD, List.getElem?_append_right (by rw [List.length_take]; omega), List.length_take, Nat.min_eq_left hn, Nat.sub_self]
    rfl
theorem textS_one (tag : UInt8) (a : List UInt8) : textS tag [a] = tag :: (numS a.length ++ a) := by simp [textS, lumpS]
theorem textS_inj (tag : UInt8) (a b : List UInt8) : textS tag [a] = textS tag [b] ↔ a = b := by
  rw [textS_one, textS_one]
  constructor
  · intro h
    have h1 := (List.cons.injEq .. ▸ h).2
    exact (List.append_inj h1 (by rw [numS_length, numS_length])).2
  · rintro rfl; rfl
theorem textS_tag (tag other : UInt8) (a : List UInt8) : textS tag [a] = textS other [a] ↔ tag = other := by
  rw [textS_one, textS_one]
  constructor
  · intro h
    exact (List.cons.injEq .. ▸ h).1
  · rintro rfl; rfl
theorem textS_two (tag : UInt8) (a b : List UInt8) : textS tag [a, b] ≠ textS tag [a ++ b] := by
  intro h
  have := congrArg List.length h
  simp [textS, lumpS_length] at this
  omega
end VX
namespace VX
open Go
theorem lstF_const (a : A) : ∀ (n k : Nat), lstF (fun _ => a) k n = List.replicate n a
  | 0, _ => rfl
  | n + 1, k => by rw [lstF, lstF_const a n, List.replicate_succ]
theorem isInt_rep (k : IntKind) (v : Int) (n : Nat) (z : A) (i : Nat) (hi : i < n) : isInt k (listF z (fillL (lstF (fun _ => .int k v) 0 n) []) i) := by
  rw [fillL, lstF_const]
  unfold listF
  rw [List.getD_eq_getElem?_getD, List.getElem?_replicate, if_pos hi]
  exact ⟨v, rfl⟩
theorem u8_dec (a b : UInt8) : decide (((a.toNat : Nat) : Int) = ((b.toNat : Nat) : Int)) = decide (a = b) := by
  rw [decide_eq_decide]
  exact ⟨fun h => UInt8.toNat_inj.1 (by omega), fun h => by rw [h]⟩
end VX
