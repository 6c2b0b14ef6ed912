/- Elements behind one another. -/
import Derived.Test.YthnmbpcdcjamoaaByL
set_option linter.unusedSimpArgs false
set_option linter.unusedVariables false
namespace VX
open Go
/-- The first so many are alike, told one by one. -/
def allSim (g h : Nat → A) : Nat → Prop
  | 0 => True
  | n + 1 => allSim g h n ∧ g n = h n
theorem sim_lit {g h : Nat → A} : ∀ {n : Nat}, allSim g h n → ∀ i, i < n → (g i).sim (h i)
  | 0, _, i, hi => absurd hi (Nat.not_lt_zero i)
  | n + 1, H, i, hi => by
    rcases Nat.lt_or_ge i n with h1 | h1
    · exact sim_lit H.1 i h1
    · have : i = n := by omega
      subst this
      exact A.sim.of H.2
theorem cat0 {n : Nat} (g h : Nat → A) : ∀ i, i < n → (catF 0 g h i).sim (h i) := fun _ _ => A.sim.refl _
theorem catF_lt {n i : Nat} {g h : Nat → A} (hi : i < n) : catF n g h i = g i := by
  cases n with
  | zero => omega
  | succ n =>
    have : Nat.blt i (n + 1) = true := by simp [Nat.blt]; omega
    simp [catF, this]
theorem catF_ge {n i : Nat} {g h : Nat → A} (hi : n ≤ i) : catF n g h i = h (i - n) := by
  cases n with
  | zero => rfl
  | succ n =>
    have : Nat.blt i (n + 1) = false := by
      cases e : Nat.blt i (n + 1) with
      | false => rfl
      | true => simp [Nat.blt] at e; omega
    simp [catF, this]
/-- Bytes behind bytes. -/
theorem cat_part {out b p : List UInt8} {o lo len m : Nat} (ho : o = out.length) (hp : (b.drop lo).take len = p) (hm : m ≤ o + len) : ∀ j, j < m → (catF o (byteAt out) (shiftF lo (byteAt b)) j).sim (byteAt (out ++ p) j) := fun j hj => A.sim.of (by
  subst ho
  rw [shift_fun, ← hp]
  have h1 : ∀ q, q < len → byteAt (b.drop lo) q = byteAt ((b.drop lo).take len) q := fun q hq => (take_fun hq).symm
  have : catF out.length (byteAt out) (byteAt (b.drop lo)) j = catF out.length (byteAt out) (byteAt ((b.drop lo).take len)) j := by
    cases hl : out.length with
    | zero => exact h1 j (by omega)
    | succ k =>
      show (bif Nat.blt j (k + 1) then _ else _) = (bif Nat.blt j (k + 1) then _ else _)
      by_cases hjk : j < k + 1
      · have : Nat.blt j (k + 1) = true := by simp [Nat.blt]; omega
        rw [this]; rfl
      · have : Nat.blt j (k + 1) = false := by
          cases e : Nat.blt j (k + 1) with
          | false => rfl
          | true => simp [Nat.blt] at e; omega
        rw [this]
        exact h1 _ (by omega)
  rw [this, cat_fun rfl])
end VX
