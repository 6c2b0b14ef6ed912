/- What readers of bytes tell, in plain Lean. -/
import Derived.Test.YtpgjheokcdpgjaaSpSpec
import Derived.Test.YtpgjheokcdpgjaaVxI
set_option linter.unusedSimpArgs false
set_option linter.unusedVariables false
namespace VX
open Go
/-- A reader: what is left, the first error. -/
def rd (l : List UInt8) (e : Int) : Obj := .var (.agg [bytesA l, .int .i64 e])
structure Rd where
  l : List UInt8
  e : Int
  deriving DecidableEq
def Rd.o (r : Rd) : Obj := rd r.l r.e
/-- No number below naught. -/
def mx (n : Int) : Nat := (if n < 0 then 0 else n).toNat
theorem mx_eq (n : Int) : (if n < 0 then 0 else n) = (mx n : Int) := by unfold mx; split <;> omega
/-- Raw bytes: what is told, and the reader after it. -/
def rawS (r : Rd) (n : Int) : List UInt8 × Rd :=
  if r.e ≠ 0 then ([], r)
  else if r.l.length < mx n then ([], ⟨[], 21⟩)
  else (r.l.take (mx n), ⟨r.l.drop (mx n), 0⟩)
theorem rawS_e {l : List UInt8} {e n : Int} (h : ¬ e = 0) : rawS ⟨l, e⟩ n = ([], ⟨l, e⟩) := if_pos h
theorem rawS_s {l : List UInt8} {e n : Int} (h : e = 0) (hb : (l.length : Int) < if n < 0 then 0 else n) : rawS ⟨l, e⟩ n = ([], ⟨[], 21⟩) := by
  unfold rawS
  rw [if_neg (by simpa using h), if_pos (by rw [mx_eq] at hb; exact Int.ofNat_lt.1 hb)]
theorem rawS_n {l : List UInt8} {e n : Int} (h : e = 0) (h0 : 0 ≤ n) (hb : (l.length : Int) < n) : rawS ⟨l, e⟩ n = ([], ⟨[], 21⟩) := rawS_s h (by rw [if_neg (Int.not_lt.2 h0)]; exact hb)
theorem rawS_k {l : List UInt8} {e n : Int} (h : e = 0) (hb : (if n < 0 then 0 else n) ≤ (l.length : Int)) : rawS ⟨l, e⟩ n = (l.take (mx n), ⟨l.drop (mx n), 0⟩) := by
  unfold rawS
  rw [if_neg (by simpa using h), if_neg (by rw [mx_eq] at hb; exact Nat.not_lt.2 (Int.ofNat_le.1 hb))]
theorem take_len {l : List UInt8} {n : Int} (hb : (if n < 0 then 0 else n) ≤ (l.length : Int)) : mx n = (l.take (mx n)).length := by
  rw [mx_eq] at hb
  rw [List.length_take]; omega
theorem drop_at (l : List UInt8) (n i : Nat) : byteAt l (n + i) = byteAt (l.drop n) i := by
  unfold byteAt
  rw [List.getD_eq_getElem?_getD, List.getD_eq_getElem?_getD, List.getElem?_drop]
theorem take_sim (l : List UInt8) (n : Nat) : ∀ i, i < n → (byteAt l i).sim (byteAt (l.take n) i) := fun i hi => by rw [← take_at l n i hi]; exact .refl _
theorem drop_sim (l : List UInt8) (k m : Nat) : ∀ i, i < m → (shiftF k (byteAt l) i).sim (byteAt (l.drop k) i) := fun i _ => by
  rw [← drop_at]
  cases k with
  | zero => rw [Nat.zero_add]; exact .refl _
  | succ k => exact .refl _
theorem drop_len (l : List UInt8) (k : Nat) : l.length - k = (l.drop k).length := List.length_drop.symm
theorem rawS_facts (r : Rd) (n : Int) : (rawS r n).1.length ≤ mx n ∧ ((rawS r n).2.e = 0 → (rawS r n).1.length = mx n) ∧ ((rawS r n).2.e ≠ 0 → (rawS r n).1 = []) ∧ (rawS r n).2.l.length ≤ r.l.length := by
  unfold rawS
  by_cases h1 : r.e ≠ 0
  · rw [if_pos h1]; exact ⟨Nat.zero_le _, fun h => absurd h h1, fun _ => rfl, Nat.le_refl _⟩
  · rw [if_neg h1]
    by_cases h2 : r.l.length < mx n
    · rw [if_pos h2]; exact ⟨Nat.zero_le _, fun h => absurd h (by decide), fun _ => rfl, Nat.zero_le _⟩
    · rw [if_neg h2]
      refine ⟨List.length_take_le _ _, fun _ => ?_, fun h => absurd rfl h, ?_⟩
      · simp only [List.length_take]; omega
      · simp only [List.length_drop]; omega
/-- A number. -/
def numR (r : Rd) : Int × Rd := ((leN (rawS r 8).1 : Nat), (rawS r 8).2)
theorem numR_facts (r : Rd) : inr .u64 (numR r).1 ∧ (numR r).2.l.length ≤ r.l.length := by
  obtain ⟨h1, _, _, h4⟩ := rawS_facts r 8
  refine ⟨inr_u64.2 ⟨by unfold numR; omega, ?_⟩, h4⟩
  have := leN_lt (rawS r 8).1
  have h8 : 256 ^ (rawS r 8).1.length ≤ 256 ^ 8 := Nat.pow_le_pow_right (by decide) h1
  show ((leN (rawS r 8).1 : Nat) : Int) ≤ _
  have : leN (rawS r 8).1 < 256 ^ 8 := Nat.lt_of_lt_of_le this h8
  omega
/-- A lump of at most so many bytes. -/
def lumpR (r : Rd) (most : Int) : List UInt8 × Rd :=
  if (numR r).2.e ≠ 0 then ([], (numR r).2)
  else if (mx most : Int) < (numR r).1 then ([], ⟨[], 22⟩)
  else rawS (numR r).2 (numR r).1
/-- Nil stands for a slice of nothing. -/
theorem A.sim.nil0 {sz : Nat} {g : Nat → A} : A.nils.sim (.ro sz 0 g) := by
  refine ⟨rfl, rfl, fun _ _ => ⟨trivial, trivial⟩, fun _ _ I vs hr => ?_⟩
  simp only [A.cells] at hr ⊢
  obtain ⟨u, rfl, h1⟩ := hr.one_inv
  cases h1.nils_inv
  exact .cons .ro0 .nil
theorem mx_nat (m : Nat) : mx (m : Int) = m := by unfold mx; split <;> omega
theorem rawS_nat (l : List UInt8) (m : Nat) (h : m ≤ l.length) : rawS ⟨l, 0⟩ (m : Int) = (l.take m, ⟨l.drop m, 0⟩) := by
  rw [rawS_k rfl (by split <;> omega), mx_nat]
theorem flat_len (L : List (List UInt8)) (i : Nat) (h : i < L.length) : (L.take i).flatten.length + (L.getD i []).length = (L.take (i + 1)).flatten.length := by
  rw [List.take_succ_eq_append_getElem h, List.flatten_append, List.length_append, List.getD_eq_getElem?_getD, List.getElem?_eq_getElem h]
  simp
theorem flat_snoc (L : List (List UInt8)) (i : Nat) (h : i < L.length) : (L.take (i + 1)).flatten = (L.take i).flatten ++ L.getD i [] := by
  rw [List.take_succ_eq_append_getElem h, List.flatten_append, List.getD_eq_getElem?_getD, List.getElem?_eq_getElem h]
  simp
theorem flat_cat (L : List (List UInt8)) (i : Nat) (h : i < L.length) : ∀ j, j < (L.take (i + 1)).flatten.length → (catF (L.take i).flatten.length (byteAt (L.take i).flatten) (byteAt (L.getD i default)) j).sim (byteAt (L.take (i + 1)).flatten j) := by
  intro j hj
  have hl := flat_len L i h
  rw [flat_snoc L i h]
  exact cat_sim rfl (fun _ _ => rfl) (fun _ _ => rfl) (by show j < _ + (L.getD i []).length; omega)
theorem flat_le (L : List (List UInt8)) (i : Nat) : (L.take i).flatten.length ≤ L.flatten.length := by
  conv => rhs; rw [← List.take_append_drop i L, List.flatten_append, List.length_append]
  omega
end VX
