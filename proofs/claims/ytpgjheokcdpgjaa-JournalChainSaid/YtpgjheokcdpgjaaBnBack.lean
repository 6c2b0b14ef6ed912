/- What was put together is read back, in plain Lean. -/
import Derived.Test.YtpgjheokcdpgjaaBnSpec
set_option linter.unusedSimpArgs false
set_option linter.unusedVariables false
namespace VX
open Go
theorem u8_nat (n : Int) : (UInt8.ofNat (n % 256).toNat).toNat = (n % 256).toNat := by
  rw [UInt8.toNat_ofNat']
  omega
theorem le_dig (n : Int) (x : Nat) (h0 : 0 ≤ n) (hx : (x : Int) = n / 256) : (((UInt8.ofNat (n % 256).toNat).toNat + 256 * x : Nat) : Int) = n := by
  rw [u8_nat]; omega
theorem leN_numS (n : Int) (h : inr .u64 n) : ((leN (numS n) : Nat) : Int) = n := by
  rw [inr_u64] at h
  obtain ⟨h0, h1⟩ := h
  have e : numS n = [UInt8.ofNat ((n / 2 ^ (8 * 0)) % 256).toNat, UInt8.ofNat ((n / 2 ^ (8 * 1)) % 256).toNat, UInt8.ofNat ((n / 2 ^ (8 * 2)) % 256).toNat, UInt8.ofNat ((n / 2 ^ (8 * 3)) % 256).toNat, UInt8.ofNat ((n / 2 ^ (8 * 4)) % 256).toNat, UInt8.ofNat ((n / 2 ^ (8 * 5)) % 256).toNat, UInt8.ofNat ((n / 2 ^ (8 * 6)) % 256).toNat, UInt8.ofNat ((n / 2 ^ (8 * 7)) % 256).toNat] := by
    simp only [numS, show List.range 8 = [0, 1, 2, 3, 4, 5, 6, 7] from rfl, List.map_cons, List.map_nil]
  rw [e]
  simp only [leN]
  have q0 : n / 2 ^ (8 * 0) = n := by omega
  have q1 : n / 2 ^ (8 * 1) = n / 2 ^ (8 * 0) / 256 := by omega
  have q2 : n / 2 ^ (8 * 2) = n / 2 ^ (8 * 1) / 256 := by omega
  have q3 : n / 2 ^ (8 * 3) = n / 2 ^ (8 * 2) / 256 := by omega
  have q4 : n / 2 ^ (8 * 4) = n / 2 ^ (8 * 3) / 256 := by omega
  have q5 : n / 2 ^ (8 * 5) = n / 2 ^ (8 * 4) / 256 := by omega
  have q6 : n / 2 ^ (8 * 6) = n / 2 ^ (8 * 5) / 256 := by omega
  have q7 : n / 2 ^ (8 * 7) = n / 2 ^ (8 * 6) / 256 := by omega
  have p : ∀ k, 0 ≤ n / 2 ^ k := fun k => Int.ediv_nonneg h0 (by exact Int.le_of_lt (Int.pow_pos (by decide)))
  refine (le_dig _ _ (p _) ((le_dig _ _ (p _) ((le_dig _ _ (p _) ((le_dig _ _ (p _) ((le_dig _ _ (p _) ((le_dig _ _ (p _) ((le_dig _ _ (p _) ((le_dig _ _ (p _) ?_).trans q7)).trans q6)).trans q5)).trans q4)).trans q3)).trans q2)).trans q1)).trans q0
  omega
theorem numR_app (n : Int) (h : inr .u64 n) (l : List UInt8) : numR ⟨numS n ++ l, 0⟩ = (n, ⟨l, 0⟩) := by
  have e : rawS ⟨numS n ++ l, 0⟩ 8 = (numS n, ⟨l, 0⟩) := by
    rw [show (8 : Int) = ((8 : Nat) : Int) from rfl, rawS_nat _ _ (by rw [List.length_append, numS_length]; omega)]
    rw [List.take_append_of_le_length (by rw [numS_length]; omega), List.take_of_length_le (by rw [numS_length]; omega), List.drop_append_of_le_length (by rw [numS_length]; omega), List.drop_of_length_le (by rw [numS_length]; omega)]
    rfl
  unfold numR
  rw [e]
  simp only [leN_numS n h]
theorem lumpR_app (x l : List UInt8) (m : Nat) (hx : x.length ≤ m) (hm : m ≤ 1000000000000) : lumpR ⟨lumpS x ++ l, 0⟩ m = (x, ⟨l, 0⟩) := by
  have e : numR ⟨lumpS x ++ l, 0⟩ = ((x.length : Int), ⟨x ++ l, 0⟩) := by
    unfold lumpS
    rw [List.append_assoc]
    exact numR_app _ (inr_u64.2 ⟨by omega, by omega⟩) _
  unfold lumpR
  rw [e, if_neg (by simp), if_neg (by rw [mx_nat]; show ¬ ((m : Int) < (x.length : Int)); omega)]
  show rawS ⟨x ++ l, 0⟩ ((x.length : Nat) : Int) = _
  rw [rawS_nat _ _ (by rw [List.length_append]; omega), List.take_left' rfl, List.drop_left' rfl]
end VX
namespace VX
open Go
theorem lumpR_len (r : Rd) (m : Int) : (lumpR r m).2.l.length ≤ r.l.length := by
  have h1 := (numR_facts r).2
  unfold lumpR
  split
  · exact h1
  · split
    · exact Nat.zero_le _
    · exact Nat.le_trans (rawS_facts _ _).2.2.2 h1
end VX
