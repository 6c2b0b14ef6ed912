/- What the sponge's functions come to, in plain words: words of 64 bits as numbers, bytes as lists. -/
import Derived.Test.YtpgjheokcdpgjaaVxI
set_option linter.unusedSimpArgs false
set_option linter.unusedVariables false
namespace VX
open Go
def xr (a b : Int) : Int := bitsI .xor .u64 a b
def orr (a b : Int) : Int := bitsI .or .u64 a b
def an (a b : Int) : Int := bitsI .and .u64 a b
def ntw (a : Int) : Int := bitsI .xor .u64 18446744073709551615 a
def shr (a n : Int) : Int := shrI .u64 a n
def shl (a n : Int) : Int := shlI .u64 a n
def turn (x n : Int) : Int := orr (shr x n) (shl x (64 - n))
def turned (x a b : Int) : Int := xr (xr x (turn x a)) (turn x b)
def st (s : Nat → Int) : A := .vec 1 5 fun i => .int .u64 (s i)
def rnd (s : Nat → Int) (c : Int) : Nat → Int :=
  let a0 := xr (s 0) (s 4)
  let a2 := xr (xr (s 2) c) (s 1)
  let a4 := xr (s 4) (s 3)
  let t0 := xr a0 (an (ntw (s 1)) a2)
  let t1 := xr (s 1) (an (ntw a2) (s 3))
  let t2 := xr a2 (an (ntw (s 3)) a4)
  let t3 := xr (s 3) (an (ntw a4) a0)
  let t4 := xr a4 (an (ntw a0) (s 1))
  fun i => match i with
    | 0 => turned (xr t0 t4) 19 28
    | 1 => turned (xr t1 t0) 61 39
    | 2 => turned (ntw t2) 1 6
    | 3 => turned (xr t3 t2) 10 17
    | 4 => turned t4 7 41
    | _ => 0
def permN : Nat → (Nat → Int) → Nat → Int
  | 0, s => s
  | n + 1, s => rnd (permN n s) (240 - 15 * n)
def perm (s : Nat → Int) : Nat → Int := permN 12 s
def leN : List UInt8 → Nat
  | [] => 0
  | b :: l => b.toNat + 256 * leN l
def numS (n : Int) : List UInt8 := (List.range 8).map fun i => UInt8.ofNat ((n / 2 ^ (8 * i)) % 256).toNat

theorem orr_comm (a b : Int) : orr a b = orr b a := by
  unfold orr bitsI
  simp only
  rw [BitVec.or_comm]
theorem and63 : ∀ n : _root_.Fin 64, n.val ≠ 0 → bitsI .and .u64 (IntKind.u64.wrap (0 - (n.val : Int))) 63 = 64 - (n.val : Int) := by decide +kernel
theorem rot_s {n : Int} (h : 1 ≤ n ∧ n ≤ 63) : bitsI .and .u64 (IntKind.u64.wrap (-n)) 63 = 64 - n := by
  have := and63 ⟨n.toNat, by omega⟩ (by simp; omega)
  simp only at this
  rw [show ((n.toNat : Nat) : Int) = n by omega, Int.zero_sub] at this
  exact this
theorem bits_nat (a b : Nat) (ha : a < 2 ^ 64) (hb : b < 2 ^ 64) : bitsI .or .u64 (a : Int) (b : Int) = ((a ||| b : Nat) : Int) := by
  show IntKind.u64.wrap (((BitVec.ofInt 64 (a : Int)) ||| (BitVec.ofInt 64 (b : Int))).toNat : Int) = _
  rw [BitVec.ofInt_natCast, BitVec.ofInt_natCast, BitVec.toNat_or, BitVec.toNat_ofNat, BitVec.toNat_ofNat, Nat.mod_eq_of_lt ha, Nat.mod_eq_of_lt hb, wrap_u64]
  have := Nat.or_lt_two_pow ha hb
  omega
theorem or_add {a b k : Nat} (ha : a < 2 ^ k) : a ||| b * 2 ^ k = a + b * 2 ^ k := by
  have := Nat.two_pow_add_eq_or_of_lt ha b
  rw [Nat.mul_comm, Nat.or_comm, ← this, Nat.add_comm]
theorem leN_lt : ∀ l : List UInt8, leN l < 256 ^ l.length
  | [] => by simp [leN]
  | b :: l => by
    have := leN_lt l
    have hb := b.toNat_lt
    rw [leN, List.length_cons, Nat.pow_succ]
    omega
theorem leN_snoc : ∀ (l : List UInt8) (b : UInt8), leN (l ++ [b]) = leN l + b.toNat * 256 ^ l.length
  | [], b => by simp [leN]
  | c :: l, b => by
    rw [List.cons_append, leN, leN, leN_snoc l b, List.length_cons, Nat.pow_succ, Nat.mul_add]
    have : 256 * (b.toNat * 256 ^ l.length) = b.toNat * (256 ^ l.length * 256) := by rw [Nat.mul_left_comm, Nat.mul_comm 256]
    omega
theorem take_succ_getD (l : List UInt8) (k : Nat) (h : k < l.length) : l.take (k + 1) = l.take k ++ [l.getD k 0] := by
  rw [List.take_succ_eq_append_getElem h, List.getD_eq_getElem?_getD, List.getElem?_eq_getElem h]; rfl
/-- A byte more, from the lowest on. -/
theorem le_step (l : List UInt8) (k : Nat) (hk : k < l.length) (h8 : k < 8) :
    bitsI .or .u64 ((leN (l.take k) : Nat) : Int) (shlI .u64 (IntKind.u64.wrap ((l.getD k 0).toNat : Int)) ((8 * k : Nat) : Int)) = ((leN (l.take (k + 1)) : Nat) : Int) := by
  have hb := (l.getD k 0).toNat_lt
  have hlt := leN_lt (l.take k)
  have hlen : (l.take k).length = k := by rw [List.length_take]; omega
  rw [hlen] at hlt
  have e256 : (256 : Nat) ^ k = 2 ^ (8 * k) := by rw [Nat.pow_mul]
  rw [take_succ_getD l k hk, leN_snoc, hlen]
  have hsm : (l.getD k 0).toNat * 2 ^ (8 * k) < 2 ^ 64 := by
    have h1 : (l.getD k 0).toNat * 2 ^ (8 * k) < 2 ^ 8 * 2 ^ (8 * k) := Nat.mul_lt_mul_of_pos_right hb (Nat.two_pow_pos _)
    rw [← Nat.pow_add] at h1
    exact Nat.lt_of_lt_of_le h1 (Nat.pow_le_pow_right (by omega) (by omega))
  have hs : shlI .u64 (IntKind.u64.wrap ((l.getD k 0).toNat : Int)) ((8 * k : Nat) : Int) = (((l.getD k 0).toNat * 2 ^ (8 * k) : Nat) : Int) := by
    unfold shlI
    rw [wrap_u64_in (n := ((l.getD k 0).toNat : Int)) (by omega) (by omega), Int.toNat_natCast, show min (8 * k) IntKind.u64.bits = 8 * k by simp [IntKind.bits]; omega]
    rw [show ((l.getD k 0).toNat : Int) * 2 ^ (8 * k) = (((l.getD k 0).toNat * 2 ^ (8 * k) : Nat) : Int) by push_cast; rfl]
    exact wrap_u64_in (by omega) (by omega)
  rw [hs, bits_nat _ _ (by
    rw [e256] at hlt
    exact Nat.lt_of_lt_of_le hlt (Nat.pow_le_pow_right (by omega) (by omega))) hsm, or_add (by rw [← e256]; exact hlt), e256]
/-- A byte of a number. -/
theorem num_byte (n : Int) (h : inr .u64 n) (i : Nat) (hi : i < 8) : A.int .u8 (IntKind.u8.wrap (shrI .u64 n ((8 * i : Nat) : Int))) = byteAt (numS n) i := by
  rw [inr_u64] at h
  unfold shrI
  rw [Int.toNat_natCast, show min (8 * i) IntKind.u64.bits = 8 * i by simp [IntKind.bits]; omega, wrap_u8]
  have e : n.fdiv (2 ^ (8 * i)) = n / 2 ^ (8 * i) := Int.fdiv_eq_ediv_of_nonneg _ (Int.pow_nonneg (by omega))
  rw [e, byte_of (n := n / 2 ^ (8 * i) % 256) (by rw [inr_u8]; omega)]
  unfold byteAt numS
  rw [List.getD_eq_getElem?_getD, List.getElem?_map, List.getElem?_range hi]
  rfl
theorem numS_length (n : Int) : (numS n).length = 8 := by simp [numS]
end VX
namespace VX
open Go
def zeroH : A := .vec 1 32 fun _ => .int .u8 0
def lumpS (l : List UInt8) : List UInt8 := numS l.length ++ l
def textS (tag : UInt8) (L : List (List UInt8)) : List UInt8 := tag :: L.flatMap lumpS
def padS (l : List UInt8) : List UInt8 := l ++ 1 :: List.replicate (7 - l.length % 8) 0
def padN (l : List UInt8) (k : Nat) : List UInt8 := l ++ 1 :: List.replicate k 0
def blk (m : List UInt8) (j : Nat) : List UInt8 := (m.drop (8 * j)).take 8
def put0 (s : Nat → Int) (v : Int) : Nat → Int := fun i => match i with
  | 0 => v
  | i + 1 => s (i + 1)
def absN (m : List UInt8) : Nat → (Nat → Int) → Nat → Int
  | 0, s => s
  | j + 1, s => perm (put0 (absN m j s) (xr (absN m j s 0) (leN (blk m j))))
def sqN : Nat → (Nat → Int) → Nat → Int
  | 0, s => s
  | k + 1, s => perm (sqN k s)
def preN : Nat → (Nat → Int) → Nat → Int
  | 0, s => s
  | k + 1, s => sqN k s
def iv (i : Nat) : Int := match i with
  | 0 => 8800401358850
  | _ => 0
def sumB (s : Nat → Int) : List UInt8 := (List.range 4).flatMap fun k => numS (sqN k s 0)
def sumS (l : List UInt8) : List UInt8 := sumB (absN (padS l) ((padS l).length / 8) (perm iv))

theorem textS_len (tag : UInt8) : ∀ L : List (List UInt8), 8 * L.length ≤ (textS tag L).length
  | [] => by simp
  | l :: L => by
    have := textS_len tag L
    unfold textS at this ⊢
    simp only [List.flatMap_cons, List.length_cons, List.length_append, lumpS, numS_length] at this ⊢
    omega
theorem catF_eq (n : Nat) (g h : Nat → A) (i : Nat) : catF n g h i = if i < n then g i else h (i - n) := by
  cases n with
  | zero => simp [catF]
  | succ n =>
    simp only [catF]
    by_cases e : i < n + 1
    · rw [show Nat.blt i (n + 1) = true by simp [Nat.blt]; omega, if_pos e]; rfl
    · have : Nat.blt i (n + 1) = false := by
        cases h : Nat.blt i (n + 1) with
        | false => rfl
        | true => exact absurd (blt_lt h) e
      rw [this, if_neg e]; rfl
theorem cat_bytes (l m : List UInt8) (j : Nat) : catF l.length (byteAt l) (byteAt m) j = byteAt (l ++ m) j := by
  rw [catF_eq]
  unfold byteAt
  by_cases e : j < l.length
  · rw [if_pos e, List.getD_eq_getElem?_getD, List.getD_eq_getElem?_getD, List.getElem?_append_left e]
  · rw [if_neg e, List.getD_eq_getElem?_getD, List.getD_eq_getElem?_getD, List.getElem?_append_right (by omega)]
/-- Bytes behind bytes, known as functions alone. -/
theorem cat_sim {l m : List UInt8} {n : Nat} {g h : Nat → A} {j : Nat} (hn : n = l.length) (hg : ∀ i, i < n → g i = byteAt l i) (hh : ∀ i, i < m.length → h i = byteAt m i) (hj : j < n + m.length) : (catF n g h j).sim (byteAt (l ++ m) j) := by
  subst hn
  refine .of ?_
  rw [← cat_bytes, catF_eq, catF_eq]
  split
  · exact hg j (by assumption)
  · exact hh _ (by omega)
theorem blk_at (m : List UInt8) (j i : Nat) (hi : i < 8) : byteAt m (8 * j + i) = byteAt (blk m j) i := by
  unfold byteAt blk
  rw [List.getD_eq_getElem?_getD, List.getD_eq_getElem?_getD, List.getElem?_take_of_lt hi, List.getElem?_drop]
theorem blk_length (m : List UInt8) (j : Nat) (h : 8 * (j + 1) ≤ m.length) : (blk m j).length = 8 := by
  unfold blk; rw [List.length_take, List.length_drop]; omega
theorem padN_length (l : List UInt8) (k : Nat) : (padN l k).length = l.length + 1 + k := by simp [padN]; omega
theorem padS_eq (l : List UInt8) : padS l = padN l (7 - l.length % 8) := rfl
theorem padN_snoc (l : List UInt8) (k : Nat) : padN l k ++ [0] = padN l (k + 1) := by
  unfold padN
  rw [List.append_assoc, List.cons_append, List.replicate_succ', ]
theorem sumB_length (s : Nat → Int) : (sumB s).length = 32 := by
  simp [sumB, List.length_flatMap, numS_length]; rfl
theorem sumB_at (s : Nat → Int) (k i : Nat) (hk : k < 4) (hi : i < 8) : byteAt (sumB s) (8 * k + i) = byteAt (numS (sqN k s 0)) i := by
  unfold byteAt sumB
  congr 1
  have e : (List.range 4).flatMap (fun k => numS (sqN k s 0)) = numS (sqN 0 s 0) ++ (numS (sqN 1 s 0) ++ (numS (sqN 2 s 0) ++ (numS (sqN 3 s 0) ++ []))) := rfl
  rw [e]
  have l0 := numS_length (sqN 0 s 0)
  have l1 := numS_length (sqN 1 s 0)
  have l2 := numS_length (sqN 2 s 0)
  have l3 := numS_length (sqN 3 s 0)
  rw [List.getD_eq_getElem?_getD, List.getD_eq_getElem?_getD]
  match k, hk with
  | 0, _ => rw [List.getElem?_append_left (by omega)]; congr 2; omega
  | 1, _ => rw [List.getElem?_append_right (by omega), List.getElem?_append_left (by omega)]; congr 2; omega
  | 2, _ => rw [List.getElem?_append_right (by omega), List.getElem?_append_right (by omega), List.getElem?_append_left (by omega)]; congr 2; omega
  | 3, _ => rw [List.getElem?_append_right (by omega), List.getElem?_append_right (by omega), List.getElem?_append_right (by omega), List.getElem?_append_left (by omega)]; congr 2; omega
/-- The first bytes of a hash, noughts behind. -/
def hashG (s : Nat → Int) (n : Nat) : Nat → A := fun j => bif Nat.blt j n then byteAt (sumB s) j else .int .u8 0
theorem blt_true {j n : Nat} (h : j < n) : Nat.blt j n = true := by simp [Nat.blt]; omega
theorem blt_false {j n : Nat} (h : ¬ j < n) : Nat.blt j n = false := by
  cases e : Nat.blt j n with
  | false => rfl
  | true => exact absurd (blt_lt e) h
theorem hashG_end (s : Nat → Int) (j : Nat) (hj : j < 32) : (hashG s 32 j).sim (byteAt (sumB s) j) := by
  refine .of ?_
  unfold hashG
  rw [blt_true hj]; rfl
theorem hashG_splice (s : Nat → Int) (k j : Nat) (hk : k < 4) : (spliceF (hashG s (8 * k)) (8 * k) 8 (byteAt (numS (sqN k s 0))) j).sim (hashG s (8 * (k + 1)) j) := by
  refine .of ?_
  rw [spliceF_at]
  unfold hashG
  by_cases h1 : j < 8 * k
  · rw [if_neg (by omega), blt_true h1, blt_true (show j < 8 * (k + 1) by omega)]
  · by_cases h2 : j < 8 * k + 8
    · rw [if_pos ⟨by omega, h2⟩, blt_true (show j < 8 * (k + 1) by omega), cond_true, ← sumB_at s k (j - 8 * k) hk (by omega), show 8 * k + (j - 8 * k) = j by omega]
    · rw [if_neg (by omega), blt_false h1, blt_false (show ¬ j < 8 * (k + 1) by omega)]
theorem sqN_pre (k : Nat) (s : Nat → Int) (h : 0 < k) : perm (preN k s) = sqN k s := by
  cases k with
  | zero => omega
  | succ k => rfl
theorem inr_rnd (s : Nat → Int) (c : Int) (i : Nat) : inr .u64 (rnd s c i) := by
  match i with
  | 0 => exact inr_bits .xor .u64 _ _
  | 1 => exact inr_bits .xor .u64 _ _
  | 2 => exact inr_bits .xor .u64 _ _
  | 3 => exact inr_bits .xor .u64 _ _
  | 4 => exact inr_bits .xor .u64 _ _
  | n + 5 => exact inr_u64.2 ⟨Int.le_refl 0, (by decide : (0 : Int) ≤ 18446744073709551615)⟩
theorem inr_perm (s : Nat → Int) (i : Nat) : inr .u64 (perm s i) := inr_rnd _ _ i
theorem inr_absN (m : List UInt8) (j : Nat) (i : Nat) : inr .u64 (absN m j (perm iv) i) := by
  cases j with
  | zero => exact inr_perm _ _
  | succ j => exact inr_perm _ _
end VX
namespace VX
open Go
theorem sumS_length (l : List UInt8) : (sumS l).length = 32 := sumB_length _
theorem lumpS_length (l : List UInt8) : (lumpS l).length = 8 + l.length := by rw [lumpS, List.length_append, numS_length]
theorem textS_bound (tag : UInt8) : ∀ (L : List (List UInt8)) (m : Nat), (∀ l ∈ L, l.length ≤ m) → (textS tag L).length ≤ 1 + L.length * (8 + m)
  | [], m, _ => by simp [textS]
  | l :: L, m, h => by
    have ih := textS_bound tag L m fun l hl => h l (List.mem_cons_of_mem _ hl)
    have hl := h l List.mem_cons_self
    unfold textS at ih ⊢
    simp only [List.flatMap_cons, List.length_cons, List.length_append, lumpS_length, Nat.succ_mul] at ih ⊢
    omega
end VX
namespace VX
end VX
namespace VX
theorem take_at (l : List UInt8) (n i : Nat) (h : i < n) : byteAt l i = byteAt (l.take n) i := by
  unfold byteAt
  rw [List.getD_eq_getElem?_getD, List.getD_eq_getElem?_getD, List.getElem?_take_of_lt h]
end VX
