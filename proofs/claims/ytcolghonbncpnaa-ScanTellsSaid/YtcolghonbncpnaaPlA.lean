/- Plain laws and the functions that answer for the program's (part 1 of 3). -/
import Derived.Test.YtcolghonbncpnaaVxI
set_option linter.unusedSimpArgs false
set_option linter.unusedVariables false
set_option linter.unusedSectionVars false
/- What the sponge's functions come to, in plain words: words of 64 bits as numbers, bytes as lists. -/
namespace VX
open Go
def xr (a b : Int) : Int := bitsI .xor .u64 a b
def orr (a b : Int) : Int := bitsI .or .u64 a b
def an (a b : Int) : Int := bitsI .and .u64 a b
def ntw (a : Int) : Int := bitsI .xor .u64 18446744073709551615 a
def shr (a n : Int) : Int := shrI .u64 a n
def shl (a n : Int) : Int := shlI .u64 a n
def turn (x n : Int) : Int := orr (shr x n) (shl x (64 - n))
def turned (x a b : Int) : Int := xr (xr x (turn x a)) (turn x b)
def st (s : Nat → Int) : A := .vec 1 5 fun i => .int .u64 (s i)
def rnd (s : Nat → Int) (c : Int) : Nat → Int :=
  let a0 := xr (s 0) (s 4)
  let a2 := xr (xr (s 2) c) (s 1)
  let a4 := xr (s 4) (s 3)
  let t0 := xr a0 (an (ntw (s 1)) a2)
  let t1 := xr (s 1) (an (ntw a2) (s 3))
  let t2 := xr a2 (an (ntw (s 3)) a4)
  let t3 := xr (s 3) (an (ntw a4) a0)
  let t4 := xr a4 (an (ntw a0) (s 1))
  fun i => match i with
    | 0 => turned (xr t0 t4) 19 28
    | 1 => turned (xr t1 t0) 61 39
    | 2 => turned (ntw t2) 1 6
    | 3 => turned (xr t3 t2) 10 17
    | 4 => turned t4 7 41
    | _ => 0
def permN : Nat → (Nat → Int) → Nat → Int
  | 0, s => s
  | n + 1, s => rnd (permN n s) (240 - 15 * n)
def perm (s : Nat → Int) : Nat → Int := permN 12 s
def leN : List UInt8 → Nat
  | [] => 0
  | b :: l => b.toNat + 256 * leN l
def numS (n : Int) : List UInt8 := (List.range 8).map fun i => UInt8.ofNat ((n / 2 ^ (8 * i)) % 256).toNat

theorem orr_comm (a b : Int) : orr a b = orr b a := by
  unfold orr bitsI
  simp only
  rw [BitVec.or_comm]
theorem and63 : ∀ n : _root_.Fin 64, n.val ≠ 0 → bitsI .and .u64 (IntKind.u64.wrap (0 - (n.val : Int))) 63 = 64 - (n.val : Int) := by decide +kernel
theorem rot_s {n : Int} (h : 1 ≤ n ∧ n ≤ 63) : bitsI .and .u64 (IntKind.u64.wrap (-n)) 63 = 64 - n := by
  have := and63 ⟨n.toNat, by omega⟩ (by simp; omega)
  simp only at this
  rw [show ((n.toNat : Nat) : Int) = n by omega, Int.zero_sub] at this
  exact this
theorem bits_nat (a b : Nat) (ha : a < 2 ^ 64) (hb : b < 2 ^ 64) : bitsI .or .u64 (a : Int) (b : Int) = ((a ||| b : Nat) : Int) := by
  show IntKind.u64.wrap (((BitVec.ofInt 64 (a : Int)) ||| (BitVec.ofInt 64 (b : Int))).toNat : Int) = _
  rw [BitVec.ofInt_natCast, BitVec.ofInt_natCast, BitVec.toNat_or, BitVec.toNat_ofNat, BitVec.toNat_ofNat, Nat.mod_eq_of_lt ha, Nat.mod_eq_of_lt hb, wrap_u64]
  have := Nat.or_lt_two_pow ha hb
  omega
theorem or_add {a b k : Nat} (ha : a < 2 ^ k) : a ||| b * 2 ^ k = a + b * 2 ^ k := by
  have := Nat.two_pow_add_eq_or_of_lt ha b
  rw [Nat.mul_comm, Nat.or_comm, ← this, Nat.add_comm]
theorem leN_lt : ∀ l : List UInt8, leN l < 256 ^ l.length
  | [] => by simp [leN]
  | b :: l => by
    have := leN_lt l
    have hb := b.toNat_lt
    rw [leN, List.length_cons, Nat.pow_succ]
    omega
theorem leN_snoc : ∀ (l : List UInt8) (b : UInt8), leN (l ++ [b]) = leN l + b.toNat * 256 ^ l.length
  | [], b => by simp [leN]
  | c :: l, b => by
    rw [List.cons_append, leN, leN, leN_snoc l b, List.length_cons, Nat.pow_succ, Nat.mul_add]
    have : 256 * (b.toNat * 256 ^ l.length) = b.toNat * (256 ^ l.length * 256) := by rw [Nat.mul_left_comm, Nat.mul_comm 256]
    omega
theorem take_succ_getD (l : List UInt8) (k : Nat) (h : k < l.length) : l.take (k + 1) = l.take k ++ [l.getD k 0] := by
  rw [List.take_succ_eq_append_getElem h, List.getD_eq_getElem?_getD, List.getElem?_eq_getElem h]; rfl
/-- A byte more, from the lowest on. -/
theorem le_step (l : List UInt8) (k : Nat) (hk : k < l.length) (h8 : k < 8) :
    bitsI .or .u64 ((leN (l.take k) : Nat) : Int) (shlI .u64 (IntKind.u64.wrap ((l.getD k 0).toNat : Int)) ((8 * k : Nat) : Int)) = ((leN (l.take (k + 1)) : Nat) : Int) := by
  have hb := (l.getD k 0).toNat_lt
  have hlt := leN_lt (l.take k)
  have hlen : (l.take k).length = k := by rw [List.length_take]; omega
  rw [hlen] at hlt
  have e256 : (256 : Nat) ^ k = 2 ^ (8 * k) := by rw [Nat.pow_mul]
  rw [take_succ_getD l k hk, leN_snoc, hlen]
  have hsm : (l.getD k 0).toNat * 2 ^ (8 * k) < 2 ^ 64 := by
    have h1 : (l.getD k 0).toNat * 2 ^ (8 * k) < 2 ^ 8 * 2 ^ (8 * k) := Nat.mul_lt_mul_of_pos_right hb (Nat.two_pow_pos _)
    rw [← Nat.pow_add] at h1
    exact Nat.lt_of_lt_of_le h1 (Nat.pow_le_pow_right (by omega) (by omega))
  have hs : shlI .u64 (IntKind.u64.wrap ((l.getD k 0).toNat : Int)) ((8 * k : Nat) : Int) = (((l.getD k 0).toNat * 2 ^ (8 * k) : Nat) : Int) := by
    unfold shlI
    rw [wrap_u64_in (n := ((l.getD k 0).toNat : Int)) (by omega) (by omega), Int.toNat_natCast, show min (8 * k) IntKind.u64.bits = 8 * k by simp [IntKind.bits]; omega]
    rw [show ((l.getD k 0).toNat : Int) * 2 ^ (8 * k) = (((l.getD k 0).toNat * 2 ^ (8 * k) : Nat) : Int) by push_cast; rfl]
    exact wrap_u64_in (by omega) (by omega)
  rw [hs, bits_nat _ _ (by
    rw [e256] at hlt
    exact Nat.lt_of_lt_of_le hlt (Nat.pow_le_pow_right (by omega) (by omega))) hsm, or_add (by rw [← e256]; exact hlt), e256]
theorem drop_getD (l : List UInt8) (k : Nat) (h : k < l.length) : l.drop k = l.getD k 0 :: l.drop (k + 1) := by
  rw [List.drop_eq_getElem_cons h, List.getD_eq_getElem?_getD, List.getElem?_eq_getElem h]; rfl
/-- A byte more, from the highest on. -/
theorem be_step (l : List UInt8) (k : Nat) (hk : k < l.length) (h8 : l.length ≤ 8) :
    bitsI .or .u64 (shlI .u64 ((leN (l.drop (k + 1)) : Nat) : Int) 8) (IntKind.u64.wrap ((l.getD k 0).toNat : Int)) = ((leN (l.drop k) : Nat) : Int) := by
  have hb := (l.getD k 0).toNat_lt
  have hlt := leN_lt (l.drop (k + 1))
  rw [List.length_drop] at hlt
  have e256 : (256 : Nat) ^ (l.length - (k + 1)) ≤ 2 ^ 56 := by
    rw [show (256 : Nat) = 2 ^ 8 from rfl, ← Nat.pow_mul]
    exact Nat.pow_le_pow_right (by omega) (by omega)
  have hs : shlI .u64 ((leN (l.drop (k + 1)) : Nat) : Int) 8 = ((leN (l.drop (k + 1)) * 2 ^ 8 : Nat) : Int) := by
    unfold shlI
    rw [show min (8 : Int).toNat IntKind.u64.bits = 8 from rfl, show ((leN (l.drop (k + 1)) : Nat) : Int) * 2 ^ 8 = ((leN (l.drop (k + 1)) * 2 ^ 8 : Nat) : Int) from (Int.natCast_mul _ _).symm]
    exact wrap_u64_in (by omega) (by omega)
  rw [hs, wrap_u64_in (n := ((l.getD k 0).toNat : Int)) (by omega) (by omega), bits_nat _ _ (by omega) (by omega), Nat.or_comm, or_add (by omega), drop_getD l k hk, leN]
  congr 1
  omega
/-- A byte of a number. -/
theorem num_byte (n : Int) (h : inr .u64 n) (i : Nat) (hi : i < 8) : A.int .u8 (IntKind.u8.wrap (shrI .u64 n ((8 * i : Nat) : Int))) = byteAt (numS n) i := by
  rw [inr_u64] at h
  unfold shrI
  rw [Int.toNat_natCast, show min (8 * i) IntKind.u64.bits = 8 * i by simp [IntKind.bits]; omega, wrap_u8]
  have e : n.fdiv (2 ^ (8 * i)) = n / 2 ^ (8 * i) := Int.fdiv_eq_ediv_of_nonneg _ (Int.pow_nonneg (by omega))
  rw [e, byte_of (n := n / 2 ^ (8 * i) % 256) (by rw [inr_u8]; omega)]
  unfold byteAt numS
  rw [List.getD_eq_getElem?_getD, List.getElem?_map, List.getElem?_range hi]
  rfl
theorem numS_length (n : Int) : (numS n).length = 8 := by simp [numS]
end VX
namespace VX
open Go
def zeroH : A := .vec 1 32 fun _ => .int .u8 0
def lumpS (l : List UInt8) : List UInt8 := numS l.length ++ l
def textS (tag : UInt8) (L : List (List UInt8)) : List UInt8 := tag :: L.flatMap lumpS
def padS (l : List UInt8) : List UInt8 := l ++ 1 :: List.replicate (7 - l.length % 8) 0
def padN (l : List UInt8) (k : Nat) : List UInt8 := l ++ 1 :: List.replicate k 0
def blk (m : List UInt8) (j : Nat) : List UInt8 := (m.drop (8 * j)).take 8
def put0 (s : Nat → Int) (v : Int) : Nat → Int := fun i => match i with
  | 0 => v
  | i + 1 => s (i + 1)
def absN (m : List UInt8) : Nat → (Nat → Int) → Nat → Int
  | 0, s => s
  | j + 1, s => perm (put0 (absN m j s) (xr (absN m j s 0) (leN (blk m j))))
def sqN : Nat → (Nat → Int) → Nat → Int
  | 0, s => s
  | k + 1, s => perm (sqN k s)
def preN : Nat → (Nat → Int) → Nat → Int
  | 0, s => s
  | k + 1, s => sqN k s
def iv (i : Nat) : Int := match i with
  | 0 => 8800401358850
  | _ => 0
def sumB (s : Nat → Int) : List UInt8 := (List.range 4).flatMap fun k => numS (sqN k s 0)
def sumS (l : List UInt8) : List UInt8 := sumB (absN (padS l) ((padS l).length / 8) (perm iv))

theorem textS_len (tag : UInt8) : ∀ L : List (List UInt8), 8 * L.length ≤ (textS tag L).length
  | [] => by simp
  | l :: L => by
    have := textS_len tag L
    unfold textS at this ⊢
    simp only [List.flatMap_cons, List.length_cons, List.length_append, lumpS, numS_length] at this ⊢
    omega
theorem catF_eq (n : Nat) (g h : Nat → A) (i : Nat) : catF n g h i = if i < n then g i else h (i - n) := by
  cases n with
  | zero => simp [catF]
  | succ n =>
    simp only [catF]
    by_cases e : i < n + 1
    · rw [show Nat.blt i (n + 1) = true by simp [Nat.blt]; omega, if_pos e]; rfl
    · have : Nat.blt i (n + 1) = false := by
        cases h : Nat.blt i (n + 1) with
        | false => rfl
        | true => exact absurd (blt_lt h) e
      rw [this, if_neg e]; rfl
theorem cat_bytes (l m : List UInt8) (j : Nat) : catF l.length (byteAt l) (byteAt m) j = byteAt (l ++ m) j := by
  rw [catF_eq]
  unfold byteAt
  by_cases e : j < l.length
  · rw [if_pos e, List.getD_eq_getElem?_getD, List.getD_eq_getElem?_getD, List.getElem?_append_left e]
  · rw [if_neg e, List.getD_eq_getElem?_getD, List.getD_eq_getElem?_getD, List.getElem?_append_right (by omega)]
/-- Bytes behind bytes, known as functions alone. -/
theorem cat_sim {l m : List UInt8} {n : Nat} {g h : Nat → A} {j : Nat} (hn : n = l.length) (hg : ∀ i, i < n → g i = byteAt l i) (hh : ∀ i, i < m.length → h i = byteAt m i) (hj : j < n + m.length) : (catF n g h j).sim (byteAt (l ++ m) j) := by
  subst hn
  refine .of ?_
  rw [← cat_bytes, catF_eq, catF_eq]
  split
  · exact hg j (by assumption)
  · exact hh _ (by omega)
theorem blk_at (m : List UInt8) (j i : Nat) (hi : i < 8) : byteAt m (8 * j + i) = byteAt (blk m j) i := by
  unfold byteAt blk
  rw [List.getD_eq_getElem?_getD, List.getD_eq_getElem?_getD, List.getElem?_take_of_lt hi, List.getElem?_drop]
theorem blk_length (m : List UInt8) (j : Nat) (h : 8 * (j + 1) ≤ m.length) : (blk m j).length = 8 := by
  unfold blk; rw [List.length_take, List.length_drop]; omega
theorem padN_length (l : List UInt8) (k : Nat) : (padN l k).length = l.length + 1 + k := by simp [padN]; omega
theorem padS_eq (l : List UInt8) : padS l = padN l (7 - l.length % 8) := rfl
theorem padN_snoc (l : List UInt8) (k : Nat) : padN l k ++ [0] = padN l (k + 1) := by
  unfold padN
  rw [List.append_assoc, List.cons_append, List.replicate_succ', ]
theorem sumB_length (s : Nat → Int) : (sumB s).length = 32 := by
  simp [sumB, List.length_flatMap, numS_length]; rfl
theorem sumB_at (s : Nat → Int) (k i : Nat) (hk : k < 4) (hi : i < 8) : byteAt (sumB s) (8 * k + i) = byteAt (numS (sqN k s 0)) i := by
  unfold byteAt sumB
  congr 1
  have e : (List.range 4).flatMap (fun k => numS (sqN k s 0)) = numS (sqN 0 s 0) ++ (numS (sqN 1 s 0) ++ (numS (sqN 2 s 0) ++ (numS (sqN 3 s 0) ++ []))) := rfl
  rw [e]
  have l0 := numS_length (sqN 0 s 0)
  have l1 := numS_length (sqN 1 s 0)
  have l2 := numS_length (sqN 2 s 0)
  have l3 := numS_length (sqN 3 s 0)
  rw [List.getD_eq_getElem?_getD, List.getD_eq_getElem?_getD]
  match k, hk with
  | 0, _ => rw [List.getElem?_append_left (by omega)]; congr 2; omega
  | 1, _ => rw [List.getElem?_append_right (by omega), List.getElem?_append_left (by omega)]; congr 2; omega
  | 2, _ => rw [List.getElem?_append_right (by omega), List.getElem?_append_right (by omega), List.getElem?_append_left (by omega)]; congr 2; omega
  | 3, _ => rw [List.getElem?_append_right (by omega), List.getElem?_append_right (by omega), List.getElem?_append_right (by omega), List.getElem?_append_left (by omega)]; congr 2; omega
/-- The first bytes of a hash, noughts behind. -/
def hashG (s : Nat → Int) (n : Nat) : Nat → A := fun j => bif Nat.blt j n then byteAt (sumB s) j else .int .u8 0
theorem blt_true {j n : Nat} (h : j < n) : Nat.blt j n = true := by simp [Nat.blt]; omega
theorem blt_false {j n : Nat} (h : ¬ j < n) : Nat.blt j n = false := by
  cases e : Nat.blt j n with
  | false => rfl
  | true => exact absurd (blt_lt e) h
theorem hashG_end (s : Nat → Int) (j : Nat) (hj : j < 32) : (hashG s 32 j).sim (byteAt (sumB s) j) := by
  refine .of ?_
  unfold hashG
  rw [blt_true hj]; rfl
theorem hashG_splice (s : Nat → Int) (k j : Nat) (hk : k < 4) : (spliceF (hashG s (8 * k)) (8 * k) 8 (byteAt (numS (sqN k s 0))) j).sim (hashG s (8 * (k + 1)) j) := by
  refine .of ?_
  rw [spliceF_at]
  unfold hashG
  by_cases h1 : j < 8 * k
  · rw [if_neg (by omega), blt_true h1, blt_true (show j < 8 * (k + 1) by omega)]
  · by_cases h2 : j < 8 * k + 8
    · rw [if_pos ⟨by omega, h2⟩, blt_true (show j < 8 * (k + 1) by omega), cond_true, ← sumB_at s k (j - 8 * k) hk (by omega), show 8 * k + (j - 8 * k) = j by omega]
    · rw [if_neg (by omega), blt_false h1, blt_false (show ¬ j < 8 * (k + 1) by omega)]
theorem hashG_set (s : Nat → Int) (k i j : Nat) (hk : k < 4) (hi : i < 8) : (setF (hashG s (8 * k + i)) (8 * k + i) (byteAt (numS (sqN k s 0)) i) j).sim (hashG s (8 * k + (i + 1)) j) := by
  refine .of ?_
  unfold setF hashG
  by_cases h1 : j = 8 * k + i
  · subst h1
    rw [Nat.beq_refl, cond_true, blt_true (show 8 * k + i < 8 * k + (i + 1) by omega), cond_true, sumB_at s k i hk hi]
  · rw [nbeq_ne h1, cond_false]
    by_cases h2 : j < 8 * k + i
    · rw [blt_true h2, blt_true (show j < 8 * k + (i + 1) by omega)]
    · rw [blt_false h2, blt_false (show ¬ j < 8 * k + (i + 1) by omega)]
theorem sqN_pre (k : Nat) (s : Nat → Int) (h : 0 < k) : perm (preN k s) = sqN k s := by
  cases k with
  | zero => omega
  | succ k => rfl
theorem inr_rnd (s : Nat → Int) (c : Int) (i : Nat) : inr .u64 (rnd s c i) := by
  match i with
  | 0 => exact inr_bits .xor .u64 _ _
  | 1 => exact inr_bits .xor .u64 _ _
  | 2 => exact inr_bits .xor .u64 _ _
  | 3 => exact inr_bits .xor .u64 _ _
  | 4 => exact inr_bits .xor .u64 _ _
  | n + 5 => exact inr_u64.2 ⟨Int.le_refl 0, (by decide : (0 : Int) ≤ 18446744073709551615)⟩
theorem inr_perm (s : Nat → Int) (i : Nat) : inr .u64 (perm s i) := inr_rnd _ _ i
theorem inr_absN (m : List UInt8) (j : Nat) (i : Nat) : inr .u64 (absN m j (perm iv) i) := by
  cases j with
  | zero => exact inr_perm _ _
  | succ j => exact inr_perm _ _
theorem inr_sqN (k : Nat) {s : Nat → Int} (h : ∀ i, inr .u64 (s i)) (i : Nat) : inr .u64 (sqN k s i) := by
  cases k with
  | zero => exact h i
  | succ k => exact inr_perm _ _
end VX
namespace VX
open Go
theorem sumS_length (l : List UInt8) : (sumS l).length = 32 := sumB_length _
theorem lumpS_length (l : List UInt8) : (lumpS l).length = 8 + l.length := by rw [lumpS, List.length_append, numS_length]
theorem textS_bound (tag : UInt8) : ∀ (L : List (List UInt8)) (m : Nat), (∀ l ∈ L, l.length ≤ m) → (textS tag L).length ≤ 1 + L.length * (8 + m)
  | [], m, _ => by simp [textS]
  | l :: L, m, h => by
    have ih := textS_bound tag L m fun l hl => h l (List.mem_cons_of_mem _ hl)
    have hl := h l List.mem_cons_self
    unfold textS at ih ⊢
    simp only [List.flatMap_cons, List.length_cons, List.length_append, lumpS_length, Nat.succ_mul] at ih ⊢
    omega
end VX
namespace VX
end VX
namespace VX
theorem take_at (l : List UInt8) (n i : Nat) (h : i < n) : byteAt l i = byteAt (l.take n) i := by
  unfold byteAt
  rw [List.getD_eq_getElem?_getD, List.getD_eq_getElem?_getD, List.getElem?_take_of_lt h]
end VX

/- More on bytes. -/
namespace VX
open Go
theorem A.sim.ro' {sz n m : Nat} {g g' : Nat → A} (hn : n = m) (h : ∀ i, i < n → (g i).sim (g' i)) : (A.ro sz n g).sim (.ro sz m g') := by
  subst hn; exact .ro h
end VX
namespace VX
open Go
end VX

/- The permutation maps unlike states to unlike states. -/
namespace VX
open Go
def bits (v : BitVec 64) (i : Nat) : Bool := v.getLsbD (i % 64)
end VX

/- What readers of bytes tell, in plain Lean. -/
namespace VX
open Go
/-- A reader: what is left, the first error. -/
def rd (l : List UInt8) (e : Int) : Obj := .var (.agg [bytesA l, .int .i64 e])
structure Rd where
  l : List UInt8
  e : Int
  deriving DecidableEq
def Rd.o (r : Rd) : Obj := rd r.l r.e
/-- No number below naught. -/
def mx (n : Int) : Nat := (if n < 0 then 0 else n).toNat
theorem mx_eq (n : Int) : (if n < 0 then 0 else n) = (mx n : Int) := by unfold mx; split <;> omega
/-- Raw bytes: what is told, and the reader after it. -/
def rawS (r : Rd) (n : Int) : List UInt8 × Rd :=
  if r.e ≠ 0 then ([], r)
  else if r.l.length < mx n then ([], ⟨[], 21⟩)
  else (r.l.take (mx n), ⟨r.l.drop (mx n), 0⟩)
theorem rawS_e {l : List UInt8} {e n : Int} (h : ¬ e = 0) : rawS ⟨l, e⟩ n = ([], ⟨l, e⟩) := if_pos h
theorem rawS_s {l : List UInt8} {e n : Int} (h : e = 0) (hb : (l.length : Int) < if n < 0 then 0 else n) : rawS ⟨l, e⟩ n = ([], ⟨[], 21⟩) := by
  unfold rawS
  rw [if_neg (by simpa using h), if_pos (by rw [mx_eq] at hb; exact Int.ofNat_lt.1 hb)]
theorem rawS_n {l : List UInt8} {e n : Int} (h : e = 0) (h0 : 0 ≤ n) (hb : (l.length : Int) < n) : rawS ⟨l, e⟩ n = ([], ⟨[], 21⟩) := rawS_s h (by rw [if_neg (Int.not_lt.2 h0)]; exact hb)
theorem rawS_k {l : List UInt8} {e n : Int} (h : e = 0) (hb : (if n < 0 then 0 else n) ≤ (l.length : Int)) : rawS ⟨l, e⟩ n = (l.take (mx n), ⟨l.drop (mx n), 0⟩) := by
  unfold rawS
  rw [if_neg (by simpa using h), if_neg (by rw [mx_eq] at hb; exact Nat.not_lt.2 (Int.ofNat_le.1 hb))]
theorem take_len {l : List UInt8} {n : Int} (hb : (if n < 0 then 0 else n) ≤ (l.length : Int)) : mx n = (l.take (mx n)).length := by
  rw [mx_eq] at hb
  rw [List.length_take]; omega
theorem drop_at (l : List UInt8) (n i : Nat) : byteAt l (n + i) = byteAt (l.drop n) i := by
  unfold byteAt
  rw [List.getD_eq_getElem?_getD, List.getD_eq_getElem?_getD, List.getElem?_drop]
theorem take_sim (l : List UInt8) (n : Nat) : ∀ i, i < n → (byteAt l i).sim (byteAt (l.take n) i) := fun i hi => by rw [← take_at l n i hi]; exact .refl _
theorem drop_sim (l : List UInt8) (k m : Nat) : ∀ i, i < m → (shiftF k (byteAt l) i).sim (byteAt (l.drop k) i) := fun i _ => by
  rw [← drop_at]
  cases k with
  | zero => rw [Nat.zero_add]; exact .refl _
  | succ k => exact .refl _
theorem drop_len (l : List UInt8) (k : Nat) : l.length - k = (l.drop k).length := List.length_drop.symm
theorem rawS_facts (r : Rd) (n : Int) : (rawS r n).1.length ≤ mx n ∧ ((rawS r n).2.e = 0 → (rawS r n).1.length = mx n) ∧ ((rawS r n).2.e ≠ 0 → (rawS r n).1 = []) ∧ (rawS r n).2.l.length ≤ r.l.length := by
  unfold rawS
  by_cases h1 : r.e ≠ 0
  · rw [if_pos h1]; exact ⟨Nat.zero_le _, fun h => absurd h h1, fun _ => rfl, Nat.le_refl _⟩
  · rw [if_neg h1]
    by_cases h2 : r.l.length < mx n
    · rw [if_pos h2]; exact ⟨Nat.zero_le _, fun h => absurd h (by decide), fun _ => rfl, Nat.zero_le _⟩
    · rw [if_neg h2]
      refine ⟨List.length_take_le _ _, fun _ => ?_, fun h => absurd rfl h, ?_⟩
      · simp only [List.length_take]; omega
      · simp only [List.length_drop]; omega
/-- A number. -/
def numR (r : Rd) : Int × Rd := ((leN (rawS r 8).1 : Nat), (rawS r 8).2)
theorem numR_facts (r : Rd) : inr .u64 (numR r).1 ∧ (numR r).2.l.length ≤ r.l.length := by
  obtain ⟨h1, _, _, h4⟩ := rawS_facts r 8
  refine ⟨inr_u64.2 ⟨by unfold numR; omega, ?_⟩, h4⟩
  have := leN_lt (rawS r 8).1
  have h8 : 256 ^ (rawS r 8).1.length ≤ 256 ^ 8 := Nat.pow_le_pow_right (by decide) h1
  show ((leN (rawS r 8).1 : Nat) : Int) ≤ _
  have : leN (rawS r 8).1 < 256 ^ 8 := Nat.lt_of_lt_of_le this h8
  omega
/-- A lump of at most so many bytes. -/
def lumpR (r : Rd) (most : Int) : List UInt8 × Rd :=
  if (numR r).2.e ≠ 0 then ([], (numR r).2)
  else if (mx most : Int) < (numR r).1 then ([], ⟨[], 22⟩)
  else rawS (numR r).2 (numR r).1
/-- Nil stands for a slice of nothing. -/
theorem A.sim.nil0 {sz : Nat} {g : Nat → A} : A.nils.sim (.ro sz 0 g) := by
  refine ⟨rfl, rfl, fun _ _ => ⟨trivial, trivial⟩, fun _ _ I vs hr => ?_⟩
  simp only [A.cells] at hr ⊢
  obtain ⟨u, rfl, h1⟩ := hr.one_inv
  cases h1.nils_inv
  exact .cons .ro0 .nil
theorem mx_nat (m : Nat) : mx (m : Int) = m := by unfold mx; split <;> omega
theorem rawS_nat (l : List UInt8) (m : Nat) (h : m ≤ l.length) : rawS ⟨l, 0⟩ (m : Int) = (l.take m, ⟨l.drop m, 0⟩) := by
  rw [rawS_k rfl (by split <;> omega), mx_nat]
theorem flat_len (L : List (List UInt8)) (i : Nat) (h : i < L.length) : (L.take i).flatten.length + (L.getD i []).length = (L.take (i + 1)).flatten.length := by
  rw [List.take_succ_eq_append_getElem h, List.flatten_append, List.length_append, List.getD_eq_getElem?_getD, List.getElem?_eq_getElem h]
  simp
theorem flat_snoc (L : List (List UInt8)) (i : Nat) (h : i < L.length) : (L.take (i + 1)).flatten = (L.take i).flatten ++ L.getD i [] := by
  rw [List.take_succ_eq_append_getElem h, List.flatten_append, List.getD_eq_getElem?_getD, List.getElem?_eq_getElem h]
  simp
theorem flat_cat (L : List (List UInt8)) (i : Nat) (h : i < L.length) : ∀ j, j < (L.take (i + 1)).flatten.length → (catF (L.take i).flatten.length (byteAt (L.take i).flatten) (byteAt (L.getD i default)) j).sim (byteAt (L.take (i + 1)).flatten j) := by
  intro j hj
  have hl := flat_len L i h
  rw [flat_snoc L i h]
  exact cat_sim rfl (fun _ _ => rfl) (fun _ _ => rfl) (by show j < _ + (L.getD i []).length; omega)
theorem flat_le (L : List (List UInt8)) (i : Nat) : (L.take i).flatten.length ≤ L.flatten.length := by
  conv => rhs; rw [← List.take_append_drop i L, List.flatten_append, List.length_append]
  omega
end VX

/- What was put together is read back, in plain Lean. -/
namespace VX
open Go
theorem u8_nat (n : Int) : (UInt8.ofNat (n % 256).toNat).toNat = (n % 256).toNat := by
  rw [UInt8.toNat_ofNat']
  omega
theorem le_dig (n : Int) (x : Nat) (h0 : 0 ≤ n) (hx : (x : Int) = n / 256) : (((UInt8.ofNat (n % 256).toNat).toNat + 256 * x : Nat) : Int) = n := by
  rw [u8_nat]; omega
theorem leN_numS (n : Int) (h : inr .u64 n) : ((leN (numS n) : Nat) : Int) = n := by
  rw [inr_u64] at h
  obtain ⟨h0, h1⟩ := h
  have e : numS n = [UInt8.ofNat ((n / 2 ^ (8 * 0)) % 256).toNat, UInt8.ofNat ((n / 2 ^ (8 * 1)) % 256).toNat, UInt8.ofNat ((n / 2 ^ (8 * 2)) % 256).toNat, UInt8.ofNat ((n / 2 ^ (8 * 3)) % 256).toNat, UInt8.ofNat ((n / 2 ^ (8 * 4)) % 256).toNat, UInt8.ofNat ((n / 2 ^ (8 * 5)) % 256).toNat, UInt8.ofNat ((n / 2 ^ (8 * 6)) % 256).toNat, UInt8.ofNat ((n / 2 ^ (8 * 7)) % 256).toNat] := by
    simp only [numS, show List.range 8 = [0, 1, 2, 3, 4, 5, 6, 7] from rfl, List.map_cons, List.map_nil]
  rw [e]
  simp only [leN]
  have q0 : n / 2 ^ (8 * 0) = n := by omega
  have q1 : n / 2 ^ (8 * 1) = n / 2 ^ (8 * 0) / 256 := by omega
  have q2 : n / 2 ^ (8 * 2) = n / 2 ^ (8 * 1) / 256 := by omega
  have q3 : n / 2 ^ (8 * 3) = n / 2 ^ (8 * 2) / 256 := by omega
  have q4 : n / 2 ^ (8 * 4) = n / 2 ^ (8 * 3) / 256 := by omega
  have q5 : n / 2 ^ (8 * 5) = n / 2 ^ (8 * 4) / 256 := by omega
  have q6 : n / 2 ^ (8 * 6) = n / 2 ^ (8 * 5) / 256 := by omega
  have q7 : n / 2 ^ (8 * 7) = n / 2 ^ (8 * 6) / 256 := by omega
  have p : ∀ k, 0 ≤ n / 2 ^ k := fun k => Int.ediv_nonneg h0 (by exact Int.le_of_lt (Int.pow_pos (by decide)))
  refine (le_dig _ _ (p _) ((le_dig _ _ (p _) ((le_dig _ _ (p _) ((le_dig _ _ (p _) ((le_dig _ _ (p _) ((le_dig _ _ (p _) ((le_dig _ _ (p _) ((le_dig _ _ (p _) ?_).trans q7)).trans q6)).trans q5)).trans q4)).trans q3)).trans q2)).trans q1)).trans q0
  omega
theorem numR_app (n : Int) (h : inr .u64 n) (l : List UInt8) : numR ⟨numS n ++ l, 0⟩ = (n, ⟨l, 0⟩) := by
  have e : rawS ⟨numS n ++ l, 0⟩ 8 = (numS n, ⟨l, 0⟩) := by
    rw [show (8 : Int) = ((8 : Nat) : Int) from rfl, rawS_nat _ _ (by rw [List.length_append, numS_length]; omega)]
    rw [List.take_append_of_le_length (by rw [numS_length]; omega), List.take_of_length_le (by rw [numS_length]; omega), List.drop_append_of_le_length (by rw [numS_length]; omega), List.drop_of_length_le (by rw [numS_length]; omega)]
    rfl
  unfold numR
  rw [e]
  simp only [leN_numS n h]
theorem lumpR_app (x l : List UInt8) (m : Nat) (hx : x.length ≤ m) (hm : m ≤ 1000000000000) : lumpR ⟨lumpS x ++ l, 0⟩ m = (x, ⟨l, 0⟩) := by
  have e : numR ⟨lumpS x ++ l, 0⟩ = ((x.length : Int), ⟨x ++ l, 0⟩) := by
    unfold lumpS
    rw [List.append_assoc]
    exact numR_app _ (inr_u64.2 ⟨by omega, by omega⟩) _
  unfold lumpR
  rw [e, if_neg (by simp), if_neg (by rw [mx_nat]; show ¬ ((m : Int) < (x.length : Int)); omega)]
  show rawS ⟨x ++ l, 0⟩ ((x.length : Nat) : Int) = _
  rw [rawS_nat _ _ (by rw [List.length_append]; omega), List.take_left' rfl, List.drop_left' rfl]
end VX
namespace VX
open Go
theorem lumpR_len (r : Rd) (m : Int) : (lumpR r m).2.l.length ≤ r.l.length := by
  have h1 := (numR_facts r).2
  unfold lumpR
  split
  · exact h1
  · split
    · exact Nat.zero_le _
    · exact Nat.le_trans (rawS_facts _ _).2.2.2 h1
end VX

/- Lists of bytes, as slices have them: in plain Lean. -/
namespace VX
open Go
theorem cat_fun {l m : List UInt8} {n : Nat} (hn : n = l.length) : catF n (byteAt l) (byteAt m) = byteAt (l ++ m) := by
  subst hn; funext j; exact cat_bytes l m j
theorem shift_fun (o : Nat) (l : List UInt8) : shiftF o (byteAt l) = byteAt (l.drop o) := by
  funext j
  cases o with
  | zero => rfl
  | succ o => exact drop_at l (o + 1) j
theorem bytes_fun {n : Nat} {l : List UInt8} (h : n = l.length) : bytesOf n (byteAt l) = l := by
  subst h
  apply List.ext_getElem
  · simp [bytesOf]
  · intro i h1 h2
    simp only [bytesOf, List.getElem_map, List.getElem_range, byteAt, byte, byteOf, List.getD_eq_getElem?_getD, List.getElem?_eq_getElem h2, Option.getD_some]
    simp
theorem bytes_take {n : Nat} {l : List UInt8} (h : n ≤ l.length) : bytesOf n (byteAt l) = l.take n := by
  have : bytesOf n (byteAt l) = bytesOf n (byteAt (l.take n)) := by
    unfold bytesOf
    apply List.map_congr_left
    intro i hi
    rw [take_at l n i (by simpa using hi)]
  rw [this]
  exact bytes_fun (by rw [List.length_take]; omega)
theorem isInt_byteAt (l : List UInt8) (i : Nat) : isInt .u8 (byteAt l i) := ⟨_, rfl⟩
end VX
namespace VX
open Go
theorem min_i64 : IntKind.i64.min = -9223372036854775808 := by decide
theorem max_i64 : IntKind.i64.max = 9223372036854775807 := by decide
theorem min_u64 : IntKind.u64.min = 0 := by decide
theorem max_u64 : IntKind.u64.max = 18446744073709551615 := by decide
theorem min_u8 : IntKind.u8.min = 0 := by decide
theorem max_u8 : IntKind.u8.max = 255 := by decide
end VX
namespace VX
open Go
end VX
namespace VX
open Go
theorem sim2a {z a b : A} {h : Nat → A} (h0 : a.sim (h 0)) (h1 : b.sim (h 1)) : ∀ i, i < 2 → ((listF z (fillL (repl z 2) [(0, a), (1, b)])) i).sim (h i) := fun i hi => by
  match i, hi with
  | 0, _ => exact h0
  | 1, _ => exact h1
theorem sim1a {z a : A} {h : Nat → A} (h0 : a.sim (h 0)) : ∀ i, i < 1 → ((listF z (fillL (repl z 1) [(0, a)])) i).sim (h i) := fun i hi => by
  match i, hi with
  | 0, _ => exact h0
end VX
namespace VX
end VX

/- Elements behind one another. -/
namespace VX
open Go
theorem catF_lt {n i : Nat} {g h : Nat → A} (hi : i < n) : catF n g h i = g i := by
  cases n with
  | zero => omega
  | succ n =>
    have : Nat.blt i (n + 1) = true := by simp [Nat.blt]; omega
    simp [catF, this]
theorem catF_ge {n i : Nat} {g h : Nat → A} (hi : n ≤ i) : catF n g h i = h (i - n) := by
  cases n with
  | zero => rfl
  | succ n =>
    have : Nat.blt i (n + 1) = false := by
      cases e : Nat.blt i (n + 1) with
      | false => rfl
      | true => simp [Nat.blt] at e; omega
    simp [catF, this]
end VX

/- Logs as trees, in plain Lean: lengths of numbers, splits. -/
namespace VX
open Go
theorem byte_wrap (b : UInt8) : IntKind.i64.wrap (b.toNat : Int) = b.toNat := by
  have := UInt8.toNat_lt b
  exact wrap_i64_in (by omega) (by omega)
end VX
namespace VX
open Go
end VX
namespace VX
open Go
end VX
namespace VX
end VX

/- Logs as trees, in plain Lean: paths, and what they lead to. -/
namespace VX
open Go
end VX
namespace VX
end VX
namespace VX
open Go
end VX
namespace VX
end VX
namespace VX
open Go
end VX
namespace VX
end VX
namespace VX
end VX
namespace VX
end VX

/- Lists as slices, in plain Lean (more). -/
namespace VX
end VX
namespace VX
theorem sim3a {z a b c : A} {h : Nat → A} (h0 : a.sim (h 0)) (h1 : b.sim (h 1)) (h2 : c.sim (h 2)) : ∀ i, i < 3 → ((listF z (fillL (repl z 3) [(0, a), (1, b), (2, c)])) i).sim (h i) := fun i hi => by
  match i, hi with
  | 0, _ => exact h0
  | 1, _ => exact h1
  | 2, _ => exact h2
theorem all3 {α : Type} {p : α → Prop} {a b c : α} (ha : p a) (hb : p b) (hc : p c) : ∀ x ∈ [a, b, c], p x := fun x hx => by
  simp only [List.mem_cons, List.not_mem_nil, or_false] at hx
  rcases hx with rfl | rfl | rfl <;> assumption
end VX

/- Frames, in plain Lean. -/
namespace VX
open Go
theorem cat_eq {l m : List UInt8} {n : Nat} {g h : Nat → A} (hn : n = l.length) (hg : ∀ i, i < n → g i = byteAt l i) (hh : ∀ i, i < m.length → h i = byteAt m i) : ∀ j, j < n + m.length → catF n g h j = byteAt (l ++ m) j := fun j hj => by
  subst hn
  rw [← cat_bytes, catF_eq, catF_eq]
  split
  · exact hg j (by assumption)
  · exact hh _ (by omega)
theorem sim_roB {n : Nat} {g : Nat → A} {l : List UInt8} (hn : n = l.length) (hg : ∀ i, i < n → (g i).sim (byteAt l i)) : (A.ro 1 n g).sim (bytesA l) := by
  subst hn
  exact A.sim.ro hg
theorem sim5a {z a b c d e : A} {h : Nat → A} (h0 : a.sim (h 0)) (h1 : b.sim (h 1)) (h2 : c.sim (h 2)) (h3 : d.sim (h 3)) (h4 : e.sim (h 4)) : ∀ i, i < 5 → ((listF z (fillL (repl z 5) [(0, a), (1, b), (2, c), (3, d), (4, e)])) i).sim (h i) := fun i hi => by
  match i, hi with
  | 0, _ => exact h0
  | 1, _ => exact h1
  | 2, _ => exact h2
  | 3, _ => exact h3
  | 4, _ => exact h4
/-- The checksum of a frame. -/
def markS (k : UInt8) (seq : Int) (body : List UInt8) : List UInt8 := (sumS (textS 102 [[k], numS seq, body])).take 8
theorem markS_len (k : UInt8) (seq : Int) (body : List UInt8) : (markS k seq body).length = 8 := by
  unfold markS
  rw [List.length_take, sumS_length]; rfl
theorem mark_text (k : UInt8) (seq : Int) (body : List UInt8) (h : body.length ≤ 1000000000) : (textS 102 [[k], numS seq, body]).length ≤ 1000000000000 := by
  have := textS_bound 102 [[k], numS seq, body] 1000000000 (all3 (by show 1 ≤ _; omega) (by rw [numS_length]; omega) h)
  have e : ([[k], numS seq, body] : List (List UInt8)).length = 3 := rfl
  rw [e] at this
  omega
def byteI (n : Int) : UInt8 := UInt8.ofNat (n % 256).toNat
theorem byteI_at (n : Int) : A.int .u8 (IntKind.u8.wrap n) = VX.byte (byteI n) := by
  unfold VX.byte byteI
  rw [wrap_u8, UInt8.toNat_ofNat']
  congr 1
  omega
def frameB (k : UInt8) (seq : Int) (body : List UInt8) : List UInt8 := (numS body.length).take 4 ++ ([k] ++ (numS seq ++ (body ++ markS k seq body)))
theorem frameB_len (k : UInt8) (seq : Int) (body : List UInt8) : (frameB k seq body).length = 21 + body.length := by
  unfold frameB
  simp only [List.length_append, List.length_take, numS_length, markS_len, List.length_cons, List.length_nil]
  omega
def putS (kind seq : Int) (body : List UInt8) : List UInt8 × Int :=
  if kind < 1 ∨ 255 < kind ∨ seq < 0 then ([], 23) else if 4096 < body.length then ([], 22) else (frameB (byteI kind) seq body, 0)
theorem num4 (n : Int) : (numS n).take 4 = [byteI n, byteI (n / 256), byteI (n / 65536), byteI (n / 16777216)] := by
  unfold numS byteI
  simp only [show List.range 8 = [0, 1, 2, 3, 4, 5, 6, 7] from rfl, List.map_cons, List.map_nil, List.take_succ_cons, List.take_zero]
  congr 4 <;> omega
/-- What a frame's bytes begin with. -/
def rdN (b : List UInt8) : Nat := leN (b.take 4)
abbrev rdK (b : List UInt8) : UInt8 := b.getD 4 0
def rdQ (b : List UInt8) : Nat := leN ((b.drop 5).take 8)
abbrev Fr := Int × Int × List UInt8 × Int × Int
def frE (e : Int) : Fr := (0, 0, [], 0, e)
def readS (b : List UInt8) : Fr :=
  if b.length < 13 then frE 21
  else if 4096 < rdN b ∨ (rdK b).toNat = 0 ∨ 9223372036854775807 < rdQ b then frE 20
  else if b.length < 21 + rdN b then frE 21
  else if markS (rdK b) (rdQ b) ((b.drop 13).take (rdN b)) ≠ (b.drop (13 + rdN b)).take 8 then frE 24
  else ((rdK b).toNat, rdQ b, (b.drop 13).take (rdN b), ((21 + rdN b : Nat) : Int), 0)
theorem leN_zeros (l : List UInt8) : ∀ k, leN (l ++ List.replicate k 0) = leN l := by
  induction l with
  | nil =>
    intro k
    induction k with
    | zero => rfl
    | succ k ih => simp only [List.nil_append] at ih ⊢; show 0 + 256 * leN (List.replicate k 0) = 0; rw [ih]; rfl
  | cons x l ih => intro k; rw [List.cons_append, leN, ih]; rfl
theorem numR_8 (l : List UInt8) (h : l.length = 8) : numR ⟨l, 0⟩ = (((leN l : Nat) : Int), (⟨[], 0⟩ : Rd)) := by
  have : rawS ⟨l, 0⟩ 8 = (l, ⟨[], 0⟩) := by
    rw [show (8 : Int) = ((8 : Nat) : Int) from rfl, rawS_nat _ _ (by omega), List.take_of_length_le (by omega), List.drop_of_length_le (by omega)]
  unfold numR
  rw [this]
theorem rdN_lt (b : List UInt8) : rdN b < 4294967296 := by
  have := leN_lt (b.take 4)
  have h : (b.take 4).length ≤ 4 := List.length_take_le _ _
  have h4 : 256 ^ (b.take 4).length ≤ 256 ^ 4 := Nat.pow_le_pow_right (by decide) h
  unfold rdN; omega
theorem rdQ_lt (b : List UInt8) : rdQ b < 18446744073709551616 := by
  have := leN_lt ((b.drop 5).take 8)
  have h : ((b.drop 5).take 8).length ≤ 8 := List.length_take_le _ _
  have h4 : 256 ^ ((b.drop 5).take 8).length ≤ 256 ^ 8 := Nat.pow_le_pow_right (by decide) h
  unfold rdQ; omega
/-- Four bytes, put together. -/
theorem bits_i64 (x y : Nat) (hx : x < 2 ^ 63) (hy : y < 2 ^ 63) : bitsI .or .i64 (x : Int) (y : Int) = ((x ||| y : Nat) : Int) := by
  have hl : x ||| y < 2 ^ 63 := Nat.or_lt_two_pow hx hy
  show IntKind.i64.wrap (((BitVec.ofInt 64 (x : Int)) ||| (BitVec.ofInt 64 (y : Int))).toNat : Int) = _
  rw [BitVec.ofInt_natCast, BitVec.ofInt_natCast, BitVec.toNat_or, BitVec.toNat_ofNat, BitVec.toNat_ofNat, Nat.mod_eq_of_lt (by omega), Nat.mod_eq_of_lt (by omega)]
  exact wrap_i64_in (by omega) (by omega)
theorem shl_i64 (b k : Nat) (hk : k < 64) (h : b * 2 ^ k < 2 ^ 63) : shlI .i64 (b : Int) (k : Int) = ((b * 2 ^ k : Nat) : Int) := by
  unfold shlI
  rw [Int.toNat_natCast, show min k IntKind.i64.bits = k by simp [IntKind.bits]; omega, show (b : Int) * 2 ^ k = ((b * 2 ^ k : Nat) : Int) by push_cast; rfl]
  exact wrap_i64_in (by omega) (by omega)
theorem four_bytes (b : List UInt8) (h : 4 ≤ b.length) :
    bitsI .or .i64 (bitsI .or .i64 (bitsI .or .i64 (IntKind.i64.wrap ((b.getD 0 0).toNat : Int)) (shlI .i64 (IntKind.i64.wrap ((b.getD 1 0).toNat : Int)) 8)) (shlI .i64 (IntKind.i64.wrap ((b.getD 2 0).toNat : Int)) 16)) (shlI .i64 (IntKind.i64.wrap ((b.getD 3 0).toNat : Int)) 24) = (rdN b : Nat) := by
  match b, h with
  | x0 :: x1 :: x2 :: x3 :: r, _ =>
    have h0 := x0.toNat_lt
    have h1 := x1.toNat_lt
    have h2 := x2.toNat_lt
    have h3 := x3.toNat_lt
    show bitsI .or .i64 (bitsI .or .i64 (bitsI .or .i64 (IntKind.i64.wrap (x0.toNat : Int)) (shlI .i64 (IntKind.i64.wrap (x1.toNat : Int)) ((8 : Nat) : Int))) (shlI .i64 (IntKind.i64.wrap (x2.toNat : Int)) ((16 : Nat) : Int))) (shlI .i64 (IntKind.i64.wrap (x3.toNat : Int)) ((24 : Nat) : Int)) = ((x0.toNat + 256 * (x1.toNat + 256 * (x2.toNat + 256 * (x3.toNat + 256 * 0))) : Nat) : Int)
    rw [byte_wrap, byte_wrap, byte_wrap, byte_wrap, shl_i64 _ 8 (by omega) (by omega), shl_i64 _ 16 (by omega) (by omega), shl_i64 _ 24 (by omega) (by omega)]
    rw [bits_i64 _ _ (by omega) (by omega), or_add (by omega), bits_i64 _ _ (by omega) (by omega), or_add (by omega), bits_i64 _ _ (by omega) (by omega), or_add (by omega)]
    congr 1
    omega
end VX
namespace VX
theorem shr_i64 (k : Nat) (n : Int) : shrI .i64 n (k : Int) = n / 2 ^ (min k 64) := by
  show n.fdiv (2 ^ (min (k : Int).toNat 64)) = _
  rw [Int.toNat_natCast, Int.fdiv_eq_ediv_of_nonneg _ (Int.pow_nonneg (by decide))]
end VX
namespace VX
theorem cat3 {X s b : List UInt8} {g : Nat → A} (h1 : X.length = 5) (h2 : ∀ i, i < 5 → g i = byteAt X i) (hs : s.length = 8) : ∀ i, i < 5 + 8 + b.length → catF (5 + 8) (catF 5 g (byteAt s)) (byteAt b) i = byteAt (X ++ s ++ b) i := fun i hi => by
  refine cat_eq (l := X ++ s) (m := b) (n := 5 + 8) (by rw [List.length_append, h1, hs]) (fun j hj => ?_) (fun _ _ => rfl) i hi
  exact cat_eq (l := X) (m := s) (n := 5) h1.symm h2 (fun _ _ => rfl) j (by rw [hs]; exact hj)
end VX
namespace VX
theorem sub_sim {o o' m n : Nat} {b : List UInt8} (h : o = o') (hm : n ≤ m) : ∀ i, i < n → (shiftF o (byteAt b) i).sim (byteAt ((b.drop o').take m) i) := fun i hi => by
  subst h
  rw [shift_fun]
  exact take_sim _ _ i (by omega)
end VX
namespace VX
theorem isInt_shift (o : Nat) (b : List UInt8) (i : Nat) : isInt .u8 (shiftF o (byteAt b) i) := by
  rw [shift_fun]; exact ⟨_, rfl⟩
end VX

/- Frames, in plain Lean: what is put is read. -/
namespace VX
open Go
theorem byteI_nat (n : Int) : ((byteI n).toNat : Int) = n % 256 := by
  unfold byteI
  rw [UInt8.toNat_ofNat']
  omega
theorem leN_num4 (n : Nat) (h : n < 4294967296) : leN ((numS n).take 4) = n := by
  rw [num4]
  have a := byteI_nat (n : Int)
  have b := byteI_nat ((n : Int) / 256)
  have c := byteI_nat ((n : Int) / 65536)
  have d := byteI_nat ((n : Int) / 16777216)
  simp only [leN]
  omega
theorem read_frame (k : UInt8) (seq : Int) (body r : List UInt8) (hk : k.toNat ≠ 0) (h0 : 0 ≤ seq) (h1 : seq ≤ 9223372036854775807) (hb : body.length ≤ 4096) :
    readS (frameB k seq body ++ r) = ((k.toNat : Int), seq, body, ((21 + body.length : Nat) : Int), 0) := by
  have l4 : ((numS body.length).take 4).length = 4 := by rw [List.length_take, numS_length]; rfl
  have e4 : (frameB k seq body ++ r).take 4 = (numS body.length).take 4 := by
    unfold frameB
    rw [List.append_assoc, List.take_append_of_le_length (by rw [l4]; exact Nat.le_refl _), List.take_of_length_le (by rw [l4]; exact Nat.le_refl _)]
  have d4 : (frameB k seq body ++ r).drop 4 = k :: (numS seq ++ (body ++ (markS k seq body ++ r))) := by
    unfold frameB
    rw [List.append_assoc, List.drop_append_of_le_length (by rw [l4]; exact Nat.le_refl _), List.drop_of_length_le (by rw [l4]; exact Nat.le_refl _)]
    simp only [List.nil_append, List.append_assoc, List.cons_append]
  have hn : rdN (frameB k seq body ++ r) = body.length := by unfold rdN; rw [e4, leN_num4 _ (by omega)]
  have hkk : rdK (frameB k seq body ++ r) = k := by
    have : (frameB k seq body ++ r).getD 4 0 = ((frameB k seq body ++ r).drop 4).getD 0 0 := by rw [List.getD_eq_getElem?_getD, List.getD_eq_getElem?_getD, List.getElem?_drop]
    show (frameB k seq body ++ r).getD 4 0 = k
    rw [this, d4]; rfl
  have d5 : (frameB k seq body ++ r).drop 5 = numS seq ++ (body ++ (markS k seq body ++ r)) := by
    rw [show 5 = 4 + 1 from rfl, ← List.drop_drop, d4]; rfl
  have hq : (rdQ (frameB k seq body ++ r) : Int) = seq := by
    unfold rdQ
    rw [d5, List.take_append_of_le_length (by rw [numS_length]; exact Nat.le_refl _), List.take_of_length_le (by rw [numS_length]; exact Nat.le_refl _)]
    exact leN_numS seq (inr_u64.2 ⟨h0, by omega⟩)
  have d13 : (frameB k seq body ++ r).drop 13 = body ++ (markS k seq body ++ r) := by
    rw [show 13 = 5 + 8 from rfl, ← List.drop_drop, d5, List.drop_append_of_le_length (by rw [numS_length]; exact Nat.le_refl _), List.drop_of_length_le (by rw [numS_length]; exact Nat.le_refl _)]; rfl
  have hbd : ((frameB k seq body ++ r).drop 13).take body.length = body := by rw [d13, List.take_append_of_le_length (Nat.le_refl _), List.take_of_length_le (Nat.le_refl _)]
  have hm : ((frameB k seq body ++ r).drop (13 + body.length)).take 8 = markS k seq body := by
    rw [← List.drop_drop, d13, List.drop_append_of_le_length (Nat.le_refl _), List.drop_of_length_le (Nat.le_refl _), List.nil_append, List.take_append_of_le_length (by rw [markS_len]; exact Nat.le_refl _), List.take_of_length_le (by rw [markS_len]; exact Nat.le_refl _)]
  have hl : (frameB k seq body ++ r).length = 21 + body.length + r.length := by rw [List.length_append, frameB_len]
  unfold readS
  rw [hn, hkk, hq, hbd, hm, if_neg (by omega), if_neg (by omega), if_neg (by omega), if_neg (by simp)]
theorem set_sim (l : List UInt8) (e : Nat) (v : UInt8) {n : Nat} (hn : n ≤ l.length) : ∀ i, i < n → (setF (byteAt l) e (VX.byte v) i).sim (byteAt (l.set e v) i) := fun i hi => by
  refine A.sim.of ?_
  unfold setF
  by_cases h : i = e
  · subst h
    have : Nat.beq i i = true := by simp
    rw [this, cond_true]
    show _ = VX.byte ((l.set i v).getD i 0)
    rw [List.getD_eq_getElem?_getD, List.getElem?_set_self (by omega)]; rfl
  · have : Nat.beq i e = false := nbeq_ne h
    rw [this, cond_false]
    show VX.byte (l.getD i 0) = VX.byte ((l.set e v).getD i 0)
    rw [List.getD_eq_getElem?_getD, List.getD_eq_getElem?_getD, List.getElem?_set_ne (Ne.symm h)]
theorem byte_ex {n : Int} (h : inr .u8 n) : ∃ v : UInt8, A.int .u8 n = VX.byte v := ⟨_, byte_of h⟩
end VX
namespace VX
open Go
theorem and_small (n : Int) (m : Nat) (hm : m < 2 ^ 62) : 0 ≤ bitsI .and .i64 n m ∧ bitsI .and .i64 n m ≤ m := by
  have h : ((BitVec.ofInt 64 n) &&& (BitVec.ofInt 64 (m : Int))).toNat ≤ m := by
    rw [BitVec.toNat_and, BitVec.ofInt_natCast, BitVec.toNat_ofNat, Nat.mod_eq_of_lt (a := m) (by omega)]
    exact Nat.and_le_right
  have e : bitsI .and .i64 n m = ((((BitVec.ofInt 64 n) &&& (BitVec.ofInt 64 (m : Int))).toNat : Nat) : Int) := by
    show IntKind.i64.wrap ((((BitVec.ofInt 64 n) &&& (BitVec.ofInt 64 (m : Int))).toNat : Nat) : Int) = _
    exact wrap_i64_in (by omega) (by omega)
  rw [e]
  omega
end VX
namespace VX
end VX

/- Parts, one behind another, in plain Lean. -/
namespace VX
end VX

/- Heaps in lists: how one is pushed, popped, and what they hold. In plain Lean. -/
namespace HP
variable {α : Type} [Inhabited α]

abbrev at_ (a : List α) (i : Nat) : α := a.getD i default
theorem at_mem {a : List α} {i : Nat} (h : i < a.length) : at_ a i ∈ a := by
  simp only [at_, List.getD_eq_getElem?_getD, List.getElem?_eq_getElem h, Option.getD_some]
  exact List.getElem_mem h
theorem mem_at {a : List α} {x : α} (h : x ∈ a) : ∃ i, i < a.length ∧ at_ a i = x := by
  obtain ⟨i, hi, rfl⟩ := List.getElem_of_mem h
  exact ⟨i, hi, by simp [at_, List.getD_eq_getElem?_getD, hi]⟩
/-- A strict total order, told by a test. -/
structure Ord (lt : α → α → Bool) : Prop where
  irr : ∀ a, lt a a = false
  tr : ∀ a b c, lt a b = true → lt b c = true → lt a c = true
  tot : ∀ a b, lt a b = false → lt b a = false → a = b
variable {lt : α → α → Bool}
/-! ### a heap's story -/
theorem at_append_left {a b : List α} {k : Nat} (h : k < a.length) : at_ (a ++ b) k = at_ a k := by
  simp only [at_, List.getD_eq_getElem?_getD]; rw [List.getElem?_append_left h]
theorem at_take {a : List α} {n k : Nat} (h : k < n) : at_ (a.take n) k = at_ a k := by
  simp only [at_, List.getD_eq_getElem?_getD]; rw [List.getElem?_take_of_lt h]
end HP

/- Sorting in place: turning, merging, in plain Lean. -/
namespace HP
variable {α : Type} [Inhabited α]

theorem ext_at {a b : List α} (hl : a.length = b.length) (h : ∀ k, k < a.length → at_ a k = at_ b k) : a = b := by
  apply List.ext_getElem hl
  intro i h1 h2
  have := h i h1
  simpa [at_, List.getD_eq_getElem?_getD, h1, h2] using this
/-- A list told by a function. -/
def mk (n : Nat) (f : Nat → α) : List α := (List.range n).map f
/-! ### what stands outside stays; all are there -/
def seg (d : List α) (a b : Nat) : List α := (d.take b).drop a
theorem seg_len {d : List α} {a b : Nat} (h : b ≤ d.length) : (seg d a b).length = b - a := by rw [seg, List.length_drop, List.length_take]; omega
theorem seg_at {d : List α} {a b k : Nat} (h : a + k < b) : at_ (seg d a b) k = at_ d (a + k) := by
  simp only [at_, List.getD_eq_getElem?_getD, seg]
  rw [List.getElem?_drop, List.getElem?_take_of_lt h]
theorem seg_split {d : List α} {a b : Nat} (h : a ≤ b) : d = d.take a ++ (seg d a b ++ d.drop b) := by
  have h1 : d.take a = (d.take b).take a := by rw [List.take_take, Nat.min_eq_left h]
  rw [h1, seg, ← List.append_assoc, List.take_append_drop, List.take_append_drop]
structure Mv (a b : Nat) (d d' : List α) : Prop where
  len : d'.length = d.length
  out : ∀ k, k < a ∨ b ≤ k → at_ d' k = at_ d k
  perm : List.Perm d' d
theorem Mv.refl (a b : Nat) (d : List α) : Mv a b d d := ⟨rfl, fun _ _ => rfl, List.Perm.refl _⟩
theorem Mv.trans {a b : Nat} {d e f : List α} (h : Mv a b d e) (k : Mv a b e f) : Mv a b d f := ⟨k.len.trans h.len, fun q hq => (k.out q hq).trans (h.out q hq), k.perm.trans h.perm⟩
theorem Mv.mono {a b a' b' : Nat} {d e : List α} (h : Mv a b d e) (ha : a' ≤ a) (hb : b ≤ b') : Mv a' b' d e := ⟨h.len, fun q hq => h.out q (by omega), h.perm⟩
theorem take_eq {d d' : List α} {a : Nat} (hl : d'.length = d.length) (h : ∀ k, k < a → at_ d' k = at_ d k) : d'.take a = d.take a := by
  refine ext_at (by simp [hl]) fun k hk => ?_
  rw [List.length_take] at hk
  rw [at_take (by omega), at_take (by omega)]
  exact h k (by omega)
theorem at_drop (d : List α) (b k : Nat) : at_ (d.drop b) k = at_ d (b + k) := by
  simp only [at_, List.getD_eq_getElem?_getD]; rw [List.getElem?_drop]
theorem drop_eq {d d' : List α} {b : Nat} (hl : d'.length = d.length) (h : ∀ k, b ≤ k → at_ d' k = at_ d k) : d'.drop b = d.drop b := by
  refine ext_at (by simp [hl]) fun k hk => ?_
  rw [at_drop, at_drop]
  exact h _ (by omega)
theorem Mv.seg {a b : Nat} {d d' : List α} (h : Mv a b d d') (hab : a ≤ b) : List.Perm (HP.seg d' a b) (HP.seg d a b) := by
  have e1 := take_eq h.len fun k hk => h.out k (.inl hk)
  have e2 := drop_eq h.len fun k hk => h.out k (.inr hk)
  have p := h.perm
  rw [seg_split (d := d') hab, seg_split (d := d) hab, e1, e2] at p
  exact (List.perm_append_right_iff _).1 ((List.perm_append_left_iff _).1 p)
/-! ### order -/
variable {lt : α → α → Bool}
def Srt (lt : α → α → Bool) (d : List α) (a b : Nat) : Prop := ∀ i j, a ≤ i → i < j → j < b → lt (at_ d j) (at_ d i) = false
theorem Srt.mono {d : List α} {a b a' b' : Nat} (h : Srt lt d a b) (ha : a ≤ a') (hb : b' ≤ b) : Srt lt d a' b' := fun i j h1 h2 h3 => h i j (by omega) h2 (by omega)
theorem Srt.congr {d d' : List α} {a b : Nat} (h : Srt lt d a b) (he : ∀ k, a ≤ k → k < b → at_ d' k = at_ d k) : Srt lt d' a b := fun i j h1 h2 h3 => by
  rw [he j (by omega) h3, he i h1 (by omega)]
  exact h i j h1 h2 h3
theorem Srt.one {d : List α} {a b : Nat} (h : b ≤ a + 1) : Srt lt d a b := fun i j h1 h2 h3 => by omega
theorem Srt.le (ho : Ord lt) {d : List α} {a b : Nat} (h : Srt lt d a b) {i j : Nat} (h1 : a ≤ i) (h2 : i ≤ j) (h3 : j < b) : lt (at_ d j) (at_ d i) = false := by
  rcases Nat.lt_or_ge i j with h' | h'
  · exact h i j h1 h' h3
  · have : i = j := by omega
    subst this; exact ho.irr _
def Sl (lt : α → α → Bool) (l : List α) : Prop := List.Pairwise (fun x y => lt y x = false) l
theorem uniq (ho : Ord lt) : ∀ {l m : List α}, Sl lt l → Sl lt m → List.Perm l m → l = m
  | [], m, _, _, p => (List.Perm.nil_eq p)
  | x :: l, [], _, _, p => absurd p.length_eq (by simp)
  | x :: l, y :: m, h1, h2, p => by
    have hx := List.pairwise_cons.1 h1
    have hy := List.pairwise_cons.1 h2
    have e : x = y := by
      have m1 : x ∈ y :: m := p.subset (List.mem_cons_self ..)
      have m2 : y ∈ x :: l := p.symm.subset (List.mem_cons_self ..)
      rcases List.mem_cons.1 m1 with e | m1
      · exact e
      · rcases List.mem_cons.1 m2 with e | m2
        · exact e.symm
        · exact ho.tot x y (hy.1 x m1) (hx.1 y m2)
    subst e
    rw [uniq ho hx.2 hy.2 ((List.perm_cons x).1 p)]
theorem Srt.sl {d : List α} {a b : Nat} (h : Srt lt d a b) (hb : b ≤ d.length) : Sl lt (seg d a b) := by
  have hl := seg_len (d := d) (a := a) hb
  refine List.pairwise_iff_getElem.2 fun i j hi hj hij => ?_
  have e : ∀ k (hk : k < (seg d a b).length), (seg d a b)[k] = at_ d (a + k) := fun k hk => by
    have := seg_at (d := d) (a := a) (b := b) (k := k) (by omega)
    rw [← this]
    simp [at_, List.getD_eq_getElem?_getD, hk]
  rw [e i hi, e j hj]
  exact h (a + i) (a + j) (by omega) (by omega) (by omega)
/-! ### one is put into its place -/
/-- What holds of all of a part holds when the part is only moved. -/
theorem Mv.all {a b : Nat} {d d' : List α} (h : Mv a b d d') (hab : a ≤ b) (hb : b ≤ d.length) {P : α → Prop} (hp : ∀ k, a ≤ k → k < b → P (at_ d k)) : ∀ k, a ≤ k → k < b → P (at_ d' k) := fun k h1 h2 => by
  have hs := h.seg hab
  have hl' : (HP.seg d' a b).length = b - a := seg_len (by rw [h.len]; exact hb)
  have e : at_ d' k = at_ (HP.seg d' a b) (k - a) := by rw [seg_at (by omega)]; congr 1; omega
  have hm : at_ d' k ∈ HP.seg d' a b := by rw [e]; exact at_mem (by omega)
  obtain ⟨q, hq, he⟩ := mem_at (hs.subset hm)
  rw [seg_len hb] at hq
  rw [← he, seg_at (by omega)]
  exact hp _ (by omega) (by omega)
end HP

/- Lists of data in slices: setting, swapping, keeping those that fit. -/
namespace VX
open Go
section
variable {α : Type} [Inhabited α]
/-- The elements of a list, as they lie in an array. -/
def lsA (f : α → A) (l : List α) : Nat → A := fun i => f (l.getD i default)
theorem ls_snoc {f : α → A} {a : List α} (d : α) {n m : Nat} (hn : n = a.length) {g : Nat → A} (hg : (g 0) = f d) (hm : m ≤ n + 1) : ∀ k, k < m → (catF n (lsA f a) g k).sim (lsA f (a ++ [d]) k) := fun k hk => A.sim.of (by
  subst hn
  unfold lsA
  by_cases h : k < a.length
  · rw [catF_lt h]
    simp only [List.getD_eq_getElem?_getD]
    rw [List.getElem?_append_left h]
  · have : k = a.length := by omega
    subst this
    rw [catF_ge (Nat.le_refl _), Nat.sub_self, hg]
    simp [List.getD_eq_getElem?_getD])
/-! ### keeping those that fit -/
def kept (p : α → Bool) (l : List α) (j : Nat) : List α := (l.take j).filter p
/-- The first one that does not fit; below 0: none. -/
def idxS (p : α → Bool) : List α → Nat → Int
  | [], _ => -1
  | a :: l, i => if p a = false then i else idxS p l (i + 1)
theorem idxS_at (p : α → Bool) : ∀ (l : List α) (i : Nat), (idxS p l i = -1 ∧ ∀ a ∈ l, p a = true) ∨ (∃ j : Nat, j < l.length ∧ idxS p l i = (i + j : Nat) ∧ p (HP.at_ l j) = false ∧ ∀ q, q < j → p (HP.at_ l q) = true)
  | [], i => .inl ⟨rfl, by simp⟩
  | a :: l, i => by
    unfold idxS
    by_cases h : p a = false
    · rw [if_pos h]
      exact .inr ⟨0, by simp, rfl, by simpa [HP.at_] using h, fun q hq => absurd hq (Nat.not_lt_zero _)⟩
    · rw [if_neg h]
      have h' : p a = true := by simpa using h
      rcases idxS_at p l (i + 1) with ⟨h1, h2⟩ | ⟨j, h1, h2, h3, h4⟩
      · refine .inl ⟨h1, fun b hb => ?_⟩
        rcases List.mem_cons.1 hb with rfl | hb
        · exact h'
        · exact h2 b hb
      · refine .inr ⟨j + 1, by simpa using h1, by rw [h2]; congr 1; omega, by simpa [HP.at_] using h3, fun q hq => ?_⟩
        cases q with
        | zero => simpa [HP.at_] using h'
        | succ q => simpa [HP.at_] using h4 q (by omega)
end
end VX

/- How numbers, strings, and what is due stand to one another: strict total orders. -/
namespace VX
open Go
/-- What is due: when, of which class, how often served, who. -/
structure Due where
  at_ : Int
  cls : Int
  rank : Int
  name : List UInt8
  deriving DecidableEq
instance : Inhabited Due := ⟨⟨0, 0, 0, []⟩⟩
end VX

/- Putting one into a sorted list at its place, told by lists held in arrays: plain Lean. -/
namespace VX
open Go

variable {α : Type} [Inhabited α] {lt : α → α → Bool}

theorem take_snoc {l : List α} {i : Nat} (hi : i < l.length) : l.take (i + 1) = l.take i ++ [HP.at_ l i] := by
  rw [List.take_add_one, List.getElem?_eq_getElem hi, HP.at_, List.getD_eq_getElem?_getD, List.getElem?_eq_getElem hi]
  rfl
end VX

/- A pool of requests that wait: what its operations come to, in plain Lean. -/
namespace VX
open Go

structure Upd where
  name : List UInt8
  ver : Int
  key : Int
  cls : Int
  r : Int
  s : Int
  deriving DecidableEq, Inhabited
structure Pen where
  u : Upd
  tick : Int
  seq : Int
  syn : Bool
  deriving DecidableEq, Inhabited
abbrev updA (u : Upd) : A := .agg [.str u.name, .int .i64 u.ver, .int .u64 u.key, .int .i64 u.cls, .agg [.int .u64 u.r, .int .u64 u.s]]
abbrev penA (p : Pen) : A := .agg [updA p.u, .int .i64 p.tick, .int .i64 p.seq, .bool p.syn]

def setSyn (p : Pen) : Pen := { p with syn := true }
def syncL (l : List Pen) : List Pen := l.map setSyn
def syncO (l : List Pen) : List Pen := (l.filter fun x => !x.syn).map setSyn
def isP (s : List UInt8) (v : Int) (p : Pen) : Bool := !(decide (p.u.name = s) && decide (p.u.ver = v))
def idxP (l : List Pen) (s : List UInt8) (v : Int) : Int := idxS (isP s v) l 0
theorem snocInd {α : Type} {C : List α → Prop} (nil : C []) (snoc : ∀ l x, C l → C (l ++ [x])) (l : List α) : C l := by
  have : ∀ m : List α, C m.reverse := fun m => by
    induction m with
    | nil => exact nil
    | cons x m ih => rw [List.reverse_cons]; exact snoc _ _ ih
  have h := this l.reverse
  rwa [List.reverse_reverse] at h
end VX

/- A pool of requests that wait: more facts, in plain Lean. -/
namespace VX
open Go

structure SyncJ (l : List Pen) (x : Nat × List Pen × List Pen) : Prop where
  i : x.1 ≤ l.length
  len : x.2.1.length = l.length
  le : x.2.2.length ≤ x.1
  out : x.2.2 = syncO (l.take x.1)
  got : x.2.1 = syncL (l.take x.1) ++ l.drop x.1
theorem SyncJ.start (l : List Pen) : SyncJ l (0, l, []) := ⟨Nat.zero_le _, rfl, Nat.le_refl _, rfl, rfl⟩
theorem syncO_snoc (l : List Pen) (x : Pen) : syncO (l ++ [x]) = if x.syn = true then syncO l else syncO l ++ [setSyn x] := by
  unfold syncO
  rw [List.filter_append, List.map_append]
  cases h : x.syn with
  | true => rw [List.filter_cons_of_neg (by simp [h])]; simp
  | false => rw [List.filter_cons_of_pos (by simp [h])]; simp
theorem SyncJ.rest {l a y : List Pen} {i : Nat} (h : SyncJ l (i, a, y)) (j : Nat) (hj : j < l.length) (hij : i ≤ j) : HP.at_ a j = HP.at_ l j := by
  have hg : a = syncL (l.take i) ++ l.drop i := h.got
  have hi : i ≤ l.length := h.i
  rw [hg, HP.at_, List.getD_eq_getElem?_getD, List.getElem?_append_right (by rw [syncL, List.length_map, List.length_take]; omega), syncL, List.length_map, List.length_take, Nat.min_eq_left hi, List.getElem?_drop, HP.at_, List.getD_eq_getElem?_getD]
  rw [show i + (j - i) = j by omega]
theorem pdrop_at {l : List Pen} {i : Nat} (hi : i < l.length) : l.drop i = HP.at_ l i :: l.drop (i + 1) := by
  rw [List.drop_eq_getElem_cons hi, HP.at_, List.getD_eq_getElem?_getD, List.getElem?_eq_getElem hi]
  rfl
theorem SyncJ.skip {l a y : List Pen} {i : Nat} (h : SyncJ l (i, a, y)) (hi : i < l.length) (hs : (HP.at_ l i).syn = true) : SyncJ l (i + 1, a, y) := by
  have hg : a = syncL (l.take i) ++ l.drop i := h.got
  have ho : y = syncO (l.take i) := h.out
  have hle : y.length ≤ i := h.le
  have hse : setSyn (HP.at_ l i) = HP.at_ l i := by
    generalize HP.at_ l i = p at hs
    cases p
    simp only at hs
    subst hs
    rfl
  refine ⟨hi, h.len, by simp only; omega, ?_, ?_⟩
  · simp only
    rw [take_snoc hi, syncO_snoc, if_pos hs]; exact ho
  · simp only
    rw [take_snoc hi, hg, pdrop_at hi]
    show _ = List.map setSyn (l.take i ++ [HP.at_ l i]) ++ _
    rw [List.map_append, List.append_assoc]
    show _ = _ ++ ([setSyn (HP.at_ l i)] ++ _)
    rw [hse]; rfl
theorem SyncJ.step {l a y : List Pen} {i : Nat} (h : SyncJ l (i, a, y)) (hi : i < l.length) (hs : (HP.at_ l i).syn = false) : SyncJ l (i + 1, a.set i (setSyn (HP.at_ a i)), y ++ [setSyn (HP.at_ a i)]) := by
  have hg : a = syncL (l.take i) ++ l.drop i := h.got
  have ho : y = syncO (l.take i) := h.out
  have hle : y.length ≤ i := h.le
  have hat : HP.at_ a i = HP.at_ l i := h.rest i hi (Nat.le_refl _)
  have hl : (syncL (l.take i)).length = i := by rw [syncL, List.length_map, List.length_take]; omega
  rw [hat]
  refine ⟨hi, by simp only [List.length_set]; exact h.len, by simp only [List.length_append, List.length_cons, List.length_nil]; omega, ?_, ?_⟩
  · simp only
    rw [take_snoc hi, syncO_snoc, if_neg (by rw [hs]; decide), ho]
  · simp only
    rw [take_snoc hi, hg, pdrop_at hi, List.set_append, if_neg (by omega), hl, Nat.sub_self]
    show _ ++ setSyn (HP.at_ l i) :: _ = List.map setSyn (l.take i ++ [HP.at_ l i]) ++ _
    rw [List.map_append, List.append_assoc]
    rfl
theorem SyncJ.done {l a y : List Pen} {i : Nat} (h : SyncJ l (i, a, y)) (hi : ¬ i < l.length) : a = syncL l ∧ y = syncO l := by
  have hg : a = syncL (l.take i) ++ l.drop i := h.got
  have ho : y = syncO (l.take i) := h.out
  rw [List.take_of_length_le (by omega)] at hg ho
  rw [List.drop_of_length_le (by omega), List.append_nil] at hg
  exact ⟨hg, ho⟩
end VX

/- A pool of requests that wait: those that are picked, in plain Lean. -/
namespace VX
open Go

end VX

/- Pools whose names are told apart by their numbers: plain Lean. -/
namespace VX
open Go

def nm (i : Nat) : List UInt8 := [UInt8.ofNat (97 + i)]
theorem nm_inj {i j : Nat} (hi : i < 100) (hj : j < 100) (h : nm i = nm j) : i = j := by
  have := congrArg UInt8.toNat (List.cons.inj h).1
  simp at this
  omega
structure OrdJ (i : Nat) (A : List Pen) : Prop where
  len : A.length ≤ i
  each : ∀ p ∈ A, p.u.ver = 1 ∧ 0 ≤ p.seq ∧ p.seq < i ∧ p.u.name = nm p.seq.toNat
  up : A.Pairwise fun p q => p.seq < q.seq
theorem OrdJ.other {i : Nat} {A : List Pen} (h : OrdJ i A) (hi : i < 100) : ∀ p ∈ A, p.u.name ≠ nm i := fun p hp e => by
  obtain ⟨_, h1, h2, h3⟩ := h.each p hp
  have := nm_inj (by omega) hi (h3.symm.trans e)
  omega
theorem OrdJ.add {i : Nat} {A : List Pen} (h : OrdJ i A) (k c r s t : Int) (b : Bool) : OrdJ (i + 1) (A ++ [⟨⟨nm i, 1, k, c, r, s⟩, t, (i : Nat), b⟩]) := by
  refine ⟨by have := h.len; simp only [List.length_append, List.length_cons, List.length_nil]; omega, fun p hp => ?_, ?_⟩
  · rcases List.mem_append.1 hp with hp | hp
    · obtain ⟨h0, h1, h2, h3⟩ := h.each p hp
      exact ⟨h0, h1, by omega, h3⟩
    · have : p = ⟨⟨nm i, 1, k, c, r, s⟩, t, (i : Nat), b⟩ := by simpa using hp
      subst this
      exact ⟨rfl, by simp only; omega, by simp only; omega, rfl⟩
  · rw [List.pairwise_append]
    refine ⟨h.up, List.pairwise_singleton _ _, fun p hp q hq => ?_⟩
    have : q = ⟨⟨nm i, 1, k, c, r, s⟩, t, (i : Nat), b⟩ := by simpa using hq
    subst this
    exact (h.each p hp).2.2.1
theorem OrdJ.lt {i : Nat} {A : List Pen} (h : OrdJ i A) {a b : Nat} (hab : a < b) (hb : b < A.length) : (HP.at_ A a).seq < (HP.at_ A b).seq := by
  have := List.pairwise_iff_getElem.1 h.up a b (by omega) hb hab
  simpa [HP.at_, List.getD_eq_getElem?_getD, hb, show a < A.length by omega] using this
theorem OrdJ.uniq {i : Nat} {A : List Pen} (h : OrdJ i A) (hi : i ≤ 100) {a b : Nat} (ha : a < A.length) (hb : b < A.length) (e : (HP.at_ A a).u.name = (HP.at_ A b).u.name) : a = b := by
  obtain ⟨_, h1, h2, h3⟩ := h.each _ (HP.at_mem ha)
  obtain ⟨_, k1, k2, k3⟩ := h.each _ (HP.at_mem hb)
  have hs := nm_inj (by omega) (by omega) (h3.symm.trans (e.trans k3))
  rcases Nat.lt_trichotomy a b with q | q | q
  · have := h.lt q hb; omega
  · exact q
  · have := h.lt q ha; omega
theorem isP_false {s : List UInt8} {v : Int} {p : Pen} : isP s v p = false ↔ p.u.name = s ∧ p.u.ver = v := by
  unfold isP
  simp
theorem OrdJ.idx {i : Nat} {A : List Pen} (h : OrdJ i A) (hi : i ≤ 100) {k : Nat} (hk : k < A.length) : idxP A (HP.at_ A k).u.name 1 = (k : Nat) := by
  rcases idxS_at (isP (HP.at_ A k).u.name 1) A 0 with ⟨_, h2⟩ | ⟨j, h1, e, h3, _⟩
  · have := h2 _ (HP.at_mem hk)
    rw [isP_false.2 ⟨rfl, (h.each _ (HP.at_mem hk)).1⟩] at this
    cases this
  · have := h.uniq hi h1 hk (isP_false.1 h3).1
    subst this
    rw [Nat.zero_add] at e
    exact e
theorem at_erase {α : Type} [Inhabited α] (A : List α) (k j : Nat) : HP.at_ (A.eraseIdx k) j = if j < k then HP.at_ A j else HP.at_ A (j + 1) := by
  simp only [HP.at_, List.getD_eq_getElem?_getD, List.getElem?_eraseIdx]
  split <;> rfl
theorem OrdJ.gone {i : Nat} {A : List Pen} (h : OrdJ i A) (hi : i ≤ 100) {k : Nat} (hk : k < A.length) : idxP (A.eraseIdx k) (HP.at_ A k).u.name 1 = -1 := by
  have hl : (A.eraseIdx k).length = A.length - 1 := by rw [List.length_eraseIdx, if_pos hk]
  rcases idxS_at (isP (HP.at_ A k).u.name 1) (A.eraseIdx k) 0 with ⟨e, _⟩ | ⟨j, h1, e, h3, _⟩
  · exact e
  · exfalso
    have hn := (isP_false.1 h3).1
    rw [at_erase] at hn
    by_cases hj : j < k
    · rw [if_pos hj] at hn
      have := h.uniq hi (by omega) hk hn
      omega
    · rw [if_neg hj] at hn
      have := h.uniq hi (by omega) hk hn
      omega
end VX

/- Those that are picked: order and names, plain Lean. -/
namespace VX
open Go

/-! ### of like deadlines -/
end VX

/- How many may wait: plain Lean. -/
namespace VX
open Go

end VX

/- What is synced: plain Lean. -/
namespace VX
open Go

end VX

