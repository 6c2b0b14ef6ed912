/- Logs as trees, in plain Lean: lengths of numbers, splits. -/
import Derived.Test.YtfgpiobnmddmhaaByL
set_option linter.unusedSimpArgs false
set_option linter.unusedVariables false
namespace VX
open Go
/-- How many bits a number has. -/
def lenS (x : Nat) : Nat := if x = 0 then 0 else Nat.log2 x + 1
def len8 : List UInt8 := (List.range 256).map fun k => UInt8.ofNat (lenS k)
theorem lenS_add (x k : Nat) (h : 2 ^ k ≤ x) : lenS x = k + lenS (x / 2 ^ k) := by
  have hk : 0 < 2 ^ k := Nat.pow_pos (by decide)
  have hx : x ≠ 0 := by omega
  have h1 : x / 2 ^ k ≠ 0 := by
    have := Nat.div_pos h hk
    omega
  unfold lenS
  rw [if_neg hx, if_neg h1]
  have e : Nat.log2 x = k + Nat.log2 (x / 2 ^ k) := by
    rw [Nat.log2_eq_iff hx]
    have a1 := Nat.log2_self_le h1
    have a2 := Nat.lt_log2_self (n := x / 2 ^ k)
    refine ⟨?_, ?_⟩
    · rw [Nat.pow_add, Nat.mul_comm]
      exact (Nat.le_div_iff_mul_le hk).1 a1
    · rw [Nat.add_assoc, Nat.pow_add, Nat.mul_comm]
      exact (Nat.div_lt_iff_lt_mul hk).1 a2
  omega
theorem byte_wrap (b : UInt8) : IntKind.i64.wrap (b.toNat : Int) = b.toNat := by
  have := UInt8.toNat_lt b
  exact wrap_i64_in (by omega) (by omega)
theorem len_lo (p : Int) (b : UInt8) (hp : 0 ≤ p) : IntKind.i64.min ≤ p + IntKind.i64.wrap (b.toNat : Int) := by
  rw [byte_wrap, min_i64]; omega
theorem len_hi (p : Int) (b : UInt8) (hp : p ≤ 1000) : p + IntKind.i64.wrap (b.toNat : Int) ≤ IntKind.i64.max := by
  have := UInt8.toNat_lt b
  rw [byte_wrap, max_i64]; omega
theorem shr8 (n : Int) : shrI .u64 n 8 = n / 256 := by
  show n.fdiv (2 ^ 8) = _
  rw [Int.fdiv_eq_ediv_of_nonneg _ (by decide)]; rfl
theorem shr16 (n : Int) : shrI .u64 n 16 = n / 65536 := by
  show n.fdiv (2 ^ 16) = _
  rw [Int.fdiv_eq_ediv_of_nonneg _ (by decide)]; rfl
theorem shr32 (n : Int) : shrI .u64 n 32 = n / 4294967296 := by
  show n.fdiv (2 ^ 32) = _
  rw [Int.fdiv_eq_ediv_of_nonneg _ (by decide)]; rfl
theorem len_tab : ∀ k : _root_.Fin 256, (len8.getD k.val 0).toNat = lenS k.val := by decide +kernel
theorem len_lt {l : List UInt8} {k : Int} (h : l.length = 256) (hk : k < 256) : k < l.length := by omega
theorem len_end {l : List UInt8} (hl : l = len8) {x : Nat} {p k : Int} (j y : Nat) (hp : p = j) (hk : k = (y : Nat)) (hy : y < 256) (hx : lenS x = j + lenS y) : p + IntKind.i64.wrap ((l.getD k.toNat 0).toNat : Int) = (lenS x : Nat) := by
  subst hl hk hp
  rw [byte_wrap, Int.toNat_natCast, show (len8.getD y 0).toNat = lenS y from len_tab ⟨y, hy⟩, hx]
  omega
/-- The greatest power of two below a number. -/
def splitS (n : Nat) : Nat := if n < 2 then 0 else 2 ^ Nat.log2 (n - 1)
theorem splitS_facts {n : Nat} (h : 2 ≤ n) : 1 ≤ splitS n ∧ splitS n < n ∧ n ≤ 2 * splitS n := by
  unfold splitS
  rw [if_neg (by omega)]
  have a1 := Nat.log2_self_le (n := n - 1) (by omega)
  have a2 := Nat.lt_log2_self (n := n - 1)
  have a3 : 0 < 2 ^ Nat.log2 (n - 1) := Nat.pow_pos (by decide)
  rw [Nat.pow_succ] at a2
  omega
theorem splitS_small {n : Nat} (h : n < 2) : splitS n = 0 := if_pos h
theorem splitS_lenS {n : Nat} (h : 2 ≤ n) : splitS n = 2 ^ (lenS (n - 1) - 1) := by
  unfold splitS lenS
  rw [if_neg (by omega), if_neg (by omega)]
  simp
theorem lenS_le {x k : Nat} (h : x < 2 ^ k) : lenS x ≤ k := by
  unfold lenS
  split
  · omega
  · rename_i h0
    have := (Nat.log2_lt h0).2 h
    omega
theorem lenS_pos {x : Nat} (h : 0 < x) : 1 ≤ lenS x := by
  unfold lenS
  rw [if_neg (by omega)]; omega
/-- A power of two that doubles to no less than n, and is below n, is the split. -/
theorem splitS_uniq {n j : Nat} (h : 2 ≤ n) (h1 : 2 ^ j < n) (h2 : n ≤ 2 * 2 ^ j) : splitS n = 2 ^ j := by
  unfold splitS
  rw [if_neg (by omega)]
  congr 1
  rw [Nat.log2_eq_iff (by omega), Nat.pow_succ]
  omega
end VX
namespace VX
open Go
abbrev Hs := List UInt8
def leafS (b : List UInt8) : Hs := sumS (textS 76 [b])
def nodeS (a b : Hs) : Hs := sumS (textS 78 [a, b])
def rootF : Nat → List Hs → Hs
  | 0, _ => sumS (textS 69 [])
  | f + 1, l => match l with
    | [] => sumS (textS 69 [])
    | [x] => x
    | x :: y :: r => nodeS (rootF f ((x :: y :: r).take (splitS (x :: y :: r).length))) (rootF f ((x :: y :: r).drop (splitS (x :: y :: r).length)))
def rootS (l : List Hs) : Hs := rootF l.length l
theorem take_lt {α : Type} {l : List α} (h : 2 ≤ l.length) : (l.take (splitS l.length)).length = splitS l.length ∧ (l.drop (splitS l.length)).length = l.length - splitS l.length := by
  have := splitS_facts h
  rw [List.length_take, List.length_drop]; omega
theorem rootF_succ (f : Nat) (l : List Hs) (h : 2 ≤ l.length) : rootF (f + 1) l = nodeS (rootF f (l.take (splitS l.length))) (rootF f (l.drop (splitS l.length))) := by
  match l, h with
  | x :: y :: r, _ => rfl
theorem rootF_eq : ∀ (f g : Nat) (l : List Hs), l.length ≤ f → l.length ≤ g → rootF f l = rootF g l
  | 0, 0, l, _, _ => rfl
  | 0, g + 1, l, h, _ => by
    have : l = [] := List.eq_nil_of_length_eq_zero (by omega)
    subst this; rfl
  | f + 1, 0, l, _, h => by
    have : l = [] := List.eq_nil_of_length_eq_zero (by omega)
    subst this; rfl
  | f + 1, g + 1, l, hf, hg => by
    by_cases h : 2 ≤ l.length
    · have e := take_lt h
      have k := splitS_facts h
      rw [rootF_succ f l h, rootF_succ g l h, rootF_eq f g _ (by rw [e.1]; omega) (by rw [e.1]; omega), rootF_eq f g _ (by rw [e.2]; omega) (by rw [e.2]; omega)]
    · match l, h with
      | [], _ => rfl
      | [x], _ => rfl
      | x :: y :: r, h => exact absurd (by simp) h
theorem rootS_two {l : List Hs} (h : 2 ≤ l.length) : rootS l = nodeS (rootS (l.take (splitS l.length))) (rootS (l.drop (splitS l.length))) := by
  have e := take_lt h
  have k := splitS_facts h
  unfold rootS
  obtain ⟨f, hf⟩ : ∃ f, l.length = f + 1 := ⟨l.length - 1, by omega⟩
  rw [hf, rootF_succ f l h, hf, rootF_eq f _ _ (by rw [← hf, e.1]; omega) (Nat.le_refl _), rootF_eq f _ _ (by rw [← hf, e.2]; omega) (Nat.le_refl _)]
theorem rootS_nil : rootS [] = sumS (textS 69 []) := rfl
theorem rootS_one (x : Hs) : rootS [x] = x := rfl
end VX
namespace VX
open Go
theorem leafS_len (b : List UInt8) : (leafS b).length = 32 := sumS_length _
theorem nodeS_len (a b : Hs) : (nodeS a b).length = 32 := sumS_length _
theorem rootS_len (l : List Hs) (h : ∀ x ∈ l, x.length = 32) : (rootS l).length = 32 := by
  by_cases h2 : 2 ≤ l.length
  · rw [rootS_two h2]; exact nodeS_len _ _
  · match l, h2 with
    | [], _ => exact sumS_length _
    | [x], _ => exact h x (by simp)
    | x :: y :: r, h => exact absurd (by simp) h
end VX
namespace VX
theorem lenS_add32 (x : Nat) (h : 4294967296 ≤ x) : lenS x = 32 + lenS (x / 4294967296) := lenS_add x 32 h
theorem lenS_add16 (x : Nat) (h : 65536 ≤ x) : lenS x = 16 + lenS (x / 65536) := lenS_add x 16 h
theorem lenS_add8 (x : Nat) (h : 256 ≤ x) : lenS x = 8 + lenS (x / 256) := lenS_add x 8 h
end VX
