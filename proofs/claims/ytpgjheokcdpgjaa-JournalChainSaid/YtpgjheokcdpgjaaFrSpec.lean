/- Frames, in plain Lean. -/
import Derived.Test.YtpgjheokcdpgjaaByL
import Derived.Test.YtpgjheokcdpgjaaLgSpec3
set_option linter.unusedSimpArgs false
set_option linter.unusedVariables false
namespace VX
open Go
theorem sim_roB {n : Nat} {g : Nat → A} {l : List UInt8} (hn : n = l.length) (hg : ∀ i, i < n → (g i).sim (byteAt l i)) : (A.ro 1 n g).sim (bytesA l) := by
  subst hn
  exact A.sim.ro hg
theorem sim5a {z a b c d e : A} {h : Nat → A} (h0 : a.sim (h 0)) (h1 : b.sim (h 1)) (h2 : c.sim (h 2)) (h3 : d.sim (h 3)) (h4 : e.sim (h 4)) : ∀ i, i < 5 → ((listF z (fillL (repl z 5) [(0, a), (1, b), (2, c), (3, d), (4, e)])) i).sim (h i) := fun i hi => by
  match i, hi with
  | 0, _ => exact h0
  | 1, _ => exact h1
  | 2, _ => exact h2
  | 3, _ => exact h3
  | 4, _ => exact h4
/-- The checksum of a frame. -/
def markS (k : UInt8) (seq : Int) (body : List UInt8) : List UInt8 := (sumS (textS 102 [[k], numS seq, body])).take 8
theorem markS_len (k : UInt8) (seq : Int) (body : List UInt8) : (markS k seq body).length = 8 := by
  unfold markS
  rw [List.length_take, sumS_length]; rfl
theorem mark_text (k : UInt8) (seq : Int) (body : List UInt8) (h : body.length ≤ 1000000000) : (textS 102 [[k], numS seq, body]).length ≤ 1000000000000 := by
  have := textS_bound 102 [[k], numS seq, body] 1000000000 (all3 (by show 1 ≤ _; omega) (by rw [numS_length]; omega) h)
  have e : ([[k], numS seq, body] : List (List UInt8)).length = 3 := rfl
  rw [e] at this
  omega
def byteI (n : Int) : UInt8 := UInt8.ofNat (n % 256).toNat
theorem byteI_at (n : Int) : A.int .u8 (IntKind.u8.wrap n) = VX.byte (byteI n) := by
  unfold VX.byte byteI
  rw [wrap_u8, UInt8.toNat_ofNat']
  congr 1
  omega
def frameB (k : UInt8) (seq : Int) (body : List UInt8) : List UInt8 := (numS body.length).take 4 ++ ([k] ++ (numS seq ++ (body ++ markS k seq body)))
theorem frameB_len (k : UInt8) (seq : Int) (body : List UInt8) : (frameB k seq body).length = 21 + body.length := by
  unfold frameB
  simp only [List.length_append, List.length_take, numS_length, markS_len, List.length_cons, List.length_nil]
  omega
def putS (kind seq : Int) (body : List UInt8) : List UInt8 × Int :=
  if kind < 1 ∨ 255 < kind ∨ seq < 0 then ([], 23) else if 4096 < body.length then ([], 22) else (frameB (byteI kind) seq body, 0)
theorem num4 (n : Int) : (numS n).take 4 = [byteI n, byteI (n / 256), byteI (n / 65536), byteI (n / 16777216)] := by
  unfold numS byteI
  simp only [show List.range 8 = [0, 1, 2, 3, 4, 5, 6, 7] from rfl, List.map_cons, List.map_nil, List.take_succ_cons, List.take_zero]
  congr 4 <;> omega
/-- What a frame's bytes begin with. -/
def rdN (b : List UInt8) : Nat := leN (b.take 4)
abbrev rdK (b : List UInt8) : UInt8 := b.getD 4 0
def rdQ (b : List UInt8) : Nat := leN ((b.drop 5).take 8)
abbrev Fr := Int × Int × List UInt8 × Int × Int
def frE (e : Int) : Fr := (0, 0, [], 0, e)
def readS (b : List UInt8) : Fr :=
  if b.length < 13 then frE 21
  else if 4096 < rdN b ∨ (rdK b).toNat = 0 ∨ 9223372036854775807 < rdQ b then frE 20
  else if b.length < 21 + rdN b then frE 21
  else if markS (rdK b) (rdQ b) ((b.drop 13).take (rdN b)) ≠ (b.drop (13 + rdN b)).take 8 then frE 24
  else ((rdK b).toNat, rdQ b, (b.drop 13).take (rdN b), ((21 + rdN b : Nat) : Int), 0)
theorem leN_zeros (l : List UInt8) : ∀ k, leN (l ++ List.replicate k 0) = leN l := by
  induction l with
  | nil =>
    intro k
    induction k with
    | zero => rfl
    | succ k ih => simp only [List.nil_append] at ih ⊢; show 0 + 256 * leN (List.replicate k 0) = 0; rw [ih]; rfl
  | cons x l ih => intro k; rw [List.cons_append, leN, ih]; rfl
theorem numR_8 (l : List UInt8) (h : l.length = 8) : numR ⟨l, 0⟩ = (((leN l : Nat) : Int), (⟨[], 0⟩ : Rd)) := by
  have : rawS ⟨l, 0⟩ 8 = (l, ⟨[], 0⟩) := by
    rw [show (8 : Int) = ((8 : Nat) : Int) from rfl, rawS_nat _ _ (by omega), List.take_of_length_le (by omega), List.drop_of_length_le (by omega)]
  unfold numR
  rw [this]
theorem rdN_lt (b : List UInt8) : rdN b < 4294967296 := by
  have := leN_lt (b.take 4)
  have h : (b.take 4).length ≤ 4 := List.length_take_le _ _
  have h4 : 256 ^ (b.take 4).length ≤ 256 ^ 4 := Nat.pow_le_pow_right (by decide) h
  unfold rdN; omega
theorem rdQ_lt (b : List UInt8) : rdQ b < 18446744073709551616 := by
  have := leN_lt ((b.drop 5).take 8)
  have h : ((b.drop 5).take 8).length ≤ 8 := List.length_take_le _ _
  have h4 : 256 ^ ((b.drop 5).take 8).length ≤ 256 ^ 8 := Nat.pow_le_pow_right (by decide) h
  unfold rdQ; omega
end VX
namespace VX
end VX
namespace VX
end VX
namespace VX
theorem sub_sim {o o' m n : Nat} {b : List UInt8} (h : o = o') (hm : n ≤ m) : ∀ i, i < n → (shiftF o (byteAt b) i).sim (byteAt ((b.drop o').take m) i) := fun i hi => by
  subst h
  rw [shift_fun]
  exact take_sim _ _ i (by omega)
end VX
namespace VX
end VX
