/- Requests as bytes, records of a journal: plain Lean. -/
import Derived.Test.YtpgjheokcdpgjaaBnBack
import Derived.Test.YtpgjheokcdpgjaaFrSpec2
import Derived.Test.YtpgjheokcdpgjaaPoSpec
set_option linter.unusedSimpArgs false
set_option linter.unusedVariables false
namespace VX
open Go

def updRight (u : Upd) : Bool := decide (1 ≤ u.name.length ∧ u.name.length ≤ 32 ∧ 1 ≤ u.ver ∧ u.ver ≤ 1073741824 ∧ 1 ≤ u.key ∧ u.key < 2305843009213693951 ∧ (u.cls = 0 ∨ u.cls = 1))
def mayE (s : List UInt8) (v k : Int) : Bool := decide (1 ≤ s.length ∧ s.length ≤ 32 ∧ 1 ≤ v ∧ v ≤ 1073741824 ∧ 1 ≤ k ∧ k < 2305843009213693951)
theorem updRight_eq (u : Upd) : updRight u = (mayE u.name u.ver u.key && decide (u.cls = 0 ∨ u.cls = 1)) := by
  unfold updRight mayE
  rw [← Bool.decide_and]
  exact decide_eq_decide.2 (by simp only [and_assoc])
abbrev entA (s : List UInt8) (v k : Int) : A := .agg [.str s, .int .i64 v, .int .u64 k]
def sgB (r s : Int) : List UInt8 := numS r ++ numS s
def fdB (s : List UInt8) (v k : Int) : List UInt8 := lumpS s ++ (numS v ++ numS k)
def uB (u : Upd) : List UInt8 := fdB u.name u.ver u.key ++ (numS u.cls ++ sgB u.r u.s)
theorem sgB_len (r s : Int) : (sgB r s).length = 16 := by rw [sgB, List.length_append, numS_length, numS_length]
theorem fdB_len (s : List UInt8) (v k : Int) : (fdB s v k).length = 24 + s.length := by
  rw [fdB, List.length_append, List.length_append, lumpS_length, numS_length, numS_length]; omega
theorem uB_len (u : Upd) : (uB u).length = 48 + u.name.length := by
  rw [uB, List.length_append, List.length_append, fdB_len, numS_length, sgB_len]; omega
def uputS (u : Upd) : List UInt8 × Int := if updRight u = true then (uB u, 0) else ([], 23)
def nearV (n : Int) : Int := if 1073741824 < n then -1 else n
def nearT (n : Int) : Int := if 1152921504606846976 < n then -1 else n
def intR (n : Int) : Int := if 9223372036854775807 < n then -1 else n
/-- What a reader reads of a request; the two numbers that may be too great are read by f. -/
def urd1 (b : List UInt8) : List UInt8 × Rd := lumpR ⟨b, 0⟩ 32
def urd2 (b : List UInt8) : Int × Rd := numR (urd1 b).2
def urd3 (b : List UInt8) : Int × Rd := numR (urd2 b).2
def urd4 (b : List UInt8) : Int × Rd := numR (urd3 b).2
def urd5 (b : List UInt8) : Int × Rd := numR (urd4 b).2
def urd6 (b : List UInt8) : Int × Rd := numR (urd5 b).2
def ustep (f : Int → Int) (b : List UInt8) : Upd := ⟨(urd1 b).1, f (urd2 b).1, (urd3 b).1, f (urd4 b).1, (urd5 b).1, (urd6 b).1⟩
def ureadF (f : Int → Int) (b : List UInt8) : Upd × Int :=
  if 512 < b.length then (default, 22)
  else if (urd6 b).2.e ≠ 0 then (default, (urd6 b).2.e)
  else if 0 < (urd6 b).2.l.length then (default, 20)
  else if updRight (ustep f b) = true then (ustep f b, 0) else (default, 23)
def ureadS (b : List UInt8) : Upd × Int := ureadF nearV b
/-! ### records -/
structure Rec where
  kind : Int
  seq : Int
  gen : Int
  count : Int
  u : Upd
  tick : Int
  epoch : Int
  deriving DecidableEq, Inhabited
abbrev recA (r : Rec) : A := .agg [.int .i64 r.kind, .int .i64 r.seq, .int .i64 r.gen, .int .i64 r.count, updA r.u, .int .i64 r.tick, .int .i64 r.epoch]
def tickR (n : Int) : Bool := decide (0 ≤ n ∧ n ≤ 1152921504606846976)
def rightS (r : Rec) : Bool :=
  tickR r.seq && (
    if r.kind = 1 then tickR r.gen && (decide (0 ≤ r.count ∧ r.count ≤ 32) && decide (r.u = default ∧ r.tick = 0 ∧ r.epoch = 0))
    else if r.kind = 2 then updRight r.u && (tickR r.tick && decide (r.gen = 0 ∧ r.count = 0 ∧ r.epoch = 0))
    else if r.kind = 3 then decide (1 ≤ r.epoch ∧ r.epoch ≤ 1073741824) && decide (r.gen = 0 ∧ r.count = 0 ∧ r.u = default ∧ r.tick = 0)
    else false)
def bodyS (r : Rec) : List UInt8 :=
  if r.kind = 1 then numS r.gen ++ numS r.count
  else if r.kind = 2 then numS r.tick ++ (uputS r.u).1
  else numS r.epoch
def jputS (r : Rec) : List UInt8 × Int := if rightS r = true then putS r.kind r.seq (bodyS r) else ([], 23)
end VX
namespace VX
open Go
theorem cat2B {a b : List UInt8} {n : Nat} (hn : n = a.length) {m : Nat} : ∀ i, i < m → (catF n (byteAt a) (byteAt b) i).sim (byteAt (a ++ b) i) := fun i _ => by
  rw [cat_fun hn]
  exact A.sim.refl _
end VX
namespace VX
open Go
structure UpdOK (u : Upd) : Prop where
  ver : inr .i64 u.ver
  key : inr .u64 u.key
  cls : inr .i64 u.cls
  r : inr .u64 u.r
  s : inr .u64 u.s
theorem updRight_facts {u : Upd} (h : updRight u = true) : 1 ≤ u.name.length ∧ u.name.length ≤ 32 ∧ 1 ≤ u.ver ∧ u.ver ≤ 1073741824 ∧ 1 ≤ u.key ∧ u.key < 2305843009213693951 ∧ (u.cls = 0 ∨ u.cls = 1) := of_decide_eq_true h
theorem uB_flat (u : Upd) : [lumpS u.name, numS u.ver, numS u.key, numS u.cls, sgB u.r u.s].flatten = uB u := by
  simp [uB, fdB]
structure UrdLen (b : List UInt8) : Prop where
  l1 : (urd1 b).2.l.length ≤ b.length
  l2 : (urd2 b).2.l.length ≤ b.length
  l3 : (urd3 b).2.l.length ≤ b.length
  l4 : (urd4 b).2.l.length ≤ b.length
  l5 : (urd5 b).2.l.length ≤ b.length
  l6 : (urd6 b).2.l.length ≤ b.length
  n2 : inr .u64 (urd2 b).1
  n3 : inr .u64 (urd3 b).1
  n4 : inr .u64 (urd4 b).1
  n5 : inr .u64 (urd5 b).1
  n6 : inr .u64 (urd6 b).1
theorem urdLen (b : List UInt8) : UrdLen b := by
  have h1 : (urd1 b).2.l.length ≤ b.length := lumpR_len _ _
  have h2 : (urd2 b).2.l.length ≤ (urd1 b).2.l.length := (numR_facts _).2
  have h3 : (urd3 b).2.l.length ≤ (urd2 b).2.l.length := (numR_facts _).2
  have h4 : (urd4 b).2.l.length ≤ (urd3 b).2.l.length := (numR_facts _).2
  have h5 : (urd5 b).2.l.length ≤ (urd4 b).2.l.length := (numR_facts _).2
  have h6 : (urd6 b).2.l.length ≤ (urd5 b).2.l.length := (numR_facts _).2
  exact ⟨h1, by omega, by omega, by omega, by omega, by omega, (numR_facts _).1, (numR_facts _).1, (numR_facts _).1, (numR_facts _).1, (numR_facts _).1⟩
end VX
