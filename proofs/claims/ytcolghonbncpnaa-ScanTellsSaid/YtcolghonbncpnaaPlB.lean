/- Plain laws and the functions that answer for the program's (part 2 of 3). -/
import Derived.Test.YtcolghonbncpnaaPlA
set_option linter.unusedSimpArgs false
set_option linter.unusedVariables false
/- Requests as bytes, records of a journal: plain Lean. -/
namespace VX
open Go

def updRight (u : Upd) : Bool := decide (1 ≤ u.name.length ∧ u.name.length ≤ 32 ∧ 1 ≤ u.ver ∧ u.ver ≤ 1073741824 ∧ 1 ≤ u.key ∧ u.key < 2305843009213693951 ∧ (u.cls = 0 ∨ u.cls = 1))
def mayE (s : List UInt8) (v k : Int) : Bool := decide (1 ≤ s.length ∧ s.length ≤ 32 ∧ 1 ≤ v ∧ v ≤ 1073741824 ∧ 1 ≤ k ∧ k < 2305843009213693951)
theorem updRight_eq (u : Upd) : updRight u = (mayE u.name u.ver u.key && decide (u.cls = 0 ∨ u.cls = 1)) := by
  unfold updRight mayE
  rw [← Bool.decide_and]
  exact decide_eq_decide.2 (by simp only [and_assoc])
abbrev entA (s : List UInt8) (v k : Int) : A := .agg [.str s, .int .i64 v, .int .u64 k]
def sgB (r s : Int) : List UInt8 := numS r ++ numS s
def fdB (s : List UInt8) (v k : Int) : List UInt8 := lumpS s ++ (numS v ++ numS k)
def uB (u : Upd) : List UInt8 := fdB u.name u.ver u.key ++ (numS u.cls ++ sgB u.r u.s)
theorem sgB_len (r s : Int) : (sgB r s).length = 16 := by rw [sgB, List.length_append, numS_length, numS_length]
theorem fdB_len (s : List UInt8) (v k : Int) : (fdB s v k).length = 24 + s.length := by
  rw [fdB, List.length_append, List.length_append, lumpS_length, numS_length, numS_length]; omega
theorem uB_len (u : Upd) : (uB u).length = 48 + u.name.length := by
  rw [uB, List.length_append, List.length_append, fdB_len, numS_length, sgB_len]; omega
def uputS (u : Upd) : List UInt8 × Int := if updRight u = true then (uB u, 0) else ([], 23)
def nearV (n : Int) : Int := if 1073741824 < n then -1 else n
def nearT (n : Int) : Int := if 1152921504606846976 < n then -1 else n
def intR (n : Int) : Int := if 9223372036854775807 < n then -1 else n
/-- What a reader reads of a request; the two numbers that may be too great are read by f. -/
def urd1 (b : List UInt8) : List UInt8 × Rd := lumpR ⟨b, 0⟩ 32
def urd2 (b : List UInt8) : Int × Rd := numR (urd1 b).2
def urd3 (b : List UInt8) : Int × Rd := numR (urd2 b).2
def urd4 (b : List UInt8) : Int × Rd := numR (urd3 b).2
def urd5 (b : List UInt8) : Int × Rd := numR (urd4 b).2
def urd6 (b : List UInt8) : Int × Rd := numR (urd5 b).2
def ustep (f : Int → Int) (b : List UInt8) : Upd := ⟨(urd1 b).1, f (urd2 b).1, (urd3 b).1, f (urd4 b).1, (urd5 b).1, (urd6 b).1⟩
def ureadF (f : Int → Int) (b : List UInt8) : Upd × Int :=
  if 512 < b.length then (default, 22)
  else if (urd6 b).2.e ≠ 0 then (default, (urd6 b).2.e)
  else if 0 < (urd6 b).2.l.length then (default, 20)
  else if updRight (ustep f b) = true then (ustep f b, 0) else (default, 23)
def ureadS (b : List UInt8) : Upd × Int := ureadF nearV b
theorem right_same {s : List UInt8} {v k c r q : Int} (hv : 0 ≤ v) (hc : 0 ≤ c) : updRight ⟨s, nearV v, k, nearV c, r, q⟩ = updRight ⟨s, intR v, k, intR c, r, q⟩ ∧ (updRight ⟨s, nearV v, k, nearV c, r, q⟩ = true → (⟨s, nearV v, k, nearV c, r, q⟩ : Upd) = ⟨s, intR v, k, intR c, r, q⟩) := by
  unfold updRight nearV intR
  constructor
  · refine decide_eq_decide.2 ?_
    simp only
    constructor <;> rintro ⟨h1, h2, h3, h4, h5, h6, h7⟩ <;> refine ⟨h1, h2, ?_, ?_, h5, h6, ?_⟩ <;> (revert h3 h4 h7; split <;> split <;> split <;> (try split) <;> intros <;> omega)
  · intro h
    have h := of_decide_eq_true h
    obtain ⟨h1, h2, h3, h4, h5, h6, h7⟩ := h
    have e1 : (if (1073741824 : Int) < v then -1 else v) = if (9223372036854775807 : Int) < v then -1 else v := by
      revert h3
      simp only
      split <;> split <;> intros <;> omega
    have e2 : (if (1073741824 : Int) < c then -1 else c) = if (9223372036854775807 : Int) < c then -1 else c := by
      revert h7
      simp only
      split <;> split <;> intros <;> omega
    rw [e1, e2]
theorem uread_same (b : List UInt8) : ureadF intR b = ureadS b := by
  unfold ureadS ureadF
  have hs := right_same (s := (urd1 b).1) (v := (urd2 b).1) (k := (urd3 b).1) (c := (urd4 b).1) (r := (urd5 b).1) (q := (urd6 b).1) (inr_u64.1 (numR_facts _).1).1 (inr_u64.1 (numR_facts _).1).1
  have f1 : updRight (ustep nearV b) = updRight (ustep intR b) := by unfold ustep; exact hs.1
  have f2 : updRight (ustep nearV b) = true → ustep nearV b = ustep intR b := by unfold ustep; exact hs.2
  rw [← f1]
  by_cases h8 : updRight (ustep nearV b) = true
  · rw [f2 h8]
  · rw [if_neg h8, if_neg h8]

/-! ### records -/
structure Rec where
  kind : Int
  seq : Int
  gen : Int
  count : Int
  u : Upd
  tick : Int
  epoch : Int
  deriving DecidableEq, Inhabited
abbrev recA (r : Rec) : A := .agg [.int .i64 r.kind, .int .i64 r.seq, .int .i64 r.gen, .int .i64 r.count, updA r.u, .int .i64 r.tick, .int .i64 r.epoch]
def tickR (n : Int) : Bool := decide (0 ≤ n ∧ n ≤ 1152921504606846976)
def rightS (r : Rec) : Bool :=
  tickR r.seq && (
    if r.kind = 1 then tickR r.gen && (decide (0 ≤ r.count ∧ r.count ≤ 32) && decide (r.u = default ∧ r.tick = 0 ∧ r.epoch = 0))
    else if r.kind = 2 then updRight r.u && (tickR r.tick && decide (r.gen = 0 ∧ r.count = 0 ∧ r.epoch = 0))
    else if r.kind = 3 then decide (1 ≤ r.epoch ∧ r.epoch ≤ 1073741824) && decide (r.gen = 0 ∧ r.count = 0 ∧ r.u = default ∧ r.tick = 0)
    else false)
def bodyS (r : Rec) : List UInt8 :=
  if r.kind = 1 then numS r.gen ++ numS r.count
  else if r.kind = 2 then numS r.tick ++ (uputS r.u).1
  else numS r.epoch
def jputS (r : Rec) : List UInt8 × Int := if rightS r = true then putS r.kind r.seq (bodyS r) else ([], 23)
end VX
namespace VX
open Go
theorem cat2B {a b : List UInt8} {n : Nat} (hn : n = a.length) {m : Nat} : ∀ i, i < m → (catF n (byteAt a) (byteAt b) i).sim (byteAt (a ++ b) i) := fun i _ => by
  rw [cat_fun hn]
  exact A.sim.refl _
theorem cat3B {a b c : List UInt8} {n m : Nat} (hn : n = a.length) (hm : m = a.length + b.length) {q : Nat} : ∀ i, i < q → (catF m (catF n (byteAt a) (byteAt b)) (byteAt c) i).sim (byteAt (a ++ (b ++ c)) i) := fun i _ => by
  rw [cat_fun hn, cat_fun (by rw [List.length_append]; exact hm), List.append_assoc]
  exact A.sim.refl _
end VX
namespace VX
open Go
structure UpdOK (u : Upd) : Prop where
  ver : inr .i64 u.ver
  key : inr .u64 u.key
  cls : inr .i64 u.cls
  r : inr .u64 u.r
  s : inr .u64 u.s
theorem updRight_facts {u : Upd} (h : updRight u = true) : 1 ≤ u.name.length ∧ u.name.length ≤ 32 ∧ 1 ≤ u.ver ∧ u.ver ≤ 1073741824 ∧ 1 ≤ u.key ∧ u.key < 2305843009213693951 ∧ (u.cls = 0 ∨ u.cls = 1) := of_decide_eq_true h
theorem uB_flat (u : Upd) : [lumpS u.name, numS u.ver, numS u.key, numS u.cls, sgB u.r u.s].flatten = uB u := by
  simp [uB, fdB]
structure UrdLen (b : List UInt8) : Prop where
  l1 : (urd1 b).2.l.length ≤ b.length
  l2 : (urd2 b).2.l.length ≤ b.length
  l3 : (urd3 b).2.l.length ≤ b.length
  l4 : (urd4 b).2.l.length ≤ b.length
  l5 : (urd5 b).2.l.length ≤ b.length
  l6 : (urd6 b).2.l.length ≤ b.length
  n2 : inr .u64 (urd2 b).1
  n3 : inr .u64 (urd3 b).1
  n4 : inr .u64 (urd4 b).1
  n5 : inr .u64 (urd5 b).1
  n6 : inr .u64 (urd6 b).1
theorem urdLen (b : List UInt8) : UrdLen b := by
  have h1 : (urd1 b).2.l.length ≤ b.length := lumpR_len _ _
  have h2 : (urd2 b).2.l.length ≤ (urd1 b).2.l.length := (numR_facts _).2
  have h3 : (urd3 b).2.l.length ≤ (urd2 b).2.l.length := (numR_facts _).2
  have h4 : (urd4 b).2.l.length ≤ (urd3 b).2.l.length := (numR_facts _).2
  have h5 : (urd5 b).2.l.length ≤ (urd4 b).2.l.length := (numR_facts _).2
  have h6 : (urd6 b).2.l.length ≤ (urd5 b).2.l.length := (numR_facts _).2
  exact ⟨h1, by omega, by omega, by omega, by omega, by omega, (numR_facts _).1, (numR_facts _).1, (numR_facts _).1, (numR_facts _).1, (numR_facts _).1⟩
end VX

/- Records of a journal: what their parts say. -/
namespace VX
open Go
theorem right1 {r : Rec} (h : tickR r.seq = true) (k : r.kind = 1) : rightS r = (tickR r.gen && (decide (0 ≤ r.count ∧ r.count ≤ 32) && decide (r.u = default ∧ r.tick = 0 ∧ r.epoch = 0))) := by
  unfold rightS; rw [h, if_pos k, Bool.true_and]
theorem right2 {r : Rec} (h : tickR r.seq = true) (k : r.kind = 2) : rightS r = (updRight r.u && (tickR r.tick && decide (r.gen = 0 ∧ r.count = 0 ∧ r.epoch = 0))) := by
  unfold rightS; rw [h, if_neg (by omega), if_pos k, Bool.true_and]
theorem right3 {r : Rec} (h : tickR r.seq = true) (k : r.kind = 3) : rightS r = (decide (1 ≤ r.epoch ∧ r.epoch ≤ 1073741824) && decide (r.gen = 0 ∧ r.count = 0 ∧ r.u = default ∧ r.tick = 0)) := by
  unfold rightS; rw [h, if_neg (by omega), if_neg (by omega), if_pos k, Bool.true_and]
theorem updD (u : Upd) : u = default ↔ u.name = [] ∧ u.ver = 0 ∧ u.key = 0 ∧ u.cls = 0 ∧ u.r = 0 ∧ u.s = 0 := by
  cases u
  constructor
  · intro h
    cases h
    exact ⟨rfl, rfl, rfl, rfl, rfl, rfl⟩
  · rintro ⟨h1, h2, h3, h4, h5, h6⟩
    simp only at h1 h2 h3 h4 h5 h6
    subst h1 h2 h3 h4 h5 h6
    rfl
theorem recZ1 (r : Rec) : (bif true then decide ((0 : Int) = 0) && (decide ((0 : Int) = 0) && (decide ((0 : Int) = 0) && (decide ((0 : Int) = 0) && (decide (r.u.name = []) && (decide (r.u.ver = 0) && (decide (r.u.key = 0) && (decide (r.u.cls = 0) && (decide (r.u.r = 0) && (decide (r.u.s = 0) && true) && true)))) && (decide (r.tick = 0) && (decide (r.epoch = 0) && true)))))) else false) = decide (r.u = default ∧ r.tick = 0 ∧ r.epoch = 0) := by
  rw [Bool.eq_iff_iff]
  simp only [updD, cond_true, Bool.and_eq_true, decide_eq_true_eq, Bool.and_true, true_and, and_assoc]
theorem recZ2 (r : Rec) : (bif true then decide ((0 : Int) = 0) && (decide ((0 : Int) = 0) && (decide (r.gen = 0) && (decide (r.count = 0) && (decide (([] : List UInt8) = []) && (decide ((0 : Int) = 0) && (decide ((0 : Int) = 0) && (decide ((0 : Int) = 0) && (decide ((0 : Int) = 0) && (decide ((0 : Int) = 0) && true) && true)))) && (decide ((0 : Int) = 0) && (decide (r.epoch = 0) && true)))))) else false) = decide (r.gen = 0 ∧ r.count = 0 ∧ r.epoch = 0) := by
  rw [Bool.eq_iff_iff]
  simp only [cond_true, Bool.and_eq_true, decide_eq_true_eq, Bool.and_true, true_and, and_assoc]
theorem recZ3 (r : Rec) : (bif true then decide ((0 : Int) = 0) && (decide ((0 : Int) = 0) && (decide (r.gen = 0) && (decide (r.count = 0) && (decide (r.u.name = []) && (decide (r.u.ver = 0) && (decide (r.u.key = 0) && (decide (r.u.cls = 0) && (decide (r.u.r = 0) && (decide (r.u.s = 0) && true) && true)))) && (decide (r.tick = 0) && (decide ((0 : Int) = 0) && true)))))) else false) = decide (r.gen = 0 ∧ r.count = 0 ∧ r.u = default ∧ r.tick = 0) := by
  rw [Bool.eq_iff_iff]
  simp only [updD, cond_true, Bool.and_eq_true, decide_eq_true_eq, Bool.and_true, true_and, and_true, and_assoc]
structure RecOK (r : Rec) : Prop where
  kind : inr .i64 r.kind
  seq : inr .i64 r.seq
  gen : inr .i64 r.gen
  count : inr .i64 r.count
  u : UpdOK r.u
  tick : inr .i64 r.tick
  epoch : inr .i64 r.epoch
theorem right_facts {r : Rec} (h : rightS r = true) : (0 ≤ r.seq ∧ r.seq ≤ 1152921504606846976) ∧ (r.kind = 1 ∧ 0 ≤ r.gen ∧ r.gen ≤ 1152921504606846976 ∧ 0 ≤ r.count ∧ r.count ≤ 32 ∨ r.kind = 2 ∧ 0 ≤ r.tick ∧ r.tick ≤ 1152921504606846976 ∧ updRight r.u = true ∨ r.kind = 3 ∧ 1 ≤ r.epoch ∧ r.epoch ≤ 1073741824) := by
  have hs : tickR r.seq = true := by
    unfold rightS at h
    rw [Bool.and_eq_true] at h
    exact h.1
  refine ⟨of_decide_eq_true hs, ?_⟩
  by_cases k1 : r.kind = 1
  · rw [right1 hs k1] at h
    simp only [tickR, Bool.and_eq_true, decide_eq_true_eq] at h
    exact .inl ⟨k1, h.1.1, h.1.2, h.2.1.1, h.2.1.2⟩
  by_cases k2 : r.kind = 2
  · rw [right2 hs k2] at h
    simp only [tickR, Bool.and_eq_true, decide_eq_true_eq] at h
    exact .inr (.inl ⟨k2, h.2.1.1, h.2.1.2, h.1⟩)
  by_cases k3 : r.kind = 3
  · rw [right3 hs k3] at h
    simp only [Bool.and_eq_true, decide_eq_true_eq] at h
    exact .inr (.inr ⟨k3, h.1.1, h.1.2⟩)
  · unfold rightS at h
    rw [if_neg k1, if_neg k2, if_neg k3, Bool.and_false] at h
    cases h
theorem body1 {r : Rec} (k : r.kind = 1) : bodyS r = numS r.gen ++ numS r.count := if_pos k
theorem body2 {r : Rec} (k : r.kind = 2) (hu : updRight r.u = true) : bodyS r = numS r.tick ++ uB r.u := by
  unfold bodyS uputS
  rw [if_neg (by omega), if_pos k, if_pos hu]
theorem body3 {r : Rec} (k : r.kind = 3) : bodyS r = numS r.epoch := by
  unfold bodyS
  rw [if_neg (by omega), if_neg (by omega)]
theorem body_len {r : Rec} (h : rightS r = true) : (bodyS r).length ≤ 88 := by
  obtain ⟨h0, h1 | h1 | h1⟩ := right_facts h
  · rw [body1 h1.1, List.length_append, numS_length, numS_length]; omega
  · have := updRight_facts h1.2.2.2
    rw [body2 h1.1 h1.2.2.2, List.length_append, numS_length, uB_len]; omega
  · rw [body3 h1.1, numS_length]; omega
theorem jput_eq {r : Rec} (h : rightS r = true) : putS r.kind r.seq (bodyS r) = (frameB (byteI r.kind) r.seq (bodyS r), 0) := by
  have hb := body_len h
  obtain ⟨h0, h1⟩ := right_facts h
  unfold putS
  rw [if_neg (by omega), if_neg (by omega)]
theorem jput_zero {r : Rec} (h : rightS r = true) : (putS r.kind r.seq (bodyS r)).2 = 0 := by rw [jput_eq h]
end VX

/- Reading records: plain Lean. -/
namespace VX
open Go
/-- The record that a frame's parts tell; the numbers read by f. -/
def jrec1 (k q : Int) (a b : Int) : Rec := ⟨k, q, a, b, default, 0, 0⟩
def jrec2 (k q : Int) (a : Int) (u : Upd) : Rec := ⟨k, q, 0, 0, u, a, 0⟩
def jrec3 (k q : Int) (a : Int) : Rec := ⟨k, q, 0, 0, default, 0, a⟩
def jrec0 (k q : Int) : Rec := ⟨k, q, 0, 0, default, 0, 0⟩
def jn1 (x : List UInt8) : Int × Rd := numR ⟨x, 0⟩
def jn2 (x : List UInt8) : Int × Rd := numR (jn1 x).2
def jrest (x : List UInt8) : List UInt8 × Rd := rawS (jn1 x).2 (jn1 x).2.l.length
def jrec (f : Int → Int) (k q : Int) (x : List UInt8) : Rec :=
  if k = 1 then jrec1 k q (f (jn1 x).1) (f (jn2 x).1)
  else if k = 2 then jrec2 k q (f (jn1 x).1) (ureadS (jrest x).1).1
  else if k = 3 then jrec3 k q (f (jn1 x).1)
  else jrec0 k q
def jback (b : List UInt8) (r : Rec) (n : Int) : Rec × Int × Int :=
  if (jputS r).2 ≠ 0 ∨ (jputS r).1 ≠ b.take n.toNat then (default, 0, 20) else (r, n, 0)
def jreadS (b : List UInt8) : Rec × Int × Int :=
  if (readS b).2.2.2.2 ≠ 0 then (default, 0, (readS b).2.2.2.2)
  else jback b (jrec nearT (readS b).1 (readS b).2.1 (readS b).2.2.1) (readS b).2.2.2.1
/-- The reference's. -/
def jreadR (b : List UInt8) : Rec × Int × Int :=
  if (readS b).2.2.2.2 ≠ 0 then (default, 0, (readS b).2.2.2.2)
  else if (readS b).1 = 2 ∧ (ureadS (jn1 (readS b).2.2.1).2.l).2 ≠ 0 then (default, 0, 20)
  else if (if (readS b).1 = 1 then (jn2 (readS b).2.2.1).2.e else if (readS b).1 = 2 ∨ (readS b).1 = 3 then (jn1 (readS b).2.2.1).2.e else 0) ≠ 0 then (default, 0, 20)
  else jback b (if (readS b).1 = 2 then jrec2 2 (readS b).2.1 (intR (jn1 (readS b).2.2.1).1) (ureadS (jn1 (readS b).2.2.1).2.l).1 else jrec intR (readS b).1 (readS b).2.1 (readS b).2.2.1) (readS b).2.2.2.1

theorem i64_0 : inr .i64 0 := inr_i64.2 ⟨by decide, by decide⟩
theorem u64_0 : inr .u64 0 := inr_u64.2 ⟨by decide, by decide⟩
theorem upd0_ok : UpdOK (default : Upd) := ⟨i64_0, u64_0, i64_0, u64_0, u64_0⟩
theorem ureadS_ok (b : List UInt8) : UpdOK (ureadS b).1 := by
  have hL := urdLen b
  have hd : UpdOK (default : Upd) := upd0_ok
  unfold ureadS ureadF
  split
  · exact hd
  split
  · exact hd
  split
  · exact hd
  split
  · have n2 := inr_u64.1 hL.n2
    have n4 := inr_u64.1 hL.n4
    refine ⟨?_, hL.n3, ?_, hL.n5, hL.n6⟩
    · show inr .i64 (nearV (urd2 b).1)
      rw [inr_i64]; unfold nearV; split <;> omega
    · show inr .i64 (nearV (urd4 b).1)
      rw [inr_i64]; unfold nearV; split <;> omega
  · exact hd
theorem ureadS_err {b : List UInt8} (h : (ureadS b).2 ≠ 0) : (ureadS b).1 = default := by
  unfold ureadS ureadF at h ⊢
  split at h
  · rename_i h1; rw [if_pos h1]
  · rename_i h1; rw [if_neg h1]
    split at h
    · rename_i h2; rw [if_pos h2]
    · rename_i h2; rw [if_neg h2]
      split at h
      · rename_i h3; rw [if_pos h3]
      · rename_i h3; rw [if_neg h3]
        split at h
        · exact absurd rfl h
        · rename_i h4; rw [if_neg h4]
structure FrOK (f : Fr) (b : List UInt8) : Prop where
  k : 1 ≤ f.1 ∧ f.1 ≤ 255
  q : 0 ≤ f.2.1 ∧ f.2.1 ≤ 9223372036854775807
  n : f.2.2.2.1 = ((21 + f.2.2.1.length : Nat) : Int)
  l : 21 + f.2.2.1.length ≤ b.length
theorem readS_ok {b : List UInt8} (h : (readS b).2.2.2.2 = 0) : FrOK (readS b) b := by
  unfold readS frE at h ⊢
  by_cases h1 : b.length < 13
  · rw [if_pos h1] at h; exact absurd h (by decide)
  rw [if_neg h1] at h ⊢
  by_cases h2 : 4096 < rdN b ∨ (rdK b).toNat = 0 ∨ 9223372036854775807 < rdQ b
  · rw [if_pos h2] at h; exact absurd h (by decide)
  rw [if_neg h2] at h ⊢
  by_cases h3 : b.length < 21 + rdN b
  · rw [if_pos h3] at h; exact absurd h (by decide)
  rw [if_neg h3] at h ⊢
  by_cases h4 : markS (rdK b) (rdQ b) ((b.drop 13).take (rdN b)) ≠ (b.drop (13 + rdN b)).take 8
  · rw [if_pos h4] at h; exact absurd h (by decide)
  rw [if_neg h4]
  have hk := UInt8.toNat_lt (rdK b)
  have hl : ((b.drop 13).take (rdN b)).length = rdN b := by rw [List.length_take, List.length_drop]; omega
  refine ⟨⟨?_, ?_⟩, ⟨?_, ?_⟩, ?_, ?_⟩
  · show (1 : Int) ≤ ((rdK b).toNat : Int); omega
  · show ((rdK b).toNat : Int) ≤ 255; omega
  · show (0 : Int) ≤ (rdQ b : Int); omega
  · show (rdQ b : Int) ≤ 9223372036854775807; omega
  · show ((21 + rdN b : Nat) : Int) = _; rw [hl]
  · show 21 + ((b.drop 13).take (rdN b)).length ≤ b.length; omega
theorem near_ok {n : Int} (h : inr .u64 n) : inr .i64 (nearT n) ∧ inr .i64 (intR n) := by
  rw [inr_u64] at h
  rw [inr_i64, inr_i64]
  unfold nearT intR
  constructor <;> split <;> omega
theorem jrec_ok {f : Int → Int} (hf : ∀ n, inr .u64 n → inr .i64 (f n)) {k q : Int} (hk : 1 ≤ k ∧ k ≤ 255) (hq : 0 ≤ q ∧ q ≤ 9223372036854775807) (x : List UInt8) : RecOK (jrec f k q x) := by
  have z := i64_0
  have hd : UpdOK (default : Upd) := upd0_ok
  have k9 : inr .i64 k := inr_i64.2 ⟨by omega, by omega⟩
  have q9 : inr .i64 q := inr_i64.2 ⟨by omega, by omega⟩
  have n1 := hf _ (show inr .u64 (jn1 x).1 from (numR_facts _).1)
  have n2 := hf _ (show inr .u64 (jn2 x).1 from (numR_facts _).1)
  unfold jrec jrec1 jrec2 jrec3 jrec0
  split
  · exact ⟨k9, q9, n1, n2, hd, z, z⟩
  split
  · exact ⟨k9, q9, z, z, ureadS_ok _, n1, z⟩
  split
  · exact ⟨k9, q9, z, z, hd, z, n1⟩
  · exact ⟨k9, q9, z, z, hd, z, z⟩
theorem rawS_all (r : Rd) (h : r.e ≠ 0 → r.l = []) : (rawS r r.l.length).1 = r.l := by
  unfold rawS
  by_cases he : r.e ≠ 0
  · rw [if_pos he, h he]
  rw [if_neg he]
  have hm : mx ((r.l.length : Nat) : Int) = r.l.length := by unfold mx; rw [if_neg (by omega)]; exact Int.toNat_natCast _
  rw [hm, if_neg (by omega)]
  exact List.take_length
theorem numR_err (x : List UInt8) : (numR ⟨x, 0⟩).2.e ≠ 0 → (numR ⟨x, 0⟩).2.l = [] := by
  intro h
  unfold numR rawS at h ⊢
  simp only at h ⊢
  rw [if_neg (by simp)] at h ⊢
  split at h
  · rename_i h1; rw [if_pos h1]
  · exact absurd rfl h
theorem jrest_eq (x : List UInt8) : (jrest x).1 = (jn1 x).2.l := rawS_all _ (numR_err x)
theorem numR_long (x : List UInt8) (h : 8 ≤ x.length) : (numR ⟨x, 0⟩).2 = ⟨x.drop 8, 0⟩ := by
  unfold numR rawS
  simp only
  rw [if_neg (by simp), show mx 8 = 8 from rfl, if_neg (by omega)]
/-- What a record that may be has behind its number. -/
theorem jback_no {b : List UInt8} {r : Rec} {n : Int} (h : rightS r = false) : jback b r n = (default, 0, 20) := by
  unfold jback
  rw [if_pos]
  left
  unfold jputS
  rw [h, if_neg Bool.false_ne_true]; decide
theorem jback_len {b : List UInt8} {r : Rec} {n : Nat} (hn : n ≤ b.length) (h : rightS r = true) (hl : 21 + (bodyS r).length ≠ n) : jback b r n = (default, 0, 20) := by
  unfold jback
  rw [if_pos]
  right
  intro e
  have := congrArg List.length e
  unfold jputS at this
  rw [if_pos h, jput_eq h, List.length_take, frameB_len, Int.toNat_natCast] at this
  omega
theorem near_int {n : Int} (h : 0 ≤ n) : nearT n = intR n ∨ (nearT n = -1 ∧ (intR n = -1 ∨ 1152921504606846976 < intR n)) := by
  unfold nearT intR
  split <;> split <;> first | (left; rfl) | (right; exact ⟨rfl, .inl rfl⟩) | (right; refine ⟨rfl, .inr ?_⟩; assumption) | omega
/-- If both ways of reading give another record, neither of them may be. -/
theorem jrec_same (k q : Int) (x : List UInt8) : jrec nearT k q x = jrec intR k q x ∨ (rightS (jrec nearT k q x) = false ∧ rightS (jrec intR k q x) = false) := by
  have p1 : 0 ≤ (jn1 x).1 := (inr_u64.1 (numR_facts _).1).1
  have p2 : 0 ≤ (jn2 x).1 := (inr_u64.1 (numR_facts _).1).1
  by_cases hr : rightS (jrec nearT k q x) = true
  · left
    obtain ⟨h0, h1⟩ := right_facts hr
    unfold jrec at h1 ⊢
    by_cases k1 : k = 1
    · rw [if_pos k1] at h1 ⊢
      rw [if_pos k1]
      unfold jrec1 at h1 ⊢
      simp only at h1
      have e1 := near_int p1
      have e2 := near_int p2
      rw [show nearT (jn1 x).1 = intR (jn1 x).1 by omega, show nearT (jn2 x).1 = intR (jn2 x).1 by omega]
    rw [if_neg k1] at h1 ⊢
    rw [if_neg k1]
    by_cases k2 : k = 2
    · rw [if_pos k2] at h1 ⊢
      rw [if_pos k2]
      unfold jrec2 at h1 ⊢
      simp only at h1
      have e1 := near_int p1
      rw [show nearT (jn1 x).1 = intR (jn1 x).1 by omega]
    rw [if_neg k2] at h1 ⊢
    rw [if_neg k2]
    by_cases k3 : k = 3
    · rw [if_pos k3] at h1 ⊢
      rw [if_pos k3]
      unfold jrec3 at h1 ⊢
      simp only at h1
      have e1 := near_int p1
      rw [show nearT (jn1 x).1 = intR (jn1 x).1 by omega]
    rw [if_neg k3, if_neg k3]
  · rw [Bool.not_eq_true] at hr
    by_cases hq : rightS (jrec intR k q x) = true
    · left
      obtain ⟨h0, h1⟩ := right_facts hq
      unfold jrec at h1 ⊢
      by_cases k1 : k = 1
      · rw [if_pos k1] at h1 ⊢
        rw [if_pos k1]
        unfold jrec1 at h1 ⊢
        simp only at h1
        have e1 := near_int p1
        have e2 := near_int p2
        rw [show nearT (jn1 x).1 = intR (jn1 x).1 by omega, show nearT (jn2 x).1 = intR (jn2 x).1 by omega]
      rw [if_neg k1] at h1 ⊢
      rw [if_neg k1]
      by_cases k2 : k = 2
      · rw [if_pos k2] at h1 ⊢
        rw [if_pos k2]
        unfold jrec2 at h1 ⊢
        simp only at h1
        have e1 := near_int p1
        rw [show nearT (jn1 x).1 = intR (jn1 x).1 by omega]
      rw [if_neg k2] at h1 ⊢
      rw [if_neg k2]
      by_cases k3 : k = 3
      · rw [if_pos k3] at h1 ⊢
        rw [if_pos k3]
        unfold jrec3 at h1 ⊢
        simp only at h1
        have e1 := near_int p1
        rw [show nearT (jn1 x).1 = intR (jn1 x).1 by omega]
      rw [if_neg k3, if_neg k3]
    · right
      exact ⟨hr, Bool.not_eq_true _ ▸ hq⟩
theorem jback_same (b : List UInt8) (n : Int) (k q : Int) (x : List UInt8) : jback b (jrec nearT k q x) n = jback b (jrec intR k q x) n := by
  rcases jrec_same k q x with h | ⟨h1, h2⟩
  · rw [h]
  · rw [jback_no h1, jback_no h2]
theorem upd_def : updRight default = false := by decide
theorem jread_same (b : List UInt8) : jreadR b = jreadS b := by
  unfold jreadR jreadS
  by_cases he : (readS b).2.2.2.2 ≠ 0
  · rw [if_pos he, if_pos he]
  rw [if_neg he, if_neg he]
  have hok := readS_ok (Decidable.not_not.1 he)
  have hn := hok.n
  have hl := hok.l
  generalize readS b = f at hok hn hl ⊢
  obtain ⟨k, q, x, n, e⟩ := f
  simp only at hn hl ⊢
  rw [jback_same]
  subst hn
  have shape : ∀ r, jrec intR k q x = r → r.kind = k ∧ (k = 1 → r = jrec1 k q (intR (jn1 x).1) (intR (jn2 x).1)) ∧ (k = 2 → r = jrec2 k q (intR (jn1 x).1) (ureadS (jrest x).1).1) ∧ (k = 3 → r = jrec3 k q (intR (jn1 x).1)) := by
    rintro r rfl
    unfold jrec
    refine ⟨?_, ?_, ?_, ?_⟩
    · unfold jrec1 jrec2 jrec3 jrec0
      split
      · rfl
      split
      · rfl
      split <;> rfl
    · intro h; rw [if_pos h]
    · intro h; rw [if_neg (by omega), if_pos h]
    · intro h; rw [if_neg (by omega), if_neg (by omega), if_pos h]
  have e2 : k = 2 → (jrec2 2 q (intR (jn1 x).1) (ureadS (jn1 x).2.l).1) = jrec intR k q x := fun h => by
    obtain ⟨_, _, h2, _⟩ := shape _ rfl
    rw [h2 h, jrest_eq, h]
  have eif : (if k = 2 then jrec2 2 q (intR (jn1 x).1) (ureadS (jn1 x).2.l).1 else jrec intR k q x) = jrec intR k q x := by
    split
    · rename_i h; exact e2 h
    · rfl
  rw [eif]
  by_cases h1 : k = 2 ∧ (ureadS (jn1 x).2.l).2 ≠ 0
  · rw [if_pos h1]
    refine (jback_no ?_).symm
    rw [← e2 h1.1, ureadS_err h1.2]
    rw [← Bool.not_eq_true]
    intro hr
    obtain ⟨_, h | h | h⟩ := right_facts hr
    · exact absurd h.1 (by show ¬ ((2 : Int) = 1); decide)
    · have h4 : updRight default = true := h.2.2.2
      rw [upd_def] at h4; cases h4
    · exact absurd h.1 (by show ¬ ((2 : Int) = 3); decide)
  rw [if_neg h1]
  by_cases hx : (if k = 1 then (jn2 x).2.e else if k = 2 ∨ k = 3 then (jn1 x).2.e else 0) ≠ 0
  · rw [if_pos hx]
    by_cases hr : rightS (jrec intR k q x) = false
    · exact (jback_no hr).symm
    rw [Bool.not_eq_false] at hr
    refine (jback_len hl hr ?_).symm
    obtain ⟨s0, s1, s2, s3⟩ := shape _ rfl
    obtain ⟨_, h | h | h⟩ := right_facts hr
    · have hk : k = 1 := by rw [← s0]; exact h.1
      rw [if_pos hk] at hx
      rw [body1 h.1, List.length_append, numS_length, numS_length]
      intro h16
      apply hx
      unfold jn2 jn1
      rw [numR_long x (by omega), numR_long _ (by rw [List.length_drop]; omega)]
    · have hk : k = 2 := by rw [← s0]; exact h.1
      rw [if_neg (by omega), if_pos (.inl hk)] at hx
      rw [body2 h.1 h.2.2.2, List.length_append, numS_length]
      intro h16
      apply hx
      unfold jn1
      rw [numR_long x (by omega)]
    · have hk : k = 3 := by rw [← s0]; exact h.1
      rw [if_neg (by omega), if_pos (.inr hk)] at hx
      rw [body3 h.1, numS_length]
      intro h16
      apply hx
      unfold jn1
      rw [numR_long x (by omega)]
  · rw [if_neg hx]
/-- What is put is read. -/
theorem jread_put {r : Rec} (hr : rightS r = true) (ho : RecOK r) (rest : List UInt8) : jreadS ((jputS r).1 ++ rest) = (r, (((jputS r).1.length : Nat) : Int), 0) := by
  have hb := body_len hr
  obtain ⟨h0, h1⟩ := right_facts hr
  have hj : jputS r = (frameB (byteI r.kind) r.seq (bodyS r), 0) := by unfold jputS; rw [if_pos hr, jput_eq hr]
  have hk : ((byteI r.kind).toNat : Int) = r.kind := by rw [byteI_nat]; omega
  have hk0 : (byteI r.kind).toNat ≠ 0 := by omega
  rw [hj]
  unfold jreadS
  rw [read_frame _ _ _ _ hk0 h0.1 (by omega) (by omega)]
  simp only [hk, ne_eq, not_true_eq_false, if_false]
  have hrec : jrec nearT r.kind r.seq (bodyS r) = r := by
    obtain ⟨kind, seq, gen, count, u, tick, epoch⟩ := r
    simp only at h0 h1 hb hk
    have hs : tickR seq = true := decide_eq_true h0
    rcases h1 with h1 | h1 | h1
    · have hz : u = default ∧ tick = 0 ∧ epoch = 0 := by
        rw [right1 hs h1.1] at hr
        simp only [Bool.and_eq_true, decide_eq_true_eq] at hr
        exact hr.2.2
      obtain ⟨rfl, rfl, rfl⟩ := hz
      have hk1 := h1.1
      subst hk1
      rw [show bodyS ⟨1, seq, gen, count, default, 0, 0⟩ = numS gen ++ (numS count ++ []) by rw [body1 rfl, List.append_nil]]
      show jrec1 1 seq (nearT (jn1 (numS gen ++ (numS count ++ []))).1) (nearT (jn2 (numS gen ++ (numS count ++ []))).1) = _
      have e1 : jn1 (numS gen ++ (numS count ++ [])) = (gen, ⟨numS count ++ [], 0⟩) := numR_app _ (inr_u64.2 ⟨by omega, by omega⟩) _
      unfold jn2
      rw [e1, numR_app _ (inr_u64.2 ⟨by omega, by omega⟩)]
      unfold jrec1 nearT
      simp only
      rw [if_neg (by omega), if_neg (by omega)]
    · have hz : gen = 0 ∧ count = 0 ∧ epoch = 0 := by
        rw [right2 hs h1.1] at hr
        simp only [Bool.and_eq_true, decide_eq_true_eq] at hr
        exact hr.2.2
      obtain ⟨rfl, rfl, rfl⟩ := hz
      obtain ⟨hk1, t0, t1, hu⟩ := h1
      subst hk1
      rw [show bodyS ⟨2, seq, 0, 0, u, tick, 0⟩ = numS tick ++ uB u from body2 rfl hu]
      show jrec2 2 seq (nearT (jn1 (numS tick ++ uB u)).1) (ureadS (jrest (numS tick ++ uB u)).1).1 = _
      have e1 : jn1 (numS tick ++ uB u) = (tick, ⟨uB u, 0⟩) := numR_app _ (inr_u64.2 ⟨by omega, by omega⟩) _
      rw [jrest_eq, e1]
      have hub : (ureadS (uB u)).1 = u := by
        obtain ⟨f1, f2, f3, f4, f5, f6, f7⟩ := updRight_facts hu
        have huo := ho.u
        have hsh : uB u = lumpS u.name ++ (numS u.ver ++ (numS u.key ++ (numS u.cls ++ (numS u.r ++ (numS u.s ++ []))))) := by simp [uB, fdB, sgB]
        have g1 : urd1 (uB u) = (u.name, ⟨numS u.ver ++ (numS u.key ++ (numS u.cls ++ (numS u.r ++ (numS u.s ++ [])))), 0⟩) := by
          rw [hsh]; exact lumpR_app u.name _ 32 f2 (by decide)
        have g2 : urd2 (uB u) = (u.ver, ⟨numS u.key ++ (numS u.cls ++ (numS u.r ++ (numS u.s ++ []))), 0⟩) := by
          unfold urd2; rw [g1]; exact numR_app _ (inr_u64.2 ⟨by omega, by omega⟩) _
        have g3 : urd3 (uB u) = (u.key, ⟨numS u.cls ++ (numS u.r ++ (numS u.s ++ [])), 0⟩) := by
          unfold urd3; rw [g2]; exact numR_app _ huo.key _
        have g4 : urd4 (uB u) = (u.cls, ⟨numS u.r ++ (numS u.s ++ []), 0⟩) := by
          unfold urd4; rw [g3]; exact numR_app _ (inr_u64.2 ⟨by omega, by omega⟩) _
        have g5 : urd5 (uB u) = (u.r, ⟨numS u.s ++ [], 0⟩) := by
          unfold urd5; rw [g4]; exact numR_app _ huo.r _
        have g6 : urd6 (uB u) = (u.s, ⟨[], 0⟩) := by
          unfold urd6; rw [g5]; exact numR_app _ huo.s _
        have hst : ustep nearV (uB u) = u := by
          unfold ustep
          rw [g1, g2, g3, g4, g5, g6]
          unfold nearV
          simp only
          rw [if_neg (by omega), if_neg (by omega)]
        have hlen := uB_len u
        unfold ureadS ureadF
        rw [if_neg (by omega), g6]
        simp only [ne_eq, not_true_eq_false, if_false, List.length_nil, Nat.lt_irrefl]
        rw [hst, if_pos hu]
      rw [hub]
      unfold jrec2 nearT
      simp only
      rw [if_neg (by omega)]
    · have hz : gen = 0 ∧ count = 0 ∧ u = default ∧ tick = 0 := by
        rw [right3 hs h1.1] at hr
        simp only [Bool.and_eq_true, decide_eq_true_eq] at hr
        exact hr.2
      obtain ⟨rfl, rfl, rfl, rfl⟩ := hz
      obtain ⟨hk1, t0, t1⟩ := h1
      subst hk1
      rw [show bodyS ⟨3, seq, 0, 0, default, 0, epoch⟩ = numS epoch ++ [] by rw [body3 rfl, List.append_nil]]
      show jrec3 3 seq (nearT (jn1 (numS epoch ++ [])).1) = _
      have e1 : jn1 (numS epoch ++ []) = (epoch, ⟨[], 0⟩) := numR_app _ (inr_u64.2 ⟨by omega, by omega⟩) _
      rw [e1]
      unfold jrec3 nearT
      simp only
      rw [if_neg (by omega)]
  rw [hrec]
  unfold jback
  rw [hj, frameB_len]
  rw [if_neg]
  rintro (h | h)
  · exact h rfl
  · apply h
    rw [Int.toNat_natCast, List.take_append_of_le_length (by rw [frameB_len]; exact Nat.le_refl _), List.take_of_length_le (by rw [frameB_len]; exact Nat.le_refl _)]
end VX

/- A journal's beginning: plain Lean. -/
namespace VX
open Go
abbrev baseR (gen seq : Int) (n : Nat) : Rec := ⟨1, seq, gen, (n : Int), ⟨[], 0, 0, 0, 0, 0⟩, 0, 0⟩
abbrev penR (seq : Int) (i : Nat) (p : Pen) : Rec := ⟨2, seq + 1 + (i : Int), 0, 0, p.u, p.tick, 0⟩
def bsP (gen seq : Int) (l : List Pen) : Nat → List UInt8
  | 0 => (jputS (baseR gen seq l.length)).1
  | i + 1 => bsP gen seq l i ++ (jputS (penR seq i (HP.at_ l i))).1
def bsOK (gen seq : Int) (l : List Pen) (n : Nat) : Prop := rightS (baseR gen seq l.length) = true ∧ ∀ j, j < n → rightS (penR seq j (HP.at_ l j)) = true
open Classical in
noncomputable def bseS (gen seq : Int) (l : List Pen) : List UInt8 := if bsOK gen seq l l.length then bsP gen seq l l.length else []
theorem base_facts {gen seq : Int} {n : Nat} (h : rightS (baseR gen seq n) = true) : (0 ≤ seq ∧ seq ≤ 1152921504606846976) ∧ 0 ≤ gen ∧ gen ≤ 1152921504606846976 ∧ n ≤ 32 := by
  obtain ⟨h0, h1 | h1 | h1⟩ := right_facts h
  · simp only at h0 h1; refine ⟨h0, ?_, ?_, ?_⟩ <;> omega
  · exact absurd h1.1 (by show ¬ (1 : Int) = 2; decide)
  · exact absurd h1.1 (by show ¬ (1 : Int) = 3; decide)
theorem base_ok {gen seq : Int} {n : Nat} (hg : inr .i64 gen) (hs : inr .i64 seq) (hn : n ≤ 1000000) : RecOK (baseR gen seq n) :=
  ⟨inr_i64.2 ⟨show (-9223372036854775808 : Int) ≤ 1 by decide, show (1 : Int) ≤ 9223372036854775807 by decide⟩, hs, hg, inr_i64.2 ⟨by show _ ≤ (n : Int); omega, by show (n : Int) ≤ _; omega⟩, upd0_ok, i64_0, i64_0⟩
theorem pen_ok {seq : Int} {i : Nat} {p : Pen} (hs : 0 ≤ seq ∧ seq ≤ 1152921504606846976) (hi : i ≤ 1000000) (hu : UpdOK p.u) (ht : inr .i64 p.tick) : RecOK (penR seq i p) :=
  ⟨inr_i64.2 ⟨show (-9223372036854775808 : Int) ≤ 2 by decide, show (2 : Int) ≤ 9223372036854775807 by decide⟩, inr_i64.2 ⟨by show _ ≤ seq + 1 + (i : Int); omega, by show seq + 1 + (i : Int) ≤ _; omega⟩, i64_0, i64_0, hu, ht, i64_0⟩
theorem jput_len (r : Rec) : (jputS r).1.length ≤ 109 := by
  unfold jputS
  split
  · rename_i h
    have := body_len h
    rw [jput_eq h, frameB_len]
    omega
  · exact Nat.zero_le _
theorem bsP_len (gen seq : Int) (l : List Pen) : ∀ i, (bsP gen seq l i).length ≤ 109 + 109 * i
  | 0 => jput_len _
  | i + 1 => by
    have h1 := bsP_len gen seq l i
    have h2 := jput_len (penR seq i (HP.at_ l i))
    rw [bsP, List.length_append]
    omega
theorem bse_no {gen seq : Int} {l : List Pen} (h : rightS (baseR gen seq l.length) = false) : bseS gen seq l = [] := by
  unfold bseS
  rw [if_neg]
  intro h1
  rw [h1.1] at h; cases h
theorem bse_pen {gen seq : Int} {l : List Pen} {i : Nat} (hi : i < l.length) (h : rightS (penR seq i (HP.at_ l i)) = false) : bseS gen seq l = [] := by
  unfold bseS
  rw [if_neg]
  intro h1
  rw [h1.2 i hi] at h; cases h
theorem bse_yes {gen seq : Int} {l : List Pen} (h0 : rightS (baseR gen seq l.length) = true) (h : ∀ j, j < l.length → rightS (penR seq j (HP.at_ l j)) = true) : bseS gen seq l = bsP gen seq l l.length := if_pos ⟨h0, h⟩
theorem pen_step {p : Nat → Prop} {i : Nat} (h : ∀ j, j < i → p j) (hi : p i) : ∀ j, j < i + 1 → p j := fun j hj => by
  rcases Nat.lt_succ_iff_lt_or_eq.1 hj with h1 | h1
  · exact h j h1
  · rw [h1]; exact hi
end VX

/- A journal that is laid anew: plain Lean. -/
namespace VX
open Go
theorem base_right {gen seq : Int} {n : Nat} (hs : 0 ≤ seq ∧ seq ≤ 65535) (hg : 0 ≤ gen ∧ gen ≤ 65535) (hn : n ≤ 32) : rightS (baseR gen seq n) = true := by
  have h1 : tickR seq = true := decide_eq_true (by omega)
  have h2 : tickR gen = true := decide_eq_true (by omega)
  rw [right1 h1 rfl]
  show (tickR gen && (decide (0 ≤ (n : Int) ∧ (n : Int) ≤ 32) && decide (_ ∧ _ ∧ _))) = true
  rw [h2, decide_eq_true (by omega), decide_eq_true ⟨rfl, rfl, rfl⟩]
  rfl
theorem pen_right {seq : Int} {i : Nat} {p : Pen} (hs : 0 ≤ seq ∧ seq ≤ 65535) (hi : i ≤ 1000) (hu : updRight p.u = true) (ht : 0 ≤ p.tick ∧ p.tick ≤ 65535) : rightS (penR seq i p) = true := by
  have h1 : tickR (seq + 1 + (i : Int)) = true := decide_eq_true (by omega)
  have h2 : tickR p.tick = true := decide_eq_true (by omega)
  rw [right2 h1 rfl]
  show (updRight p.u && (tickR p.tick && decide (_ ∧ _ ∧ _))) = true
  rw [hu, h2, decide_eq_true ⟨rfl, rfl, rfl⟩]
  rfl
end VX

/- Records of few numbers, bent ones: plain Lean. -/
namespace VX
open Go
end VX
namespace VX
open Go
end VX
namespace VX
open Go
end VX

/- Keys and signatures of the reference: mirrors of its loops. -/
namespace VX
open Go
def modS (m : Int) : Int := if m = 2305843009213693950 then m else 2305843009213693951
theorem modS_bd (m : Int) : 2305843009213693950 ≤ modS m ∧ modS m ≤ 2305843009213693951 := by unfold modS; split <;> omega
theorem shrU1 {b : Int} (h : 0 ≤ b) : shrI .u64 b 1 = b / 2 := by
  unfold shrI
  rw [show (2 : Int) ^ (min (1 : Int).toNat IntKind.u64.bits) = 2 from rfl, Int.fdiv_eq_ediv_of_nonneg _ (by decide)]
def mulF (M : Int) : Nat → Int → Int → Int → Int
  | 0, _, _, o => o
  | n + 1, a, b, o => if 0 < b then mulF M n (IntKind.u64.wrap (a + a) % M) (shrI .u64 b 1) (if bitsI .and .u64 b 1 = 1 then IntKind.u64.wrap (o + a) % M else o) else o
theorem mod_bd (x : Int) {M : Int} (h : 0 < M) : 0 ≤ x % M ∧ x % M < M := ⟨Int.emod_nonneg _ (by omega), Int.emod_lt_of_pos _ h⟩
theorem mulF_bd {M : Int} (hM : 0 < M) : ∀ (n : Nat) (a b o : Int), 0 ≤ o ∧ o < M → 0 ≤ mulF M n a b o ∧ mulF M n a b o < M
  | 0, _, _, _, h => h
  | n + 1, a, b, o, h => by
    rw [mulF]
    split
    · refine mulF_bd hM n _ _ _ ?_
      split
      · exact mod_bd _ hM
      · exact h
    · exact h
def mulS (a b m : Int) : Int := mulF (modS m) 64 (a % modS m) (b % modS m) 0
theorem mulS_bd (a b m : Int) : 0 ≤ mulS a b m ∧ mulS a b m ≤ 2305843009213693951 := by
  have h := modS_bd m
  have := mulF_bd (M := modS m) (by omega) 64 (a % modS m) (b % modS m) 0 ⟨by omega, by omega⟩
  unfold mulS
  omega
theorem u64_of {x : Int} (h : 0 ≤ x ∧ x ≤ 2305843009213693951) : inr .u64 x := inr_u64.2 ⟨by omega, by omega⟩
def powF (M : Int) : Nat → Int → Int → Int → Int
  | 0, _, _, o => o
  | n + 1, a, b, o => if 0 < b then powF M n (mulS a a M) (shrI .u64 b 1) (if bitsI .and .u64 b 1 = 1 then mulS o a M else o) else o
theorem powF_bd {M : Int} : ∀ (n : Nat) (a b o : Int), 0 ≤ o ∧ o ≤ 2305843009213693951 → 0 ≤ powF M n a b o ∧ powF M n a b o ≤ 2305843009213693951
  | 0, _, _, _, h => h
  | n + 1, a, b, o, h => by
    rw [powF]
    split
    · refine powF_bd n _ _ _ ?_
      split
      · exact mulS_bd _ _ _
      · exact h
    · exact h
def powS (a n m : Int) : Int := powF (modS m) 64 (a % modS m) n (1 % modS m)
theorem powS_bd (a n m : Int) : 0 ≤ powS a n m ∧ powS a n m ≤ 2305843009213693951 := by
  have h := modS_bd m
  refine powF_bd _ _ _ _ ?_
  have := mod_bd 1 (M := modS m) (by omega)
  omega
def addS (a b m : Int) : Int := (a % modS m + b % modS m) % modS m
theorem addS_bd (a b m : Int) : 0 ≤ addS a b m ∧ addS a b m ≤ 2305843009213693951 := by
  have h := modS_bd m
  have := mod_bd (a % modS m + b % modS m) (M := modS m) (by omega)
  unfold addS
  omega
def numH (h : List UInt8) : Int := (leN (h.take 8) : Int) % 2305843009213693950
theorem numH_bd (h : List UInt8) : 0 ≤ numH h ∧ numH h ≤ 2305843009213693951 := by
  have := mod_bd (leN (h.take 8) : Int) (M := 2305843009213693950) (by decide)
  unfold numH
  omega
def pubS (s : Int) : Int := powS 7 (s % 2305843009213693950) 2305843009213693951
def ptS (r y : Int) (msg : List UInt8) : Int := numH (sumS (textS 101 [numS r, numS y, msg]))
def sgnK (s : Int) (msg : List UInt8) : Int := numH (sumS (textS 107 [numS (s % 2305843009213693950), msg]))
def sgnR (s : Int) (msg : List UInt8) : Int := powS 7 (sgnK s msg) 2305843009213693951
def sgnS (s : Int) (msg : List UInt8) : Int := addS (sgnK s msg) (mulS (s % 2305843009213693950) (ptS (sgnR s msg) (pubS (s % 2305843009213693950)) msg) 2305843009213693950) 2305843009213693950
def msgB (u : Upd) : List UInt8 := 85 :: fdB u.name u.ver u.key
def sgnU (s : Int) (u : Upd) : Upd := { u with r := sgnR s (msgB u), s := sgnS s (msgB u) }
end VX
namespace VX
open Go
/-- A secret of a name's version. -/
def secN (s : List UInt8) : Nat → Int
  | 0 => IntKind.u64.wrap (IntKind.u64.wrap (s.length : Int) * 1000003)
  | i + 1 => IntKind.u64.wrap (IntKind.u64.wrap (secN s i * 31) + IntKind.u64.wrap ((s.getD i 0).toNat : Int))
def sec1 (s : List UInt8) (v : Int) : Int := IntKind.u64.wrap (IntKind.u64.wrap (secN s s.length % 1000000007 + IntKind.u64.wrap (IntKind.u64.wrap v * 7919)) + 11)
def secS (s : List UInt8) (v : Int) (alt : Bool) : Int := if alt = true then IntKind.u64.wrap (sec1 s v + 500) else sec1 s v
theorem wrap_u64_inr (x : Int) : inr .u64 (IntKind.u64.wrap x) := by
  have := mod_bd x (M := 18446744073709551616) (by decide)
  rw [inr_u64, show IntKind.u64.wrap x = x % 18446744073709551616 from rfl]
  omega
theorem secN_ok (s : List UInt8) (i : Nat) : inr .u64 (secN s i) := by cases i <;> exact wrap_u64_inr _
theorem sec1_ok (s : List UInt8) (v : Int) : inr .u64 (sec1 s v) := wrap_u64_inr _
theorem secS_ok (s : List UInt8) (v : Int) (alt : Bool) : inr .u64 (secS s v alt) := by
  unfold secS
  split
  · exact wrap_u64_inr _
  · exact sec1_ok _ _
def keyS (s : List UInt8) (v : Int) (alt : Bool) : Int := pubS (secS s v alt)
theorem pubS_bd (s : Int) : 0 ≤ pubS s ∧ pubS s ≤ 2305843009213693951 := powS_bd _ _ _
theorem keyS_ok (s : List UInt8) (v : Int) (alt : Bool) : inr .u64 (keyS s v alt) := u64_of (pubS_bd _)
end VX
namespace VX
open Go
theorem sum8_len (l : List UInt8) : ((sumS l).take 8).length = 8 := by rw [List.length_take, sumS_length]; rfl
theorem pt_text (r y : Int) (msg : List UInt8) (h : msg.length ≤ 1000000) : (textS 101 [numS r, numS y, msg]).length ≤ 1000000000000 := by
  have := textS_bound 101 [numS r, numS y, msg] 1000000 (all3 (by rw [numS_length]; omega) (by rw [numS_length]; omega) h)
  exact Nat.le_trans this (by show 1 + 3 * (8 + 1000000) ≤ _; decide)
theorem k_text (r : Int) (msg : List UInt8) (h : msg.length ≤ 1000000) : (textS 107 [numS r, msg]).length ≤ 1000000000000 := by
  have := textS_bound 107 [numS r, msg] 1000000 (fun l hl => by
    rcases List.mem_cons.1 hl with rfl | hl
    · rw [numS_length]; omega
    · rw [List.mem_singleton.1 hl]; exact h)
  exact Nat.le_trans this (by show 1 + 2 * (8 + 1000000) ≤ _; decide)
theorem msgB_len (u : Upd) : (msgB u).length = 25 + u.name.length := by
  rw [msgB, List.length_cons, fdB_len]; omega
end VX
namespace VX
open Go
def mxv (v : Int) : Int := if v - 1 < 1 then 1 else v - 1
def byS (s : List UInt8) (v h : Int) : Int := if h % 8 = 5 then IntKind.u64.wrap (secS s (mxv v) (decide (h % 8 = 6 ∧ v = 1)) + 3) else secS s (mxv v) (decide (h % 8 = 6 ∧ v = 1))
theorem byS_ok (s : List UInt8) (v h : Int) : inr .u64 (byS s v h) := by
  unfold byS
  split
  · exact wrap_u64_inr _
  · exact secS_ok _ _ _
def upd1 (s : List UInt8) (v c h : Int) : Upd := sgnU (byS s v h) ⟨s, v, keyS s v (decide (h % 8 = 6)), c % 2, 0, 0⟩
def updN (s : List UInt8) (v c h : Int) : Upd := if h % 8 = 7 then { upd1 s v c h with cls := 5 } else upd1 s v c h
theorem sgnS_bd (x : Int) (m : List UInt8) : inr .u64 (sgnS x m) := u64_of (addS_bd _ _ _)
theorem sgnR_bd (x : Int) (m : List UInt8) : inr .u64 (sgnR x m) := u64_of (powS_bd _ _ _)
section
attribute [local irreducible] keyS sgnR sgnS byS
theorem updN_ok {s : List UInt8} {v c h : Int} (hv : 0 ≤ v ∧ v ≤ 2000000000) : UpdOK (updN s v c h) ∧ (updN s v c h).name = s ∧ (updN s v c h).ver = v := by
  have hc := mod_bd c (M := 2) (by decide)
  have hv9 : inr .i64 v := inr_i64.2 ⟨by omega, by omega⟩
  unfold updN
  split
  · exact ⟨⟨hv9, keyS_ok _ _ _, inr_i64.2 ⟨show (-9223372036854775808 : Int) ≤ 5 by decide, show (5 : Int) ≤ 9223372036854775807 by decide⟩, sgnR_bd _ _, sgnS_bd _ _⟩, rfl, rfl⟩
  · exact ⟨⟨hv9, keyS_ok _ _ _, inr_i64.2 ⟨show _ ≤ c % 2 by omega, show c % 2 ≤ _ by omega⟩, sgnR_bd _ _, sgnS_bd _ _⟩, rfl, rfl⟩
end
end VX

/- What the bytes of a journal tell: plain Lean. -/
namespace VX
open Go
structure RdOK (b : List UInt8) (n : Nat) : Prop where
  num : (jreadS b).2.1 = (n : Int)
  ge : 21 ≤ n
  le : n ≤ b.length
  right : rightS (jreadS b).1 = true
  ok : RecOK (jreadS b).1
  bytes : b.take n = (jputS (jreadS b).1).1
theorem jread_ok {b : List UInt8} (h : (jreadS b).2.2 = 0) : ∃ n : Nat, RdOK b n := by
  by_cases he : (readS b).2.2.2.2 = 0
  · have hf := readS_ok he
    have hj : jreadS b = jback b (jrec nearT (readS b).1 (readS b).2.1 (readS b).2.2.1) (readS b).2.2.2.1 := by
      unfold jreadS
      rw [if_neg (fun h => h he)]
    have hro := jrec_ok (f := nearT) (fun n h => (near_ok h).1) hf.k hf.q (readS b).2.2.1
    rw [hf.n] at hj
    have hl := hf.l
    generalize jrec nearT (readS b).1 (readS b).2.1 (readS b).2.2.1 = r at hj hro
    generalize 21 + (readS b).2.2.1.length = n at hj hl
    by_cases hb : (jputS r).2 ≠ 0 ∨ (jputS r).1 ≠ b.take ((n : Int)).toNat
    · rw [hj] at h
      unfold jback at h
      rw [if_pos hb] at h
      exact absurd h (by decide)
    · have e : jreadS b = (r, (n : Int), 0) := by rw [hj]; unfold jback; rw [if_neg hb]
      have h2 : (jputS r).2 = 0 := Decidable.not_not.1 fun h => hb (.inl h)
      have h1 : (jputS r).1 = b.take ((n : Int)).toNat := Decidable.not_not.1 fun h => hb (.inr h)
      rw [Int.toNat_natCast] at h1
      have hr : rightS r = true := by
        cases hr : rightS r with
        | true => rfl
        | false => unfold jputS at h2; rw [hr] at h2; exact absurd (show (23 : Int) = 0 from h2) (by decide)
      have hlen : (jputS r).1.length = 21 + (bodyS r).length := by unfold jputS; rw [if_pos hr, jput_eq hr, frameB_len]
      have hn : n = (jputS r).1.length := by rw [h1, List.length_take]; omega
      exact ⟨n, by rw [e], by omega, hl, by rw [e]; exact hr, by rw [e]; exact hro, by rw [e]; exact h1.symm⟩
  · unfold jreadS at h
    rw [if_pos he] at h
    exact absurd h he
theorem RdOK.split {b : List UInt8} {n : Nat} (h : RdOK b n) : b = (jputS (jreadS b).1).1 ++ b.drop n := by
  rw [← h.bytes, List.take_append_drop]
theorem RdOK.len {b : List UInt8} {n : Nat} (h : RdOK b n) : (jputS (jreadS b).1).1.length = n := by
  rw [← h.bytes, List.length_take]; exact Nat.min_eq_left h.le
theorem right_seq {r : Rec} (h : rightS r = true) : 0 ≤ r.seq ∧ r.seq ≤ 1152921504606846976 := (right_facts h).1

/-! ### records one after another -/
def flatJ (l : List Rec) : List UInt8 := l.flatMap fun r => (jputS r).1
theorem flatJ_snoc (l : List Rec) (r : Rec) : flatJ (l ++ [r]) = flatJ l ++ (jputS r).1 := by simp [flatJ]
theorem flatJ_app (l m : List Rec) : flatJ (l ++ m) = flatJ l ++ flatJ m := by simp [flatJ]
/-- A record may stand behind these. -/
def rcNext (out : List Rec) (r : Rec) : Prop := 0 < out.length → r.seq = (HP.at_ out (out.length - 1)).seq + 1
def rcBad (x : Rec × Int × Int) (out : List Rec) : Prop := x.2.2 ≠ 0 ∨ ¬ rcNext out x.1
inductive Rows : List Rec → Prop
  | nil : Rows []
  | snoc {l : List Rec} {r : Rec} : Rows l → rightS r = true → RecOK r → rcNext l r → Rows (l ++ [r])
theorem Rows.all {l : List Rec} (h : Rows l) : ∀ r ∈ l, rightS r = true ∧ RecOK r := by
  induction h with
  | nil => exact fun r hr => absurd hr List.not_mem_nil
  | snoc h h1 h2 h3 ih =>
    intro r hr
    rcases List.mem_append.1 hr with h | h
    · exact ih r h
    · have := List.mem_singleton.1 h; subst this; exact ⟨h1, h2⟩
open Classical in
noncomputable def rcS (b : List UInt8) : Nat → Nat → List Rec → List Rec × Nat
  | 0, p, out => (out, p)
  | f + 1, p, out => if rcBad (jreadS (b.drop p)) out then (out, p) else rcS b f (p + (jreadS (b.drop p)).2.1.toNat) (out ++ [(jreadS (b.drop p)).1])
noncomputable def recsS (b : List UInt8) : List Rec × Nat := rcS b (b.length + 1) 0 []
structure RcJ (b : List UInt8) (x : Nat × List Rec) : Prop where
  le : x.1 ≤ b.length
  eq : ∃ f, b.length - x.1 < f ∧ rcS b f x.1 x.2 = recsS b
  rows : Rows x.2
  bytes : b.take x.1 = flatJ x.2
  len : 21 * x.2.length ≤ x.1
theorem RcJ.start (b : List UInt8) : RcJ b (0, []) := ⟨Nat.zero_le _, ⟨b.length + 1, Nat.lt_succ_of_le (Nat.sub_le _ _), rfl⟩, .nil, rfl, Nat.le_refl _⟩
theorem RcJ.done {b : List UInt8} {p : Nat} {out : List Rec} (h : RcJ b (p, out)) (hb : rcBad (jreadS (b.drop p)) out) : recsS b = (out, p) := by
  obtain ⟨f, hf, e⟩ := h.eq
  rw [← e]
  cases f with
  | zero => exact absurd hf (Nat.not_lt_zero _)
  | succ f => unfold rcS; rw [if_pos hb]
theorem RcJ.next {b : List UInt8} {p : Nat} {out : List Rec} (h : RcJ b (p, out)) (hb : ¬ rcBad (jreadS (b.drop p)) out) {n : Nat} (hn : RdOK (b.drop p) n) : RcJ b (p + n, out ++ [(jreadS (b.drop p)).1]) := by
  have hl := hn.le
  rw [List.length_drop] at hl
  have h1 := h.le
  have h2 := hn.ge
  have hnx : rcNext out (jreadS (b.drop p)).1 := Classical.not_not.1 fun h => hb (.inr h)
  refine ⟨by simp only at h1 ⊢; omega, ?_, h.rows.snoc hn.right hn.ok hnx, ?_, ?_⟩
  · obtain ⟨f, hf, e⟩ := h.eq
    cases f with
    | zero => exact absurd hf (Nat.not_lt_zero _)
    | succ f =>
      refine ⟨f, by simp only at hf ⊢; omega, ?_⟩
      rw [← e]
      conv => rhs; unfold rcS
      rw [if_neg hb, hn.num, Int.toNat_natCast]
  · show b.take (p + n) = _
    rw [flatJ_snoc, ← hn.bytes, ← h.bytes, List.take_add]
  · have := h.len
    simp only [List.length_append, List.length_cons, List.length_nil] at this ⊢
    omega
/-- What is told of bytes: the records at their head, as far as they go on. -/
structure Told (b : List UInt8) (out : List Rec) (p : Nat) : Prop where
  rows : Rows out
  bytes : b = flatJ out ++ b.drop p
  len : p = (flatJ out).length
  stop : rcBad (jreadS (b.drop p)) out
theorem RcJ.told {b : List UInt8} : ∀ (k : Nat) {p : Nat} {out : List Rec}, b.length - p < k → RcJ b (p, out) → Told b (recsS b).1 (recsS b).2 ∧ (recsS b).2 ≤ b.length ∧ 21 * (recsS b).1.length ≤ (recsS b).2
  | 0, p, out, hk, h => absurd hk (Nat.not_lt_zero _)
  | k + 1, p, out, hk, h => by
    by_cases hb : rcBad (jreadS (b.drop p)) out
    · rw [h.done hb]
      have h1 := h.bytes
      have h2 := h.le
      have h3 := h.len
      simp only at h1 h2 h3
      exact ⟨⟨h.rows, by rw [← h1, List.take_append_drop], by rw [← h1, List.length_take]; exact (Nat.min_eq_left h2).symm, hb⟩, h2, h3⟩
    · have he : (jreadS (b.drop p)).2.2 = 0 := Classical.not_not.1 fun h => hb (.inl h)
      obtain ⟨n, hn⟩ := jread_ok he
      have hl := hn.le
      rw [List.length_drop] at hl
      have := hn.ge
      exact RcJ.told k (by omega) (h.next hb hn)
theorem recs_told (b : List UInt8) : Told b (recsS b).1 (recsS b).2 := (RcJ.told (b.length + 1) (Nat.lt_succ_of_le (Nat.sub_le _ _)) (RcJ.start b)).1
theorem recs_le (b : List UInt8) : (recsS b).2 ≤ b.length ∧ 21 * (recsS b).1.length ≤ (recsS b).2 := (RcJ.told (b.length + 1) (Nat.lt_succ_of_le (Nat.sub_le _ _)) (RcJ.start b)).2
theorem drop_app {a b : List UInt8} : (a ++ b).drop a.length = b := by simp
/-- Records at the head are walked through. -/
theorem rcJ_of {b : List UInt8} {out : List Rec} (h : Rows out) : ∀ rest, b = flatJ out ++ rest → RcJ b ((flatJ out).length, out) := by
  induction h with
  | nil => exact fun rest e => RcJ.start b
  | snoc h h1 h2 h3 ih =>
    rename_i l r
    intro rest e
    rw [flatJ_snoc, List.append_assoc] at e
    have hJ := ih _ e
    have hd : b.drop (flatJ l).length = (jputS r).1 ++ rest := by rw [e, drop_app]
    have hj := jread_put h1 h2 rest
    rw [← hd] at hj
    have he : (jreadS (b.drop (flatJ l).length)).2.2 = 0 := by rw [hj]
    obtain ⟨n, hn⟩ := jread_ok he
    have hb : ¬ rcBad (jreadS (b.drop (flatJ l).length)) l := fun hx => hx.elim (fun h => h he) fun h => h (by rw [hj]; exact h3)
    have hJ2 := hJ.next hb hn
    have hnl := hn.len
    rw [hj] at hJ2 hnl
    rw [flatJ_snoc, List.length_append, hnl]
    exact hJ2
theorem recs_of {b : List UInt8} {out : List Rec} {rest : List UInt8} (h : Rows out) (e : b = flatJ out ++ rest) (hs : rcBad (jreadS rest) out) : recsS b = (out, (flatJ out).length) := by
  refine (rcJ_of h rest e).done ?_
  rw [e, drop_app]
  exact hs
end VX

/- Which lists of records are whole, and which journal counts: plain Lean. -/
namespace VX
open Go
def penOf (r : Rec) : Pen := ⟨r.u, r.tick, r.seq, true⟩
def pens (l : List Rec) : List Pen := (l.filter fun r => decide (r.kind = 2)).map penOf
def wholeB (l : List Rec) : Prop := ∀ j, 1 ≤ j → j < l.length → (j : Int) ≤ (HP.at_ l 0).count → (HP.at_ l j).kind = 2
def wholeH (l : List Rec) : Prop := 0 < l.length ∧ (HP.at_ l 0).kind = 1 ∧ (HP.at_ l 0).count ≤ (l.length : Int) - 1
open Classical in
noncomputable def wholeS (l : List Rec) : Int × List Pen × Bool := if wholeH l ∧ wholeB l then ((HP.at_ l 0).gen, pens l, true) else (0, [], false)
theorem whole_yes {l : List Rec} (h : wholeH l) (hb : wholeB l) : wholeS l = ((HP.at_ l 0).gen, pens l, true) := if_pos ⟨h, hb⟩
theorem whole_noH {l : List Rec} (h : ¬ wholeH l) : wholeS l = (0, [], false) := if_neg fun x => h x.1
theorem whole_noB {l : List Rec} (h : ¬ wholeB l) : wholeS l = (0, [], false) := if_neg fun x => h x.2
theorem pens_len (l : List Rec) : (pens l).length ≤ l.length := by
  unfold pens
  rw [List.length_map]
  exact List.length_filter_le _ _
theorem whole_len (l : List Rec) : (wholeS l).2.1.length ≤ l.length := by
  unfold wholeS
  split
  · exact pens_len l
  · exact Nat.zero_le _
theorem pens_app (l m : List Rec) : pens (l ++ m) = pens l ++ pens m := by simp [pens]
theorem recs_take {l : List Rec} {i : Nat} (h : i < l.length) : l.take (i + 1) = l.take i ++ [HP.at_ l i] := by
  rw [List.take_succ_eq_append_getElem h]
  congr 2
  simp [HP.at_, List.getD_eq_getElem?_getD, h]
theorem pens_yes {l : List Rec} {i : Nat} (h : i < l.length) (hk : (HP.at_ l i).kind = 2) : pens (l.take (i + 1)) = pens (l.take i) ++ [penOf (HP.at_ l i)] := by
  rw [recs_take h, pens_app]
  generalize HP.at_ l i = x at hk ⊢
  simp [pens, hk]
theorem pens_no {l : List Rec} {i : Nat} (h : i < l.length) (hk : (HP.at_ l i).kind ≠ 2) : pens (l.take (i + 1)) = pens (l.take i) := by
  rw [recs_take h, pens_app]
  generalize HP.at_ l i = x at hk ⊢
  simp [pens, hk]
theorem pens_one {l : List Rec} (h : wholeH l) : pens (l.take 1) = [] := by
  have := pens_no h.1 (by rw [h.2.1]; decide)
  rw [this]; rfl
/-- The walk of the program: up to i, those that count are requests. -/
structure WhJ (l : List Rec) (x : Nat × List Pen) : Prop where
  le : x.1 ≤ l.length
  kinds : ∀ j, 1 ≤ j → j < x.1 → (j : Int) ≤ (HP.at_ l 0).count → (HP.at_ l j).kind = 2
  pens : x.2 = pens (l.take x.1)
theorem WhJ.start (l : List Rec) : WhJ l (0, []) := ⟨Nat.zero_le _, fun j _ h => absurd h (Nat.not_lt_zero _), rfl⟩
theorem WhJ.yes {l : List Rec} {i : Nat} {p : List Pen} (h : WhJ l (i, p)) (hi : i < l.length) (hk : (HP.at_ l i).kind = 2) : WhJ l (i + 1, p ++ [penOf (HP.at_ l i)]) := by
  refine ⟨hi, fun j h1 h2 h3 => ?_, ?_⟩
  · by_cases hj : j = i
    · subst hj; exact hk
    · exact h.kinds j h1 (by simp only at h2 ⊢; omega) h3
  · rw [pens_yes hi hk, ← h.pens]
theorem WhJ.no {l : List Rec} {i : Nat} {p : List Pen} (h : WhJ l (i, p)) (hi : i < l.length) (hk : (HP.at_ l i).kind ≠ 2) (hc : ¬ (0 < i ∧ (i : Int) ≤ (HP.at_ l 0).count)) : WhJ l (i + 1, p) := by
  refine ⟨hi, fun j h1 h2 h3 => ?_, ?_⟩
  · by_cases hj : j = i
    · subst hj; exact absurd ⟨h1, h3⟩ hc
    · exact h.kinds j h1 (by simp only at h2 ⊢; omega) h3
  · rw [pens_no hi hk, ← h.pens]
theorem WhJ.done {l : List Rec} {i : Nat} {p : List Pen} (h : WhJ l (i, p)) (hi : ¬ i < l.length) (hh : wholeH l) : wholeS l = ((HP.at_ l 0).gen, p, true) := by
  have hle := h.le
  have hp := h.pens
  simp only at hle hp
  rw [whole_yes hh fun j h1 h2 h3 => h.kinds j h1 (by simp only; omega) h3, hp, List.take_of_length_le (by omega)]
theorem whole_bad {l : List Rec} {i : Nat} (hi : i < l.length) (hk : (HP.at_ l i).kind ≠ 2) (h0 : 0 < i) (hc : (i : Int) ≤ (HP.at_ l 0).count) : wholeS l = (0, [], false) :=
  whole_noB fun h => hk (h i h0 hi hc)
/-- The reference tells kinds first. -/
def WhK (l : List Rec) (i : Nat) : Prop := ∀ j, 1 ≤ j → j < i → (HP.at_ l j).kind = 2
structure WhP (l : List Rec) (x : Nat × List Pen) : Prop where
  one : 1 ≤ x.1
  le : x.1 ≤ l.length
  pens : x.2 = pens (l.take x.1)
theorem WhP.start {l : List Rec} (h : wholeH l) : WhP l (1, []) := ⟨Nat.le_refl _, h.1, (pens_one h).symm⟩
theorem WhP.yes {l : List Rec} {i : Nat} {p : List Pen} (h : WhP l (i, p)) (hi : i < l.length) (hk : (HP.at_ l i).kind = 2) : WhP l (i + 1, p ++ [penOf (HP.at_ l i)]) :=
  ⟨Nat.le_add_left _ _, hi, by rw [pens_yes hi hk, ← h.pens]⟩
theorem WhP.no {l : List Rec} {i : Nat} {p : List Pen} (h : WhP l (i, p)) (hi : i < l.length) (hk : (HP.at_ l i).kind ≠ 2) : WhP l (i + 1, p) :=
  ⟨Nat.le_add_left _ _, hi, by rw [pens_no hi hk, ← h.pens]⟩
theorem WhP.done {l : List Rec} {i : Nat} {p : List Pen} (h : WhP l (i, p)) (hi : ¬ i < l.length) (hh : wholeH l) {k : Nat} (hk : WhK l k) (hk2 : ¬ (k : Int) ≤ (HP.at_ l 0).count) : wholeS l = ((HP.at_ l 0).gen, p, true) := by
  have hle := h.le
  have hp := h.pens
  simp only at hle hp
  rw [whole_yes hh fun j h1 h2 h3 => hk j h1 (by omega), hp, List.take_of_length_le (by omega)]
theorem penA_flat (l : List Pen) (n : Nat) : (Obj.arr 9 n (lsA penA l)).flat := fun _ _ => ⟨⟨trivial, trivial, trivial, trivial, ⟨trivial, trivial, trivial⟩, trivial⟩, trivial, trivial, trivial, trivial⟩
theorem recA_flat (l : List Rec) (n : Nat) : (Obj.arr 12 n (lsA recA l)).flat := fun _ _ => ⟨trivial, trivial, trivial, trivial, ⟨trivial, trivial, trivial, trivial, ⟨trivial, trivial, trivial⟩, trivial⟩, trivial, trivial, trivial⟩
/-- Which of two journals counts. -/
noncomputable def chooseS (a b : List UInt8) : Int × Bool :=
  if (wholeS (recsS b).1).2.2 = true ∧ ((wholeS (recsS a).1).2.2 = false ∨ (wholeS (recsS a).1).1 < (wholeS (recsS b).1).1) then (1, true) else (0, (wholeS (recsS a).1).2.2)
end VX

/- Ends of journals, holes in them, and journals of a base and its requests: plain Lean. -/
namespace VX
open Go
theorem jread_fr {b : List UInt8} (h : (readS b).2.2.2.2 ≠ 0) : (jreadS b).2.2 ≠ 0 := by
  unfold jreadS
  rw [if_pos h]
  exact h
theorem jread_end {b : List UInt8} (h : b.length < 13) : (jreadS b).2.2 ≠ 0 := jread_fr (by
  rw [show readS b = frE 21 from if_pos h]
  show (21 : Int) ≠ 0
  decide)
theorem jread_hole {b : List UInt8} (h : b.getD 4 0 = 0) : (jreadS b).2.2 ≠ 0 := by
  by_cases h1 : b.length < 13
  · exact jread_end h1
  · refine jread_fr ?_
    rw [show readS b = frE 20 from (if_neg h1).trans (if_pos (.inr (.inl (by show (b.getD 4 0).toNat = 0; rw [h]; rfl))))]
    show (20 : Int) ≠ 0
    decide
/-- A journal anew: its base, and those that wait. -/
def rwS (gen seq : Int) (l : List Pen) : Nat → List Rec
  | 0 => [baseR gen seq l.length]
  | i + 1 => rwS gen seq l i ++ [penR seq i (HP.at_ l i)]
theorem rwS_flat (gen seq : Int) (l : List Pen) : ∀ i, flatJ (rwS gen seq l i) = bsP gen seq l i
  | 0 => by simp [rwS, flatJ, bsP]
  | i + 1 => by rw [rwS, flatJ_snoc, rwS_flat gen seq l i, bsP]
theorem rwS_len (gen seq : Int) (l : List Pen) : ∀ i, (rwS gen seq l i).length = i + 1
  | 0 => rfl
  | i + 1 => by rw [rwS, List.length_append, rwS_len gen seq l i]; rfl
theorem at_last {α : Type} [Inhabited α] (l : List α) (x : α) : HP.at_ (l ++ [x]) l.length = x := by
  simp [HP.at_, List.getD_eq_getElem?_getD]
theorem rwS_last (gen seq : Int) (l : List Pen) (i : Nat) : (HP.at_ (rwS gen seq l i) i).seq = seq + (i : Int) := by
  cases i with
  | zero => show seq = seq + ((0 : Nat) : Int); omega
  | succ i =>
    have := at_last (rwS gen seq l i) (penR seq i (HP.at_ l i))
    rw [rwS_len] at this
    rw [rwS, this]
    show seq + 1 + (i : Int) = _
    omega
theorem rwS_zero (gen seq : Int) (l : List Pen) : ∀ i, HP.at_ (rwS gen seq l i) 0 = baseR gen seq l.length
  | 0 => rfl
  | i + 1 => by
    have h := rwS_len gen seq l i
    rw [rwS, HP.at_append_left (by omega), rwS_zero gen seq l i]
theorem rwS_kind (gen seq : Int) (l : List Pen) : ∀ i j, 1 ≤ j → j ≤ i → (HP.at_ (rwS gen seq l i) j).kind = 2
  | 0, j, h, h2 => by omega
  | i + 1, j, h, h2 => by
    have hl := rwS_len gen seq l i
    by_cases hj : j = i + 1
    · have := at_last (rwS gen seq l i) (penR seq i (HP.at_ l i))
      rw [hl] at this
      rw [hj, rwS, this]
    · rw [rwS, HP.at_append_left (by omega)]
      exact rwS_kind gen seq l i j h (by omega)
theorem rwS_rows {gen seq : Int} {l : List Pen} (h0 : rightS (baseR gen seq l.length) = true) (o0 : RecOK (baseR gen seq l.length)) : ∀ i, (∀ j, j < i → rightS (penR seq j (HP.at_ l j)) = true ∧ RecOK (penR seq j (HP.at_ l j))) → Rows (rwS gen seq l i)
  | 0, _ => Rows.snoc (l := []) .nil h0 o0 fun h => absurd h (Nat.lt_irrefl _)
  | i + 1, h => by
    refine (rwS_rows h0 o0 i fun j hj => h j (by omega)).snoc (h i (by omega)).1 (h i (by omega)).2 fun _ => ?_
    rw [rwS_len, Nat.add_sub_cancel, rwS_last]
    show seq + 1 + (i : Int) = _
    omega
/-- A record behind others in a journal of one of the laws. -/
def fRec (nm : UInt8 → List UInt8) (q : Int) (i : Nat) (k : UInt8) : Rec :=
  if (k.toNat : Int) % 29 = 28 then
    (if (k.toNat : Int) % 4 = 0 then ⟨3, q + 2, 0, 0, ⟨[], 0, 0, 0, 0, 0⟩, 0, (k.toNat : Int) + 1⟩ else ⟨2, q + 2, 0, 0, updN (nm k) ((k.toNat : Int) % 5 + 1) 0 0, (i : Int), 0⟩)
  else
    (if (k.toNat : Int) % 4 = 0 then ⟨3, q, 0, 0, ⟨[], 0, 0, 0, 0, 0⟩, 0, (k.toNat : Int) + 1⟩ else ⟨2, q, 0, 0, updN (nm k) ((k.toNat : Int) % 5 + 1) 0 0, (i : Int), 0⟩)
def flJ (nm : UInt8 → List UInt8) (q : Int) (m : List UInt8) : Nat → List UInt8
  | 0 => []
  | i + 1 => flJ nm q m i ++ (jputS (fRec nm (q + (i : Int)) i (m.getD i 0))).1
theorem flJ_len (nm : UInt8 → List UInt8) (q : Int) (m : List UInt8) : ∀ i, (flJ nm q m i).length ≤ 109 * i
  | 0 => Nat.zero_le _
  | i + 1 => by
    have := flJ_len nm q m i
    have h := jput_len (fRec nm (q + (i : Int)) i (m.getD i 0))
    rw [flJ, List.length_append]
    omega
theorem i64_c {n : Int} (h : -1000000 ≤ n ∧ n ≤ 1000000) : inr .i64 n := inr_i64.2 ⟨by omega, by omega⟩
theorem fRec_ok {nm : UInt8 → List UInt8} {q : Int} {i : Nat} {k : UInt8} (hq : 0 ≤ q ∧ q ≤ 10000) (hi : i ≤ 1000) : RecOK (fRec nm q i k) := by
  have hk := k.toNat_lt
  have hu := (updN_ok (s := nm k) (v := (k.toNat : Int) % 5 + 1) (c := 0) (h := 0) ⟨by omega, by omega⟩).1
  have hz : UpdOK ⟨[], 0, 0, 0, 0, 0⟩ := upd0_ok

  unfold fRec
  split <;> split <;> exact ⟨i64_c (by constructor <;> simp only <;> omega), i64_c (by constructor <;> simp only <;> omega), i64_c (by constructor <;> simp only <;> omega), i64_c (by constructor <;> simp only <;> omega), by first | exact hz | exact hu, i64_c (by constructor <;> simp only <;> omega), i64_c (by constructor <;> simp only <;> omega)⟩
end VX

