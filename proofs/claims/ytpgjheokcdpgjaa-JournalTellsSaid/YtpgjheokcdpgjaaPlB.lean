/- Plain laws and the functions that answer for the program's (part 2 of 2). -/
import Derived.Test.YtpgjheokcdpgjaaPlA
set_option linter.unusedSimpArgs false
set_option linter.unusedVariables false
/- Records of a journal: what their parts say. -/
namespace VX
open Go
theorem right1 {r : Rec} (h : tickR r.seq = true) (k : r.kind = 1) : rightS r = (tickR r.gen && (decide (0 ≤ r.count ∧ r.count ≤ 32) && decide (r.u = default ∧ r.tick = 0 ∧ r.epoch = 0))) := by
  unfold rightS; rw [h, if_pos k, Bool.true_and]
theorem right2 {r : Rec} (h : tickR r.seq = true) (k : r.kind = 2) : rightS r = (updRight r.u && (tickR r.tick && decide (r.gen = 0 ∧ r.count = 0 ∧ r.epoch = 0))) := by
  unfold rightS; rw [h, if_neg (by omega), if_pos k, Bool.true_and]
theorem right3 {r : Rec} (h : tickR r.seq = true) (k : r.kind = 3) : rightS r = (decide (1 ≤ r.epoch ∧ r.epoch ≤ 1073741824) && decide (r.gen = 0 ∧ r.count = 0 ∧ r.u = default ∧ r.tick = 0)) := by
  unfold rightS; rw [h, if_neg (by omega), if_neg (by omega), if_pos k, Bool.true_and]
theorem updD (u : Upd) : u = default ↔ u.name = [] ∧ u.ver = 0 ∧ u.key = 0 ∧ u.cls = 0 ∧ u.r = 0 ∧ u.s = 0 := by
  cases u
  constructor
  · intro h
    cases h
    exact ⟨rfl, rfl, rfl, rfl, rfl, rfl⟩
  · rintro ⟨h1, h2, h3, h4, h5, h6⟩
    simp only at h1 h2 h3 h4 h5 h6
    subst h1 h2 h3 h4 h5 h6
    rfl
theorem recZ1 (r : Rec) : (bif true then decide ((0 : Int) = 0) && (decide ((0 : Int) = 0) && (decide ((0 : Int) = 0) && (decide ((0 : Int) = 0) && (decide (r.u.name = []) && (decide (r.u.ver = 0) && (decide (r.u.key = 0) && (decide (r.u.cls = 0) && (decide (r.u.r = 0) && (decide (r.u.s = 0) && true) && true)))) && (decide (r.tick = 0) && (decide (r.epoch = 0) && true)))))) else false) = decide (r.u = default ∧ r.tick = 0 ∧ r.epoch = 0) := by
  rw [Bool.eq_iff_iff]
  simp only [updD, cond_true, Bool.and_eq_true, decide_eq_true_eq, Bool.and_true, true_and, and_assoc]
theorem recZ2 (r : Rec) : (bif true then decide ((0 : Int) = 0) && (decide ((0 : Int) = 0) && (decide (r.gen = 0) && (decide (r.count = 0) && (decide (([] : List UInt8) = []) && (decide ((0 : Int) = 0) && (decide ((0 : Int) = 0) && (decide ((0 : Int) = 0) && (decide ((0 : Int) = 0) && (decide ((0 : Int) = 0) && true) && true)))) && (decide ((0 : Int) = 0) && (decide (r.epoch = 0) && true)))))) else false) = decide (r.gen = 0 ∧ r.count = 0 ∧ r.epoch = 0) := by
  rw [Bool.eq_iff_iff]
  simp only [cond_true, Bool.and_eq_true, decide_eq_true_eq, Bool.and_true, true_and, and_assoc]
theorem recZ3 (r : Rec) : (bif true then decide ((0 : Int) = 0) && (decide ((0 : Int) = 0) && (decide (r.gen = 0) && (decide (r.count = 0) && (decide (r.u.name = []) && (decide (r.u.ver = 0) && (decide (r.u.key = 0) && (decide (r.u.cls = 0) && (decide (r.u.r = 0) && (decide (r.u.s = 0) && true) && true)))) && (decide (r.tick = 0) && (decide ((0 : Int) = 0) && true)))))) else false) = decide (r.gen = 0 ∧ r.count = 0 ∧ r.u = default ∧ r.tick = 0) := by
  rw [Bool.eq_iff_iff]
  simp only [updD, cond_true, Bool.and_eq_true, decide_eq_true_eq, Bool.and_true, true_and, and_true, and_assoc]
structure RecOK (r : Rec) : Prop where
  kind : inr .i64 r.kind
  seq : inr .i64 r.seq
  gen : inr .i64 r.gen
  count : inr .i64 r.count
  u : UpdOK r.u
  tick : inr .i64 r.tick
  epoch : inr .i64 r.epoch
theorem right_facts {r : Rec} (h : rightS r = true) : (0 ≤ r.seq ∧ r.seq ≤ 1152921504606846976) ∧ (r.kind = 1 ∧ 0 ≤ r.gen ∧ r.gen ≤ 1152921504606846976 ∧ 0 ≤ r.count ∧ r.count ≤ 32 ∨ r.kind = 2 ∧ 0 ≤ r.tick ∧ r.tick ≤ 1152921504606846976 ∧ updRight r.u = true ∨ r.kind = 3 ∧ 1 ≤ r.epoch ∧ r.epoch ≤ 1073741824) := by
  have hs : tickR r.seq = true := by
    unfold rightS at h
    rw [Bool.and_eq_true] at h
    exact h.1
  refine ⟨of_decide_eq_true hs, ?_⟩
  by_cases k1 : r.kind = 1
  · rw [right1 hs k1] at h
    simp only [tickR, Bool.and_eq_true, decide_eq_true_eq] at h
    exact .inl ⟨k1, h.1.1, h.1.2, h.2.1.1, h.2.1.2⟩
  by_cases k2 : r.kind = 2
  · rw [right2 hs k2] at h
    simp only [tickR, Bool.and_eq_true, decide_eq_true_eq] at h
    exact .inr (.inl ⟨k2, h.2.1.1, h.2.1.2, h.1⟩)
  by_cases k3 : r.kind = 3
  · rw [right3 hs k3] at h
    simp only [Bool.and_eq_true, decide_eq_true_eq] at h
    exact .inr (.inr ⟨k3, h.1.1, h.1.2⟩)
  · unfold rightS at h
    rw [if_neg k1, if_neg k2, if_neg k3, Bool.and_false] at h
    cases h
theorem body1 {r : Rec} (k : r.kind = 1) : bodyS r = numS r.gen ++ numS r.count := if_pos k
theorem body2 {r : Rec} (k : r.kind = 2) (hu : updRight r.u = true) : bodyS r = numS r.tick ++ uB r.u := by
  unfold bodyS uputS
  rw [if_neg (by omega), if_pos k, if_pos hu]
theorem body3 {r : Rec} (k : r.kind = 3) : bodyS r = numS r.epoch := by
  unfold bodyS
  rw [if_neg (by omega), if_neg (by omega)]
theorem body_len {r : Rec} (h : rightS r = true) : (bodyS r).length ≤ 88 := by
  obtain ⟨h0, h1 | h1 | h1⟩ := right_facts h
  · rw [body1 h1.1, List.length_append, numS_length, numS_length]; omega
  · have := updRight_facts h1.2.2.2
    rw [body2 h1.1 h1.2.2.2, List.length_append, numS_length, uB_len]; omega
  · rw [body3 h1.1, numS_length]; omega
theorem jput_eq {r : Rec} (h : rightS r = true) : putS r.kind r.seq (bodyS r) = (frameB (byteI r.kind) r.seq (bodyS r), 0) := by
  have hb := body_len h
  obtain ⟨h0, h1⟩ := right_facts h
  unfold putS
  rw [if_neg (by omega), if_neg (by omega)]
theorem jput_zero {r : Rec} (h : rightS r = true) : (putS r.kind r.seq (bodyS r)).2 = 0 := by rw [jput_eq h]
end VX

/- Reading records: plain Lean. -/
namespace VX
open Go
/-- The record that a frame's parts tell; the numbers read by f. -/
def jrec1 (k q : Int) (a b : Int) : Rec := ⟨k, q, a, b, default, 0, 0⟩
def jrec2 (k q : Int) (a : Int) (u : Upd) : Rec := ⟨k, q, 0, 0, u, a, 0⟩
def jrec3 (k q : Int) (a : Int) : Rec := ⟨k, q, 0, 0, default, 0, a⟩
def jrec0 (k q : Int) : Rec := ⟨k, q, 0, 0, default, 0, 0⟩
def jn1 (x : List UInt8) : Int × Rd := numR ⟨x, 0⟩
def jn2 (x : List UInt8) : Int × Rd := numR (jn1 x).2
def jrest (x : List UInt8) : List UInt8 × Rd := rawS (jn1 x).2 (jn1 x).2.l.length
def jrec (f : Int → Int) (k q : Int) (x : List UInt8) : Rec :=
  if k = 1 then jrec1 k q (f (jn1 x).1) (f (jn2 x).1)
  else if k = 2 then jrec2 k q (f (jn1 x).1) (ureadS (jrest x).1).1
  else if k = 3 then jrec3 k q (f (jn1 x).1)
  else jrec0 k q
def jback (b : List UInt8) (r : Rec) (n : Int) : Rec × Int × Int :=
  if (jputS r).2 ≠ 0 ∨ (jputS r).1 ≠ b.take n.toNat then (default, 0, 20) else (r, n, 0)
def jreadS (b : List UInt8) : Rec × Int × Int :=
  if (readS b).2.2.2.2 ≠ 0 then (default, 0, (readS b).2.2.2.2)
  else jback b (jrec nearT (readS b).1 (readS b).2.1 (readS b).2.2.1) (readS b).2.2.2.1
theorem i64_0 : inr .i64 0 := inr_i64.2 ⟨by decide, by decide⟩
theorem u64_0 : inr .u64 0 := inr_u64.2 ⟨by decide, by decide⟩
theorem upd0_ok : UpdOK (default : Upd) := ⟨i64_0, u64_0, i64_0, u64_0, u64_0⟩
theorem ureadS_ok (b : List UInt8) : UpdOK (ureadS b).1 := by
  have hL := urdLen b
  have hd : UpdOK (default : Upd) := upd0_ok
  unfold ureadS ureadF
  split
  · exact hd
  split
  · exact hd
  split
  · exact hd
  split
  · have n2 := inr_u64.1 hL.n2
    have n4 := inr_u64.1 hL.n4
    refine ⟨?_, hL.n3, ?_, hL.n5, hL.n6⟩
    · show inr .i64 (nearV (urd2 b).1)
      rw [inr_i64]; unfold nearV; split <;> omega
    · show inr .i64 (nearV (urd4 b).1)
      rw [inr_i64]; unfold nearV; split <;> omega
  · exact hd
structure FrOK (f : Fr) (b : List UInt8) : Prop where
  k : 1 ≤ f.1 ∧ f.1 ≤ 255
  q : 0 ≤ f.2.1 ∧ f.2.1 ≤ 9223372036854775807
  n : f.2.2.2.1 = ((21 + f.2.2.1.length : Nat) : Int)
  l : 21 + f.2.2.1.length ≤ b.length
theorem readS_ok {b : List UInt8} (h : (readS b).2.2.2.2 = 0) : FrOK (readS b) b := by
  unfold readS frE at h ⊢
  by_cases h1 : b.length < 13
  · rw [if_pos h1] at h; exact absurd h (by decide)
  rw [if_neg h1] at h ⊢
  by_cases h2 : 4096 < rdN b ∨ (rdK b).toNat = 0 ∨ 9223372036854775807 < rdQ b
  · rw [if_pos h2] at h; exact absurd h (by decide)
  rw [if_neg h2] at h ⊢
  by_cases h3 : b.length < 21 + rdN b
  · rw [if_pos h3] at h; exact absurd h (by decide)
  rw [if_neg h3] at h ⊢
  by_cases h4 : markS (rdK b) (rdQ b) ((b.drop 13).take (rdN b)) ≠ (b.drop (13 + rdN b)).take 8
  · rw [if_pos h4] at h; exact absurd h (by decide)
  rw [if_neg h4]
  have hk := UInt8.toNat_lt (rdK b)
  have hl : ((b.drop 13).take (rdN b)).length = rdN b := by rw [List.length_take, List.length_drop]; omega
  refine ⟨⟨?_, ?_⟩, ⟨?_, ?_⟩, ?_, ?_⟩
  · show (1 : Int) ≤ ((rdK b).toNat : Int); omega
  · show ((rdK b).toNat : Int) ≤ 255; omega
  · show (0 : Int) ≤ (rdQ b : Int); omega
  · show (rdQ b : Int) ≤ 9223372036854775807; omega
  · show ((21 + rdN b : Nat) : Int) = _; rw [hl]
  · show 21 + ((b.drop 13).take (rdN b)).length ≤ b.length; omega
theorem near_ok {n : Int} (h : inr .u64 n) : inr .i64 (nearT n) ∧ inr .i64 (intR n) := by
  rw [inr_u64] at h
  rw [inr_i64, inr_i64]
  unfold nearT intR
  constructor <;> split <;> omega
theorem jrec_ok {f : Int → Int} (hf : ∀ n, inr .u64 n → inr .i64 (f n)) {k q : Int} (hk : 1 ≤ k ∧ k ≤ 255) (hq : 0 ≤ q ∧ q ≤ 9223372036854775807) (x : List UInt8) : RecOK (jrec f k q x) := by
  have z := i64_0
  have hd : UpdOK (default : Upd) := upd0_ok
  have k9 : inr .i64 k := inr_i64.2 ⟨by omega, by omega⟩
  have q9 : inr .i64 q := inr_i64.2 ⟨by omega, by omega⟩
  have n1 := hf _ (show inr .u64 (jn1 x).1 from (numR_facts _).1)
  have n2 := hf _ (show inr .u64 (jn2 x).1 from (numR_facts _).1)
  unfold jrec jrec1 jrec2 jrec3 jrec0
  split
  · exact ⟨k9, q9, n1, n2, hd, z, z⟩
  split
  · exact ⟨k9, q9, z, z, ureadS_ok _, n1, z⟩
  split
  · exact ⟨k9, q9, z, z, hd, z, n1⟩
  · exact ⟨k9, q9, z, z, hd, z, z⟩
theorem rawS_all (r : Rd) (h : r.e ≠ 0 → r.l = []) : (rawS r r.l.length).1 = r.l := by
  unfold rawS
  by_cases he : r.e ≠ 0
  · rw [if_pos he, h he]
  rw [if_neg he]
  have hm : mx ((r.l.length : Nat) : Int) = r.l.length := by unfold mx; rw [if_neg (by omega)]; exact Int.toNat_natCast _
  rw [hm, if_neg (by omega)]
  exact List.take_length
theorem numR_err (x : List UInt8) : (numR ⟨x, 0⟩).2.e ≠ 0 → (numR ⟨x, 0⟩).2.l = [] := by
  intro h
  unfold numR rawS at h ⊢
  simp only at h ⊢
  rw [if_neg (by simp)] at h ⊢
  split at h
  · rename_i h1; rw [if_pos h1]
  · exact absurd rfl h
theorem jrest_eq (x : List UInt8) : (jrest x).1 = (jn1 x).2.l := rawS_all _ (numR_err x)
/-- What is put is read. -/
theorem jread_put {r : Rec} (hr : rightS r = true) (ho : RecOK r) (rest : List UInt8) : jreadS ((jputS r).1 ++ rest) = (r, (((jputS r).1.length : Nat) : Int), 0) := by
  have hb := body_len hr
  obtain ⟨h0, h1⟩ := right_facts hr
  have hj : jputS r = (frameB (byteI r.kind) r.seq (bodyS r), 0) := by unfold jputS; rw [if_pos hr, jput_eq hr]
  have hk : ((byteI r.kind).toNat : Int) = r.kind := by rw [byteI_nat]; omega
  have hk0 : (byteI r.kind).toNat ≠ 0 := by omega
  rw [hj]
  unfold jreadS
  rw [read_frame _ _ _ _ hk0 h0.1 (by omega) (by omega)]
  simp only [hk, ne_eq, not_true_eq_false, if_false]
  have hrec : jrec nearT r.kind r.seq (bodyS r) = r := by
    obtain ⟨kind, seq, gen, count, u, tick, epoch⟩ := r
    simp only at h0 h1 hb hk
    have hs : tickR seq = true := decide_eq_true h0
    rcases h1 with h1 | h1 | h1
    · have hz : u = default ∧ tick = 0 ∧ epoch = 0 := by
        rw [right1 hs h1.1] at hr
        simp only [Bool.and_eq_true, decide_eq_true_eq] at hr
        exact hr.2.2
      obtain ⟨rfl, rfl, rfl⟩ := hz
      have hk1 := h1.1
      subst hk1
      rw [show bodyS ⟨1, seq, gen, count, default, 0, 0⟩ = numS gen ++ (numS count ++ []) by rw [body1 rfl, List.append_nil]]
      show jrec1 1 seq (nearT (jn1 (numS gen ++ (numS count ++ []))).1) (nearT (jn2 (numS gen ++ (numS count ++ []))).1) = _
      have e1 : jn1 (numS gen ++ (numS count ++ [])) = (gen, ⟨numS count ++ [], 0⟩) := numR_app _ (inr_u64.2 ⟨by omega, by omega⟩) _
      unfold jn2
      rw [e1, numR_app _ (inr_u64.2 ⟨by omega, by omega⟩)]
      unfold jrec1 nearT
      simp only
      rw [if_neg (by omega), if_neg (by omega)]
    · have hz : gen = 0 ∧ count = 0 ∧ epoch = 0 := by
        rw [right2 hs h1.1] at hr
        simp only [Bool.and_eq_true, decide_eq_true_eq] at hr
        exact hr.2.2
      obtain ⟨rfl, rfl, rfl⟩ := hz
      obtain ⟨hk1, t0, t1, hu⟩ := h1
      subst hk1
      rw [show bodyS ⟨2, seq, 0, 0, u, tick, 0⟩ = numS tick ++ uB u from body2 rfl hu]
      show jrec2 2 seq (nearT (jn1 (numS tick ++ uB u)).1) (ureadS (jrest (numS tick ++ uB u)).1).1 = _
      have e1 : jn1 (numS tick ++ uB u) = (tick, ⟨uB u, 0⟩) := numR_app _ (inr_u64.2 ⟨by omega, by omega⟩) _
      rw [jrest_eq, e1]
      have hub : (ureadS (uB u)).1 = u := by
        obtain ⟨f1, f2, f3, f4, f5, f6, f7⟩ := updRight_facts hu
        have huo := ho.u
        have hsh : uB u = lumpS u.name ++ (numS u.ver ++ (numS u.key ++ (numS u.cls ++ (numS u.r ++ (numS u.s ++ []))))) := by simp [uB, fdB, sgB]
        have g1 : urd1 (uB u) = (u.name, ⟨numS u.ver ++ (numS u.key ++ (numS u.cls ++ (numS u.r ++ (numS u.s ++ [])))), 0⟩) := by
          rw [hsh]; exact lumpR_app u.name _ 32 f2 (by decide)
        have g2 : urd2 (uB u) = (u.ver, ⟨numS u.key ++ (numS u.cls ++ (numS u.r ++ (numS u.s ++ []))), 0⟩) := by
          unfold urd2; rw [g1]; exact numR_app _ (inr_u64.2 ⟨by omega, by omega⟩) _
        have g3 : urd3 (uB u) = (u.key, ⟨numS u.cls ++ (numS u.r ++ (numS u.s ++ [])), 0⟩) := by
          unfold urd3; rw [g2]; exact numR_app _ huo.key _
        have g4 : urd4 (uB u) = (u.cls, ⟨numS u.r ++ (numS u.s ++ []), 0⟩) := by
          unfold urd4; rw [g3]; exact numR_app _ (inr_u64.2 ⟨by omega, by omega⟩) _
        have g5 : urd5 (uB u) = (u.r, ⟨numS u.s ++ [], 0⟩) := by
          unfold urd5; rw [g4]; exact numR_app _ huo.r _
        have g6 : urd6 (uB u) = (u.s, ⟨[], 0⟩) := by
          unfold urd6; rw [g5]; exact numR_app _ huo.s _
        have hst : ustep nearV (uB u) = u := by
          unfold ustep
          rw [g1, g2, g3, g4, g5, g6]
          unfold nearV
          simp only
          rw [if_neg (by omega), if_neg (by omega)]
        have hlen := uB_len u
        unfold ureadS ureadF
        rw [if_neg (by omega), g6]
        simp only [ne_eq, not_true_eq_false, if_false, List.length_nil, Nat.lt_irrefl]
        rw [hst, if_pos hu]
      rw [hub]
      unfold jrec2 nearT
      simp only
      rw [if_neg (by omega)]
    · have hz : gen = 0 ∧ count = 0 ∧ u = default ∧ tick = 0 := by
        rw [right3 hs h1.1] at hr
        simp only [Bool.and_eq_true, decide_eq_true_eq] at hr
        exact hr.2
      obtain ⟨rfl, rfl, rfl, rfl⟩ := hz
      obtain ⟨hk1, t0, t1⟩ := h1
      subst hk1
      rw [show bodyS ⟨3, seq, 0, 0, default, 0, epoch⟩ = numS epoch ++ [] by rw [body3 rfl, List.append_nil]]
      show jrec3 3 seq (nearT (jn1 (numS epoch ++ [])).1) = _
      have e1 : jn1 (numS epoch ++ []) = (epoch, ⟨[], 0⟩) := numR_app _ (inr_u64.2 ⟨by omega, by omega⟩) _
      rw [e1]
      unfold jrec3 nearT
      simp only
      rw [if_neg (by omega)]
  rw [hrec]
  unfold jback
  rw [hj, frameB_len]
  rw [if_neg]
  rintro (h | h)
  · exact h rfl
  · apply h
    rw [Int.toNat_natCast, List.take_append_of_le_length (by rw [frameB_len]; exact Nat.le_refl _), List.take_of_length_le (by rw [frameB_len]; exact Nat.le_refl _)]
end VX

/- A journal's beginning: plain Lean. -/
namespace VX
open Go
abbrev baseR (gen seq : Int) (n : Nat) : Rec := ⟨1, seq, gen, (n : Int), ⟨[], 0, 0, 0, 0, 0⟩, 0, 0⟩
abbrev penR (seq : Int) (i : Nat) (p : Pen) : Rec := ⟨2, seq + 1 + (i : Int), 0, 0, p.u, p.tick, 0⟩
def bsP (gen seq : Int) (l : List Pen) : Nat → List UInt8
  | 0 => (jputS (baseR gen seq l.length)).1
  | i + 1 => bsP gen seq l i ++ (jputS (penR seq i (HP.at_ l i))).1
def bsOK (gen seq : Int) (l : List Pen) (n : Nat) : Prop := rightS (baseR gen seq l.length) = true ∧ ∀ j, j < n → rightS (penR seq j (HP.at_ l j)) = true
open Classical in
noncomputable def bseS (gen seq : Int) (l : List Pen) : List UInt8 := if bsOK gen seq l l.length then bsP gen seq l l.length else []
theorem base_facts {gen seq : Int} {n : Nat} (h : rightS (baseR gen seq n) = true) : (0 ≤ seq ∧ seq ≤ 1152921504606846976) ∧ 0 ≤ gen ∧ gen ≤ 1152921504606846976 ∧ n ≤ 32 := by
  obtain ⟨h0, h1 | h1 | h1⟩ := right_facts h
  · simp only at h0 h1; refine ⟨h0, ?_, ?_, ?_⟩ <;> omega
  · exact absurd h1.1 (by show ¬ (1 : Int) = 2; decide)
  · exact absurd h1.1 (by show ¬ (1 : Int) = 3; decide)
theorem base_ok {gen seq : Int} {n : Nat} (hg : inr .i64 gen) (hs : inr .i64 seq) (hn : n ≤ 1000000) : RecOK (baseR gen seq n) :=
  ⟨inr_i64.2 ⟨show (-9223372036854775808 : Int) ≤ 1 by decide, show (1 : Int) ≤ 9223372036854775807 by decide⟩, hs, hg, inr_i64.2 ⟨by show _ ≤ (n : Int); omega, by show (n : Int) ≤ _; omega⟩, upd0_ok, i64_0, i64_0⟩
theorem pen_ok {seq : Int} {i : Nat} {p : Pen} (hs : 0 ≤ seq ∧ seq ≤ 1152921504606846976) (hi : i ≤ 1000000) (hu : UpdOK p.u) (ht : inr .i64 p.tick) : RecOK (penR seq i p) :=
  ⟨inr_i64.2 ⟨show (-9223372036854775808 : Int) ≤ 2 by decide, show (2 : Int) ≤ 9223372036854775807 by decide⟩, inr_i64.2 ⟨by show _ ≤ seq + 1 + (i : Int); omega, by show seq + 1 + (i : Int) ≤ _; omega⟩, i64_0, i64_0, hu, ht, i64_0⟩
theorem jput_len (r : Rec) : (jputS r).1.length ≤ 109 := by
  unfold jputS
  split
  · rename_i h
    have := body_len h
    rw [jput_eq h, frameB_len]
    omega
  · exact Nat.zero_le _
theorem bsP_len (gen seq : Int) (l : List Pen) : ∀ i, (bsP gen seq l i).length ≤ 109 + 109 * i
  | 0 => jput_len _
  | i + 1 => by
    have h1 := bsP_len gen seq l i
    have h2 := jput_len (penR seq i (HP.at_ l i))
    rw [bsP, List.length_append]
    omega
theorem bse_no {gen seq : Int} {l : List Pen} (h : rightS (baseR gen seq l.length) = false) : bseS gen seq l = [] := by
  unfold bseS
  rw [if_neg]
  intro h1
  rw [h1.1] at h; cases h
theorem bse_pen {gen seq : Int} {l : List Pen} {i : Nat} (hi : i < l.length) (h : rightS (penR seq i (HP.at_ l i)) = false) : bseS gen seq l = [] := by
  unfold bseS
  rw [if_neg]
  intro h1
  rw [h1.2 i hi] at h; cases h
theorem bse_yes {gen seq : Int} {l : List Pen} (h0 : rightS (baseR gen seq l.length) = true) (h : ∀ j, j < l.length → rightS (penR seq j (HP.at_ l j)) = true) : bseS gen seq l = bsP gen seq l l.length := if_pos ⟨h0, h⟩
theorem pen_step {p : Nat → Prop} {i : Nat} (h : ∀ j, j < i → p j) (hi : p i) : ∀ j, j < i + 1 → p j := fun j hj => by
  rcases Nat.lt_succ_iff_lt_or_eq.1 hj with h1 | h1
  · exact h j h1
  · rw [h1]; exact hi
end VX

/- A journal that is laid anew: plain Lean. -/
namespace VX
open Go
theorem base_right {gen seq : Int} {n : Nat} (hs : 0 ≤ seq ∧ seq ≤ 65535) (hg : 0 ≤ gen ∧ gen ≤ 65535) (hn : n ≤ 32) : rightS (baseR gen seq n) = true := by
  have h1 : tickR seq = true := decide_eq_true (by omega)
  have h2 : tickR gen = true := decide_eq_true (by omega)
  rw [right1 h1 rfl]
  show (tickR gen && (decide (0 ≤ (n : Int) ∧ (n : Int) ≤ 32) && decide (_ ∧ _ ∧ _))) = true
  rw [h2, decide_eq_true (by omega), decide_eq_true ⟨rfl, rfl, rfl⟩]
  rfl
end VX

/- Records of few numbers, bent ones: plain Lean. -/
namespace VX
open Go
def sq16 (q : Int) : Int := bitsI .and .i64 q 65535
theorem sq16_bd (q : Int) : 0 ≤ sq16 q ∧ sq16 q ≤ 65535 := and_small q 65535 (by decide)
def someS (k a q : Int) (u : Upd) : Rec :=
  if k % 3 = 0 then ⟨1, sq16 q, a, a % 34, ⟨[], 0, 0, 0, 0, 0⟩, 0, 0⟩
  else if k % 3 = 1 then ⟨2, sq16 q, 0, 0, u, a, 0⟩
  else ⟨3, sq16 q, 0, 0, ⟨[], 0, 0, 0, 0, 0⟩, 0, a⟩
theorem i64_s {n : Int} (h : 0 ≤ n ∧ n ≤ 65535) : inr .i64 n := inr_i64.2 ⟨by omega, by omega⟩
theorem someS_ok {k a q : Int} {u : Upd} (hk : 0 ≤ k ∧ k ≤ 255) (ha : 0 ≤ a ∧ a ≤ 255) (hu : UpdOK u) : RecOK (someS k a q u) := by
  have hq := i64_s (sq16_bd q)
  have ha9 : inr .i64 a := i64_s (by omega)
  unfold someS
  split
  · exact ⟨i64_s (by show (0 : Int) ≤ 1 ∧ (1 : Int) ≤ 65535; decide), hq, ha9, i64_s (by show 0 ≤ a % 34 ∧ a % 34 ≤ 65535; omega), upd0_ok, i64_0, i64_0⟩
  split
  · exact ⟨i64_s (by show (0 : Int) ≤ 2 ∧ (2 : Int) ≤ 65535; decide), hq, i64_0, i64_0, hu, ha9, i64_0⟩
  · exact ⟨i64_s (by show (0 : Int) ≤ 3 ∧ (3 : Int) ≤ 65535; decide), hq, i64_0, i64_0, upd0_ok, i64_0, ha9⟩
def bentS (r : Rec) (w v : Int) : Rec :=
  if w % 8 = 0 then { r with kind := v } else if w % 8 = 1 then { r with seq := v } else if w % 8 = 2 then { r with gen := v } else if w % 8 = 3 then { r with count := v }
  else if w % 8 = 4 then { r with tick := v } else if w % 8 = 5 then { r with epoch := v } else if w % 8 = 6 then { r with u := { r.u with ver := v } } else { r with u := { r.u with name := [98] } }
theorem bentS_ok {r : Rec} {w v : Int} (h : RecOK r) (hv : inr .i64 v) : RecOK (bentS r w v) := by
  unfold bentS
  split
  · exact { h with kind := hv }
  split
  · exact { h with seq := hv }
  split
  · exact { h with gen := hv }
  split
  · exact { h with count := hv }
  split
  · exact { h with tick := hv }
  split
  · exact { h with epoch := hv }
  split
  · exact { h with u := { h.u with ver := hv } }
  · exact { h with u := ⟨h.u.ver, h.u.key, h.u.cls, h.u.r, h.u.s⟩ }
end VX
namespace VX
open Go
end VX
namespace VX
open Go
end VX

/- Keys and signatures of the reference: mirrors of its loops. -/
namespace VX
open Go
def modS (m : Int) : Int := if m = 2305843009213693950 then m else 2305843009213693951
theorem modS_bd (m : Int) : 2305843009213693950 ≤ modS m ∧ modS m ≤ 2305843009213693951 := by unfold modS; split <;> omega
theorem shrU1 {b : Int} (h : 0 ≤ b) : shrI .u64 b 1 = b / 2 := by
  unfold shrI
  rw [show (2 : Int) ^ (min (1 : Int).toNat IntKind.u64.bits) = 2 from rfl, Int.fdiv_eq_ediv_of_nonneg _ (by decide)]
def mulF (M : Int) : Nat → Int → Int → Int → Int
  | 0, _, _, o => o
  | n + 1, a, b, o => if 0 < b then mulF M n (IntKind.u64.wrap (a + a) % M) (shrI .u64 b 1) (if bitsI .and .u64 b 1 = 1 then IntKind.u64.wrap (o + a) % M else o) else o
theorem mod_bd (x : Int) {M : Int} (h : 0 < M) : 0 ≤ x % M ∧ x % M < M := ⟨Int.emod_nonneg _ (by omega), Int.emod_lt_of_pos _ h⟩
theorem mulF_bd {M : Int} (hM : 0 < M) : ∀ (n : Nat) (a b o : Int), 0 ≤ o ∧ o < M → 0 ≤ mulF M n a b o ∧ mulF M n a b o < M
  | 0, _, _, _, h => h
  | n + 1, a, b, o, h => by
    rw [mulF]
    split
    · refine mulF_bd hM n _ _ _ ?_
      split
      · exact mod_bd _ hM
      · exact h
    · exact h
def mulS (a b m : Int) : Int := mulF (modS m) 64 (a % modS m) (b % modS m) 0
theorem mulS_bd (a b m : Int) : 0 ≤ mulS a b m ∧ mulS a b m ≤ 2305843009213693951 := by
  have h := modS_bd m
  have := mulF_bd (M := modS m) (by omega) 64 (a % modS m) (b % modS m) 0 ⟨by omega, by omega⟩
  unfold mulS
  omega
theorem u64_of {x : Int} (h : 0 ≤ x ∧ x ≤ 2305843009213693951) : inr .u64 x := inr_u64.2 ⟨by omega, by omega⟩
def powF (M : Int) : Nat → Int → Int → Int → Int
  | 0, _, _, o => o
  | n + 1, a, b, o => if 0 < b then powF M n (mulS a a M) (shrI .u64 b 1) (if bitsI .and .u64 b 1 = 1 then mulS o a M else o) else o
theorem powF_bd {M : Int} : ∀ (n : Nat) (a b o : Int), 0 ≤ o ∧ o ≤ 2305843009213693951 → 0 ≤ powF M n a b o ∧ powF M n a b o ≤ 2305843009213693951
  | 0, _, _, _, h => h
  | n + 1, a, b, o, h => by
    rw [powF]
    split
    · refine powF_bd n _ _ _ ?_
      split
      · exact mulS_bd _ _ _
      · exact h
    · exact h
def powS (a n m : Int) : Int := powF (modS m) 64 (a % modS m) n (1 % modS m)
theorem powS_bd (a n m : Int) : 0 ≤ powS a n m ∧ powS a n m ≤ 2305843009213693951 := by
  have h := modS_bd m
  refine powF_bd _ _ _ _ ?_
  have := mod_bd 1 (M := modS m) (by omega)
  omega
def addS (a b m : Int) : Int := (a % modS m + b % modS m) % modS m
theorem addS_bd (a b m : Int) : 0 ≤ addS a b m ∧ addS a b m ≤ 2305843009213693951 := by
  have h := modS_bd m
  have := mod_bd (a % modS m + b % modS m) (M := modS m) (by omega)
  unfold addS
  omega
def numH (h : List UInt8) : Int := (leN (h.take 8) : Int) % 2305843009213693950
theorem numH_bd (h : List UInt8) : 0 ≤ numH h ∧ numH h ≤ 2305843009213693951 := by
  have := mod_bd (leN (h.take 8) : Int) (M := 2305843009213693950) (by decide)
  unfold numH
  omega
def pubS (s : Int) : Int := powS 7 (s % 2305843009213693950) 2305843009213693951
def ptS (r y : Int) (msg : List UInt8) : Int := numH (sumS (textS 101 [numS r, numS y, msg]))
def sgnK (s : Int) (msg : List UInt8) : Int := numH (sumS (textS 107 [numS (s % 2305843009213693950), msg]))
def sgnR (s : Int) (msg : List UInt8) : Int := powS 7 (sgnK s msg) 2305843009213693951
def sgnS (s : Int) (msg : List UInt8) : Int := addS (sgnK s msg) (mulS (s % 2305843009213693950) (ptS (sgnR s msg) (pubS (s % 2305843009213693950)) msg) 2305843009213693950) 2305843009213693950
def msgB (u : Upd) : List UInt8 := 85 :: fdB u.name u.ver u.key
def sgnU (s : Int) (u : Upd) : Upd := { u with r := sgnR s (msgB u), s := sgnS s (msgB u) }
end VX
namespace VX
open Go
/-- A secret of a name's version. -/
def secN (s : List UInt8) : Nat → Int
  | 0 => IntKind.u64.wrap (IntKind.u64.wrap (s.length : Int) * 1000003)
  | i + 1 => IntKind.u64.wrap (IntKind.u64.wrap (secN s i * 31) + IntKind.u64.wrap ((s.getD i 0).toNat : Int))
def sec1 (s : List UInt8) (v : Int) : Int := IntKind.u64.wrap (IntKind.u64.wrap (secN s s.length % 1000000007 + IntKind.u64.wrap (IntKind.u64.wrap v * 7919)) + 11)
def secS (s : List UInt8) (v : Int) (alt : Bool) : Int := if alt = true then IntKind.u64.wrap (sec1 s v + 500) else sec1 s v
theorem wrap_u64_inr (x : Int) : inr .u64 (IntKind.u64.wrap x) := by
  have := mod_bd x (M := 18446744073709551616) (by decide)
  rw [inr_u64, show IntKind.u64.wrap x = x % 18446744073709551616 from rfl]
  omega
theorem secN_ok (s : List UInt8) (i : Nat) : inr .u64 (secN s i) := by cases i <;> exact wrap_u64_inr _
theorem sec1_ok (s : List UInt8) (v : Int) : inr .u64 (sec1 s v) := wrap_u64_inr _
theorem secS_ok (s : List UInt8) (v : Int) (alt : Bool) : inr .u64 (secS s v alt) := by
  unfold secS
  split
  · exact wrap_u64_inr _
  · exact sec1_ok _ _
def keyS (s : List UInt8) (v : Int) (alt : Bool) : Int := pubS (secS s v alt)
theorem pubS_bd (s : Int) : 0 ≤ pubS s ∧ pubS s ≤ 2305843009213693951 := powS_bd _ _ _
theorem keyS_ok (s : List UInt8) (v : Int) (alt : Bool) : inr .u64 (keyS s v alt) := u64_of (pubS_bd _)
end VX
namespace VX
open Go
theorem sum8_len (l : List UInt8) : ((sumS l).take 8).length = 8 := by rw [List.length_take, sumS_length]; rfl
theorem pt_text (r y : Int) (msg : List UInt8) (h : msg.length ≤ 1000000) : (textS 101 [numS r, numS y, msg]).length ≤ 1000000000000 := by
  have := textS_bound 101 [numS r, numS y, msg] 1000000 (all3 (by rw [numS_length]; omega) (by rw [numS_length]; omega) h)
  exact Nat.le_trans this (by show 1 + 3 * (8 + 1000000) ≤ _; decide)
theorem k_text (r : Int) (msg : List UInt8) (h : msg.length ≤ 1000000) : (textS 107 [numS r, msg]).length ≤ 1000000000000 := by
  have := textS_bound 107 [numS r, msg] 1000000 (fun l hl => by
    rcases List.mem_cons.1 hl with rfl | hl
    · rw [numS_length]; omega
    · rw [List.mem_singleton.1 hl]; exact h)
  exact Nat.le_trans this (by show 1 + 2 * (8 + 1000000) ≤ _; decide)
theorem msgB_len (u : Upd) : (msgB u).length = 25 + u.name.length := by
  rw [msgB, List.length_cons, fdB_len]; omega
end VX
namespace VX
open Go
def mxv (v : Int) : Int := if v - 1 < 1 then 1 else v - 1
def byS (s : List UInt8) (v h : Int) : Int := if h % 8 = 5 then IntKind.u64.wrap (secS s (mxv v) (decide (h % 8 = 6 ∧ v = 1)) + 3) else secS s (mxv v) (decide (h % 8 = 6 ∧ v = 1))
theorem byS_ok (s : List UInt8) (v h : Int) : inr .u64 (byS s v h) := by
  unfold byS
  split
  · exact wrap_u64_inr _
  · exact secS_ok _ _ _
def upd1 (s : List UInt8) (v c h : Int) : Upd := sgnU (byS s v h) ⟨s, v, keyS s v (decide (h % 8 = 6)), c % 2, 0, 0⟩
def updN (s : List UInt8) (v c h : Int) : Upd := if h % 8 = 7 then { upd1 s v c h with cls := 5 } else upd1 s v c h
theorem sgnS_bd (x : Int) (m : List UInt8) : inr .u64 (sgnS x m) := u64_of (addS_bd _ _ _)
theorem sgnR_bd (x : Int) (m : List UInt8) : inr .u64 (sgnR x m) := u64_of (powS_bd _ _ _)
section
attribute [local irreducible] keyS sgnR sgnS byS
theorem updN_ok {s : List UInt8} {v c h : Int} (hv : 0 ≤ v ∧ v ≤ 2000000000) : UpdOK (updN s v c h) ∧ (updN s v c h).name = s ∧ (updN s v c h).ver = v := by
  have hc := mod_bd c (M := 2) (by decide)
  have hv9 : inr .i64 v := inr_i64.2 ⟨by omega, by omega⟩
  unfold updN
  split
  · exact ⟨⟨hv9, keyS_ok _ _ _, inr_i64.2 ⟨show (-9223372036854775808 : Int) ≤ 5 by decide, show (5 : Int) ≤ 9223372036854775807 by decide⟩, sgnR_bd _ _, sgnS_bd _ _⟩, rfl, rfl⟩
  · exact ⟨⟨hv9, keyS_ok _ _ _, inr_i64.2 ⟨show _ ≤ c % 2 by omega, show c % 2 ≤ _ by omega⟩, sgnR_bd _ _, sgnS_bd _ _⟩, rfl, rfl⟩
end
end VX

