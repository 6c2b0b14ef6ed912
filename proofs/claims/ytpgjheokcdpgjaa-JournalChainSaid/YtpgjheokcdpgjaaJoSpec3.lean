/- Reading records: plain Lean. -/
import Derived.Test.YtpgjheokcdpgjaaJoSpec2
set_option linter.unusedSimpArgs false
set_option linter.unusedVariables false
namespace VX
open Go
/-- The record that a frame's parts tell; the numbers read by f. -/
def jrec1 (k q : Int) (a b : Int) : Rec := ⟨k, q, a, b, default, 0, 0⟩
def jrec2 (k q : Int) (a : Int) (u : Upd) : Rec := ⟨k, q, 0, 0, u, a, 0⟩
def jrec3 (k q : Int) (a : Int) : Rec := ⟨k, q, 0, 0, default, 0, a⟩
def jrec0 (k q : Int) : Rec := ⟨k, q, 0, 0, default, 0, 0⟩
def jn1 (x : List UInt8) : Int × Rd := numR ⟨x, 0⟩
def jn2 (x : List UInt8) : Int × Rd := numR (jn1 x).2
def jrest (x : List UInt8) : List UInt8 × Rd := rawS (jn1 x).2 (jn1 x).2.l.length
def jrec (f : Int → Int) (k q : Int) (x : List UInt8) : Rec :=
  if k = 1 then jrec1 k q (f (jn1 x).1) (f (jn2 x).1)
  else if k = 2 then jrec2 k q (f (jn1 x).1) (ureadS (jrest x).1).1
  else if k = 3 then jrec3 k q (f (jn1 x).1)
  else jrec0 k q
def jback (b : List UInt8) (r : Rec) (n : Int) : Rec × Int × Int :=
  if (jputS r).2 ≠ 0 ∨ (jputS r).1 ≠ b.take n.toNat then (default, 0, 20) else (r, n, 0)
def jreadS (b : List UInt8) : Rec × Int × Int :=
  if (readS b).2.2.2.2 ≠ 0 then (default, 0, (readS b).2.2.2.2)
  else jback b (jrec nearT (readS b).1 (readS b).2.1 (readS b).2.2.1) (readS b).2.2.2.1
theorem i64_0 : inr .i64 0 := inr_i64.2 ⟨by decide, by decide⟩
theorem u64_0 : inr .u64 0 := inr_u64.2 ⟨by decide, by decide⟩
theorem upd0_ok : UpdOK (default : Upd) := ⟨i64_0, u64_0, i64_0, u64_0, u64_0⟩
theorem ureadS_ok (b : List UInt8) : UpdOK (ureadS b).1 := by
  have hL := urdLen b
  have hd : UpdOK (default : Upd) := upd0_ok
  unfold ureadS ureadF
  split
  · exact hd
  split
  · exact hd
  split
  · exact hd
  split
  · have n2 := inr_u64.1 hL.n2
    have n4 := inr_u64.1 hL.n4
    refine ⟨?_, hL.n3, ?_, hL.n5, hL.n6⟩
    · show inr .i64 (nearV (urd2 b).1)
      rw [inr_i64]; unfold nearV; split <;> omega
    · show inr .i64 (nearV (urd4 b).1)
      rw [inr_i64]; unfold nearV; split <;> omega
  · exact hd
structure FrOK (f : Fr) (b : List UInt8) : Prop where
  k : 1 ≤ f.1 ∧ f.1 ≤ 255
  q : 0 ≤ f.2.1 ∧ f.2.1 ≤ 9223372036854775807
  n : f.2.2.2.1 = ((21 + f.2.2.1.length : Nat) : Int)
  l : 21 + f.2.2.1.length ≤ b.length
theorem readS_ok {b : List UInt8} (h : (readS b).2.2.2.2 = 0) : FrOK (readS b) b := by
  unfold readS frE at h ⊢
  by_cases h1 : b.length < 13
  · rw [if_pos h1] at h; exact absurd h (by decide)
  rw [if_neg h1] at h ⊢
  by_cases h2 : 4096 < rdN b ∨ (rdK b).toNat = 0 ∨ 9223372036854775807 < rdQ b
  · rw [if_pos h2] at h; exact absurd h (by decide)
  rw [if_neg h2] at h ⊢
  by_cases h3 : b.length < 21 + rdN b
  · rw [if_pos h3] at h; exact absurd h (by decide)
  rw [if_neg h3] at h ⊢
  by_cases h4 : markS (rdK b) (rdQ b) ((b.drop 13).take (rdN b)) ≠ (b.drop (13 + rdN b)).take 8
  · rw [if_pos h4] at h; exact absurd h (by decide)
  rw [if_neg h4]
  have hk := UInt8.toNat_lt (rdK b)
  have hl : ((b.drop 13).take (rdN b)).length = rdN b := by rw [List.length_take, List.length_drop]; omega
  refine ⟨⟨?_, ?_⟩, ⟨?_, ?_⟩, ?_, ?_⟩
  · show (1 : Int) ≤ ((rdK b).toNat : Int); omega
  · show ((rdK b).toNat : Int) ≤ 255; omega
  · show (0 : Int) ≤ (rdQ b : Int); omega
  · show (rdQ b : Int) ≤ 9223372036854775807; omega
  · show ((21 + rdN b : Nat) : Int) = _; rw [hl]
  · show 21 + ((b.drop 13).take (rdN b)).length ≤ b.length; omega
theorem near_ok {n : Int} (h : inr .u64 n) : inr .i64 (nearT n) ∧ inr .i64 (intR n) := by
  rw [inr_u64] at h
  rw [inr_i64, inr_i64]
  unfold nearT intR
  constructor <;> split <;> omega
theorem jrec_ok {f : Int → Int} (hf : ∀ n, inr .u64 n → inr .i64 (f n)) {k q : Int} (hk : 1 ≤ k ∧ k ≤ 255) (hq : 0 ≤ q ∧ q ≤ 9223372036854775807) (x : List UInt8) : RecOK (jrec f k q x) := by
  have z := i64_0
  have hd : UpdOK (default : Upd) := upd0_ok
  have k9 : inr .i64 k := inr_i64.2 ⟨by omega, by omega⟩
  have q9 : inr .i64 q := inr_i64.2 ⟨by omega, by omega⟩
  have n1 := hf _ (show inr .u64 (jn1 x).1 from (numR_facts _).1)
  have n2 := hf _ (show inr .u64 (jn2 x).1 from (numR_facts _).1)
  unfold jrec jrec1 jrec2 jrec3 jrec0
  split
  · exact ⟨k9, q9, n1, n2, hd, z, z⟩
  split
  · exact ⟨k9, q9, z, z, ureadS_ok _, n1, z⟩
  split
  · exact ⟨k9, q9, z, z, hd, z, n1⟩
  · exact ⟨k9, q9, z, z, hd, z, z⟩
theorem rawS_all (r : Rd) (h : r.e ≠ 0 → r.l = []) : (rawS r r.l.length).1 = r.l := by
  unfold rawS
  by_cases he : r.e ≠ 0
  · rw [if_pos he, h he]
  rw [if_neg he]
  have hm : mx ((r.l.length : Nat) : Int) = r.l.length := by unfold mx; rw [if_neg (by omega)]; exact Int.toNat_natCast _
  rw [hm, if_neg (by omega)]
  exact List.take_length
theorem numR_err (x : List UInt8) : (numR ⟨x, 0⟩).2.e ≠ 0 → (numR ⟨x, 0⟩).2.l = [] := by
  intro h
  unfold numR rawS at h ⊢
  simp only at h ⊢
  rw [if_neg (by simp)] at h ⊢
  split at h
  · rename_i h1; rw [if_pos h1]
  · exact absurd rfl h
theorem jrest_eq (x : List UInt8) : (jrest x).1 = (jn1 x).2.l := rawS_all _ (numR_err x)
/-- What is put is read. -/
theorem jread_put {r : Rec} (hr : rightS r = true) (ho : RecOK r) (rest : List UInt8) : jreadS ((jputS r).1 ++ rest) = (r, (((jputS r).1.length : Nat) : Int), 0) := by
  have hb := body_len hr
  obtain ⟨h0, h1⟩ := right_facts hr
  have hj : jputS r = (frameB (byteI r.kind) r.seq (bodyS r), 0) := by unfold jputS; rw [if_pos hr, jput_eq hr]
  have hk : ((byteI r.kind).toNat : Int) = r.kind := by rw [byteI_nat]; omega
  have hk0 : (byteI r.kind).toNat ≠ 0 := by omega
  rw [hj]
  unfold jreadS
  rw [read_frame _ _ _ _ hk0 h0.1 (by omega) (by omega)]
  simp only [hk, ne_eq, not_true_eq_false, if_false]
  have hrec : jrec nearT r.kind r.seq (bodyS r) = r := by
    obtain ⟨kind, seq, gen, count, u, tick, epoch⟩ := r
    simp only at h0 h1 hb hk
    have hs : tickR seq = true := decide_eq_true h0
    rcases h1 with h1 | h1 | h1
    · have hz : u = default ∧ tick = 0 ∧ epoch = 0 := by
        rw [right1 hs h1.1] at hr
        simp only [Bool.and_eq_true, decide_eq_true_eq] at hr
        exact hr.2.2
      obtain ⟨rfl, rfl, rfl⟩ := hz
      have hk1 := h1.1
      subst hk1
      rw [show bodyS ⟨1, seq, gen, count, default, 0, 0⟩ = numS gen ++ (numS count ++ []) by rw [body1 rfl, List.append_nil]]
      show jrec1 1 seq (nearT (jn1 (numS gen ++ (numS count ++ []))).1) (nearT (jn2 (numS gen ++ (numS count ++ []))).1) = _
      have e1 : jn1 (numS gen ++ (numS count ++ [])) = (gen, ⟨numS count ++ [], 0⟩) := numR_app _ (inr_u64.2 ⟨by omega, by omega⟩) _
      unfold jn2
      rw [e1, numR_app _ (inr_u64.2 ⟨by omega, by omega⟩)]
      unfold jrec1 nearT
      simp only
      rw [if_neg (by omega), if_neg (by omega)]
    · have hz : gen = 0 ∧ count = 0 ∧ epoch = 0 := by
        rw [right2 hs h1.1] at hr
        simp only [Bool.and_eq_true, decide_eq_true_eq] at hr
        exact hr.2.2
      obtain ⟨rfl, rfl, rfl⟩ := hz
      obtain ⟨hk1, t0, t1, hu⟩ := h1
      subst hk1
      rw [show bodyS ⟨2, seq, 0, 0, u, tick, 0⟩ = numS tick ++ uB u from body2 rfl hu]
      show jrec2 2 seq (nearT (jn1 (numS tick ++ uB u)).1) (ureadS (jrest (numS tick ++ uB u)).1).1 = _
      have e1 : jn1 (numS tick ++ uB u) = (tick, ⟨uB u, 0⟩) := numR_app _ (inr_u64.2 ⟨by omega, by omega⟩) _
      rw [jrest_eq, e1]
      have hub : (ureadS (uB u)).1 = u := by
        obtain ⟨f1, f2, f3, f4, f5, f6, f7⟩ := updRight_facts hu
        have huo := ho.u
        have hsh : uB u = lumpS u.name ++ (numS u.ver ++ (numS u.key ++ (numS u.cls ++ (numS u.r ++ (numS u.s ++ []))))) := by simp [uB, fdB, sgB]
        have g1 : urd1 (uB u) = (u.name, ⟨numS u.ver ++ (numS u.key ++ (numS u.cls ++ (numS u.r ++ (numS u.s ++ [])))), 0⟩) := by
          rw [hsh]; exact lumpR_app u.name _ 32 f2 (by decide)
        have g2 : urd2 (uB u) = (u.ver, ⟨numS u.key ++ (numS u.cls ++ (numS u.r ++ (numS u.s ++ []))), 0⟩) := by
          unfold urd2; rw [g1]; exact numR_app _ (inr_u64.2 ⟨by omega, by omega⟩) _
        have g3 : urd3 (uB u) = (u.key, ⟨numS u.cls ++ (numS u.r ++ (numS u.s ++ [])), 0⟩) := by
          unfold urd3; rw [g2]; exact numR_app _ huo.key _
        have g4 : urd4 (uB u) = (u.cls, ⟨numS u.r ++ (numS u.s ++ []), 0⟩) := by
          unfold urd4; rw [g3]; exact numR_app _ (inr_u64.2 ⟨by omega, by omega⟩) _
        have g5 : urd5 (uB u) = (u.r, ⟨numS u.s ++ [], 0⟩) := by
          unfold urd5; rw [g4]; exact numR_app _ huo.r _
        have g6 : urd6 (uB u) = (u.s, ⟨[], 0⟩) := by
          unfold urd6; rw [g5]; exact numR_app _ huo.s _
        have hst : ustep nearV (uB u) = u := by
          unfold ustep
          rw [g1, g2, g3, g4, g5, g6]
          unfold nearV
          simp only
          rw [if_neg (by omega), if_neg (by omega)]
        have hlen := uB_len u
        unfold ureadS ureadF
        rw [if_neg (by omega), g6]
        simp only [ne_eq, not_true_eq_false, if_false, List.length_nil, Nat.lt_irrefl]
        rw [hst, if_pos hu]
      rw [hub]
      unfold jrec2 nearT
      simp only
      rw [if_neg (by omega)]
    · have hz : gen = 0 ∧ count = 0 ∧ u = default ∧ tick = 0 := by
        rw [right3 hs h1.1] at hr
        simp only [Bool.and_eq_true, decide_eq_true_eq] at hr
        exact hr.2
      obtain ⟨rfl, rfl, rfl, rfl⟩ := hz
      obtain ⟨hk1, t0, t1⟩ := h1
      subst hk1
      rw [show bodyS ⟨3, seq, 0, 0, default, 0, epoch⟩ = numS epoch ++ [] by rw [body3 rfl, List.append_nil]]
      show jrec3 3 seq (nearT (jn1 (numS epoch ++ [])).1) = _
      have e1 : jn1 (numS epoch ++ []) = (epoch, ⟨[], 0⟩) := numR_app _ (inr_u64.2 ⟨by omega, by omega⟩) _
      rw [e1]
      unfold jrec3 nearT
      simp only
      rw [if_neg (by omega)]
  rw [hrec]
  unfold jback
  rw [hj, frameB_len]
  rw [if_neg]
  rintro (h | h)
  · exact h rfl
  · apply h
    rw [Int.toNat_natCast, List.take_append_of_le_length (by rw [frameB_len]; exact Nat.le_refl _), List.take_of_length_le (by rw [frameB_len]; exact Nat.le_refl _)]
end VX
