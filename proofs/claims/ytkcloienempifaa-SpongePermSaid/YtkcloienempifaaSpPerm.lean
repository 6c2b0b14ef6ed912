/- The permutation maps unlike states to unlike states. -/
import Derived.Test.YtkcloienempifaaSpMore
set_option linter.unusedSimpArgs false
set_option linter.unusedVariables false
namespace VX
open Go
def bv (a : Int) : BitVec 64 := BitVec.ofInt 64 a
def iv64 (v : BitVec 64) : Int := (v.toNat : Int)
theorem bv_iv (v : BitVec 64) : bv (iv64 v) = v := by
  unfold bv iv64
  rw [BitVec.ofInt_natCast, BitVec.ofNat_toNat]
  exact BitVec.setWidth_eq v
theorem iv_lt (v : BitVec 64) : v.toNat < 18446744073709551616 := v.isLt
theorem iv_bv {a : Int} (h : inr .u64 a) : iv64 (bv a) = a := by
  rw [inr_u64] at h
  obtain ⟨n, rfl⟩ := Int.eq_ofNat_of_zero_le h.1
  show ((BitVec.ofInt 64 (n : Int)).toNat : Int) = n
  rw [BitVec.ofInt_natCast, BitVec.toNat_ofNat, Nat.mod_eq_of_lt (by omega)]
theorem iv_inj {v w : BitVec 64} (h : iv64 v = iv64 w) : v = w := by
  unfold iv64 at h
  exact BitVec.eq_of_toNat_eq (by omega)
theorem wrap_iv (v : BitVec 64) : IntKind.u64.wrap (v.toNat : Int) = iv64 v := wrap_u64_in (by omega) (by have := iv_lt v; omega)
theorem xr_bv (a b : Int) : xr a b = iv64 (bv a ^^^ bv b) := wrap_iv _
theorem an_bv (a b : Int) : an a b = iv64 (bv a &&& bv b) := wrap_iv _
theorem orr_bv (a b : Int) : orr a b = iv64 (bv a ||| bv b) := wrap_iv _
theorem ntw_bv (a : Int) : ntw a = iv64 (~~~ bv a) := by
  have h : ntw a = iv64 (bv 18446744073709551615 ^^^ bv a) := wrap_iv _
  have e : bv 18446744073709551615 = BitVec.allOnes 64 := by decide
  rw [h, e, BitVec.allOnes_xor]
theorem shr_bv (v : BitVec 64) (n : Nat) (h : n ≤ 64) : shr (iv64 v) n = iv64 (v >>> n) := by
  unfold shr shrI iv64
  rw [Int.toNat_natCast, show min n IntKind.u64.bits = n by simp [IntKind.bits]; omega, BitVec.toNat_ushiftRight, Nat.shiftRight_eq_div_pow]
  rw [Int.fdiv_eq_ediv_of_nonneg _ (Int.pow_nonneg (by omega))]
  simp
theorem shl_bv (v : BitVec 64) (n : Nat) (h : n ≤ 64) : shl (iv64 v) n = iv64 (v <<< n) := by
  unfold shl shlI iv64
  rw [Int.toNat_natCast, show min n IntKind.u64.bits = n by simp [IntKind.bits]; omega, BitVec.toNat_shiftLeft, Nat.shiftLeft_eq, wrap_u64]
  simp
theorem turn_bv (v : BitVec 64) (n : Nat) (h : n ≤ 64) : turn (iv64 v) n = iv64 (v >>> n ||| v <<< (64 - n)) := by
  unfold turn
  rw [show (64 : Int) - (n : Int) = ((64 - n : Nat) : Int) by omega, shr_bv v n h, shl_bv v (64 - n) (by omega), orr_bv, bv_iv, bv_iv]
theorem ror_bit (v : BitVec 64) (n i : Nat) (hn : 1 ≤ n ∧ n ≤ 63) : (v >>> n ||| v <<< (64 - n)).getLsbD (i % 64) = v.getLsbD ((i + n) % 64) := by
  have hi := Nat.mod_lt i (show 0 < 64 by omega)
  rw [BitVec.getLsbD_or, BitVec.getLsbD_ushiftRight, BitVec.getLsbD_shiftLeft]
  rw [show (i + n) % 64 = if i % 64 + n < 64 then n + i % 64 else i % 64 + n - 64 by split <;> omega]
  by_cases h : i % 64 + n < 64
  · rw [if_pos h]
    have : decide (i % 64 < 64 - n) = true := by simpa using (by omega : i % 64 < 64 - n)
    rw [this]; simp
  · rw [if_neg h]
    have h1 : decide (i % 64 < 64 - n) = false := by simpa using (by omega : 64 - n ≤ i % 64)
    have h2 : v.getLsbD (n + i % 64) = false := BitVec.getLsbD_of_ge _ _ (by omega)
    rw [h1, h2, show i % 64 - (64 - n) = i % 64 + n - 64 by omega]
    simp [hi]
def L3 (a b : Nat) (p : Nat → Bool) (i : Nat) : Bool := (p i ^^ p (i + a)) ^^ p (i + b)
theorem L3_two (a b : Nat) (p : Nat → Bool) (i : Nat) : L3 a b (L3 a b p) i = L3 (a + a) (b + b) p i := by
  unfold L3
  rw [show i + b + a = i + a + b by omega, show i + (a + a) = i + a + a by omega, show i + (b + b) = i + b + b by omega]
  cases p i <;> cases p (i + a) <;> cases p (i + b) <;> cases p (i + a + a) <;> cases p (i + a + b) <;> cases p (i + b + b) <;> rfl
theorem L3_step {a b : Nat} {p q : Nat → Bool} (h : L3 a b p = L3 a b q) : L3 (2 * a) (2 * b) p = L3 (2 * a) (2 * b) q := by
  funext i
  rw [show 2 * a = a + a by omega, show 2 * b = b + b by omega, ← L3_two, ← L3_two, h]
theorem L3_inj {a b : Nat} {p q : Nat → Bool} (hp : ∀ i k, p (i + 64 * k) = p i) (hq : ∀ i k, q (i + 64 * k) = q i) (h : L3 a b p = L3 a b q) : p = q := by
  have h := L3_step (L3_step (L3_step (L3_step (L3_step (L3_step h)))))
  funext i
  have hi := congrFun h i
  unfold L3 at hi
  have e : ∀ n : Nat, 2 * (2 * (2 * (2 * (2 * (2 * n))))) = 64 * n := fun n => by omega
  rw [e a, e b, hp, hp, hq, hq] at hi
  cases hpi : p i <;> cases hqi : q i <;> rw [hpi, hqi] at hi <;> first | rfl | exact absurd hi (by decide)
def bits (v : BitVec 64) (i : Nat) : Bool := v.getLsbD (i % 64)
theorem bits_per (v : BitVec 64) (i k : Nat) : bits v (i + 64 * k) = bits v i := by unfold bits; rw [Nat.add_mul_mod_self_left]
theorem bits_inj {v w : BitVec 64} (h : bits v = bits w) : v = w := by
  apply BitVec.eq_of_getLsbD_eq
  intro i hi
  have := congrFun h i
  unfold bits at this
  rwa [Nat.mod_eq_of_lt hi] at this
theorem turned_bv (v : BitVec 64) (a b : Nat) (ha : 1 ≤ a ∧ a ≤ 63) (hb : 1 ≤ b ∧ b ≤ 63) : turned (iv64 v) a b = iv64 ((v ^^^ (v >>> a ||| v <<< (64 - a))) ^^^ (v >>> b ||| v <<< (64 - b))) := by
  unfold turned
  rw [turn_bv v a (by omega), turn_bv v b (by omega), xr_bv, xr_bv, bv_iv, bv_iv, bv_iv, bv_iv]
theorem turned_inj {a b : Nat} (ha : 1 ≤ a ∧ a ≤ 63) (hb : 1 ≤ b ∧ b ≤ 63) {v w : BitVec 64} (h : turned (iv64 v) a b = turned (iv64 w) a b) : v = w := by
  rw [turned_bv v a b ha hb, turned_bv w a b ha hb] at h
  have h := iv_inj h
  refine bits_inj (L3_inj (a := a) (b := b) (bits_per v) (bits_per w) (funext fun i => ?_))
  have hi := congrArg (fun x : BitVec 64 => x.getLsbD (i % 64)) h
  simp only [BitVec.getLsbD_xor, ror_bit _ _ _ ha, ror_bit _ _ _ hb] at hi
  exact hi
/-- One bit of each word, in a round. -/
def chi (c s0 s1 s2 s3 s4 : Bool) : Bool × Bool × Bool × Bool × Bool :=
  let a0 := s0 ^^ s4
  let a2 := (s2 ^^ c) ^^ s1
  let a4 := s4 ^^ s3
  let t0 := a0 ^^ (!s1 && a2)
  let t1 := s1 ^^ (!a2 && s3)
  let t2 := a2 ^^ (!s3 && a4)
  let t3 := s3 ^^ (!a4 && a0)
  let t4 := a4 ^^ (!a0 && s1)
  (t0 ^^ t4, t1 ^^ t0, !t2, t3 ^^ t2, t4)
def allB (p : Bool → Bool) : Bool := p false && p true
theorem allB_at {p : Bool → Bool} (h : allB p = true) (b : Bool) : p b = true := by
  unfold allB at h
  rw [Bool.and_eq_true] at h
  cases b
  · exact h.1
  · exact h.2
theorem chi_all : (allB fun c => allB fun s0 => allB fun s1 => allB fun s2 => allB fun s3 => allB fun s4 => allB fun r0 => allB fun r1 => allB fun r2 => allB fun r3 => allB fun r4 =>
    !(chi c s0 s1 s2 s3 s4 == chi c r0 r1 r2 r3 r4) || (s0 == r0 && (s1 == r1 && (s2 == r2 && (s3 == r3 && s4 == r4))))) = true := by decide +kernel
theorem chi_inj (c s0 s1 s2 s3 s4 r0 r1 r2 r3 r4 : Bool) (h : chi c s0 s1 s2 s3 s4 = chi c r0 r1 r2 r3 r4) : s0 = r0 ∧ s1 = r1 ∧ s2 = r2 ∧ s3 = r3 ∧ s4 = r4 := by
  have k := allB_at (allB_at (allB_at (allB_at (allB_at (allB_at (allB_at (allB_at (allB_at (allB_at (allB_at chi_all c) s0) s1) s2) s3) s4) r0) r1) r2) r3) r4
  rw [h] at k
  simpa using k
structure St5 where
  a : BitVec 64
  b : BitVec 64
  c : BitVec 64
  d : BitVec 64
  e : BitVec 64
def chiV (c : BitVec 64) (s : St5) : St5 :=
  let a0 := s.a ^^^ s.e
  let a2 := (s.c ^^^ c) ^^^ s.b
  let a4 := s.e ^^^ s.d
  let t0 := a0 ^^^ (~~~ s.b &&& a2)
  let t1 := s.b ^^^ (~~~ a2 &&& s.d)
  let t2 := a2 ^^^ (~~~ s.d &&& a4)
  let t3 := s.d ^^^ (~~~ a4 &&& a0)
  let t4 := a4 ^^^ (~~~ a0 &&& s.b)
  ⟨t0 ^^^ t4, t1 ^^^ t0, ~~~ t2, t3 ^^^ t2, t4⟩
theorem chiV_inj {c : BitVec 64} {s r : St5} (h : chiV c s = chiV c r) : s.a = r.a ∧ s.b = r.b ∧ s.c = r.c ∧ s.d = r.d ∧ s.e = r.e := by
  have key : ∀ i, i < 64 → s.a.getLsbD i = r.a.getLsbD i ∧ s.b.getLsbD i = r.b.getLsbD i ∧ s.c.getLsbD i = r.c.getLsbD i ∧ s.d.getLsbD i = r.d.getLsbD i ∧ s.e.getLsbD i = r.e.getLsbD i := fun i hi => by
    apply chi_inj (c.getLsbD i)
    have h1 := congrArg (fun x : St5 => x.a.getLsbD i) h
    have h2 := congrArg (fun x : St5 => x.b.getLsbD i) h
    have h3 := congrArg (fun x : St5 => x.c.getLsbD i) h
    have h4 := congrArg (fun x : St5 => x.d.getLsbD i) h
    have h5 := congrArg (fun x : St5 => x.e.getLsbD i) h
    simp only [chiV, BitVec.getLsbD_xor, BitVec.getLsbD_and, BitVec.getLsbD_not, hi, decide_true, Bool.true_and] at h1 h2 h3 h4 h5
    simp only [chi, Prod.mk.injEq]
    exact ⟨h1, h2, h3, h4, h5⟩
  exact ⟨BitVec.eq_of_getLsbD_eq fun i hi => (key i hi).1, BitVec.eq_of_getLsbD_eq fun i hi => (key i hi).2.1, BitVec.eq_of_getLsbD_eq fun i hi => (key i hi).2.2.1, BitVec.eq_of_getLsbD_eq fun i hi => (key i hi).2.2.2.1, BitVec.eq_of_getLsbD_eq fun i hi => (key i hi).2.2.2.2⟩
def toV (s : Nat → Int) : St5 := ⟨bv (s 0), bv (s 1), bv (s 2), bv (s 3), bv (s 4)⟩
theorem rnd_bv (s : Nat → Int) (c : Int) : rnd s c 0 = turned (iv64 (chiV (bv c) (toV s)).a) 19 28 ∧ rnd s c 1 = turned (iv64 (chiV (bv c) (toV s)).b) 61 39 ∧ rnd s c 2 = turned (iv64 (chiV (bv c) (toV s)).c) 1 6 ∧
    rnd s c 3 = turned (iv64 (chiV (bv c) (toV s)).d) 10 17 ∧ rnd s c 4 = turned (iv64 (chiV (bv c) (toV s)).e) 7 41 := by
  simp only [rnd, chiV, toV, xr_bv, an_bv, ntw_bv, bv_iv, and_self]
theorem rnd_inj {s r : Nat → Int} {c : Int} (hs : ∀ i, i < 5 → inr .u64 (s i)) (hr : ∀ i, i < 5 → inr .u64 (r i)) (h : ∀ i, i < 5 → rnd s c i = rnd r c i) : ∀ i, i < 5 → s i = r i := by
  obtain ⟨a0, a1, a2, a3, a4⟩ := rnd_bv s c
  obtain ⟨b0, b1, b2, b3, b4⟩ := rnd_bv r c
  have h0 := h 0 (by omega)
  have h1 := h 1 (by omega)
  have h2 := h 2 (by omega)
  have h3 := h 3 (by omega)
  have h4 := h 4 (by omega)
  rw [a0, b0] at h0
  rw [a1, b1] at h1
  rw [a2, b2] at h2
  rw [a3, b3] at h3
  rw [a4, b4] at h4
  have k0 := turned_inj (a := 19) (b := 28) (by omega) (by omega) h0
  have k1 := turned_inj (a := 61) (b := 39) (by omega) (by omega) h1
  have k2 := turned_inj (a := 1) (b := 6) (by omega) (by omega) h2
  have k3 := turned_inj (a := 10) (b := 17) (by omega) (by omega) h3
  have k4 := turned_inj (a := 7) (b := 41) (by omega) (by omega) h4
  have hc : chiV (bv c) (toV s) = chiV (bv c) (toV r) := by
    cases e1 : chiV (bv c) (toV s)
    cases e2 : chiV (bv c) (toV r)
    rw [e1, e2] at k0 k1 k2 k3 k4
    simp only at k0 k1 k2 k3 k4
    rw [k0, k1, k2, k3, k4]
  obtain ⟨m0, m1, m2, m3, m4⟩ := chiV_inj hc
  have back : ∀ i, i < 5 → bv (s i) = bv (r i) → s i = r i := fun i hi e => by
    rw [← iv_bv (hs i hi), ← iv_bv (hr i hi), e]
  intro i hi
  match i, hi with
  | 0, _ => exact back 0 (by omega) m0
  | 1, _ => exact back 1 (by omega) m1
  | 2, _ => exact back 2 (by omega) m2
  | 3, _ => exact back 3 (by omega) m3
  | 4, _ => exact back 4 (by omega) m4
theorem permN_inr {s : Nat → Int} (hs : ∀ i, i < 5 → inr .u64 (s i)) (n : Nat) (i : Nat) (hi : i < 5) : inr .u64 (permN n s i) := by
  cases n with
  | zero => exact hs i hi
  | succ n => exact inr_rnd _ _ _
theorem permN_inj {s r : Nat → Int} (hs : ∀ i, i < 5 → inr .u64 (s i)) (hr : ∀ i, i < 5 → inr .u64 (r i)) : ∀ n, (∀ i, i < 5 → permN n s i = permN n r i) → ∀ i, i < 5 → s i = r i
  | 0, h => h
  | n + 1, h => permN_inj hs hr n (rnd_inj (permN_inr hs n) (permN_inr hr n) h)
theorem rnd_congr {s r : Nat → Int} (c : Int) (h : ∀ i, i < 5 → s i = r i) : rnd s c = rnd r c := by
  unfold rnd
  rw [h 0 (by omega), h 1 (by omega), h 2 (by omega), h 3 (by omega), h 4 (by omega)]
theorem permN_congr {s r : Nat → Int} (h : ∀ i, i < 5 → s i = r i) : ∀ n, ∀ i, i < 5 → permN n s i = permN n r i
  | 0 => h
  | n + 1 => fun i hi => by rw [permN, permN, rnd_congr _ (permN_congr h n)]
theorem perm_iff {s r : Nat → Int} (hs : ∀ i, i < 5 → inr .u64 (s i)) (hr : ∀ i, i < 5 → inr .u64 (r i)) : (∀ i, i < 5 → perm s i = perm r i) ↔ ∀ i, i < 5 → s i = r i :=
  ⟨permN_inj hs hr 12, fun h => permN_congr h 12⟩
theorem xr_zero {a x : Int} (ha : inr .u64 a) (hx : inr .u64 x) : a = xr a x ↔ x = 0 := by
  rw [xr_bv]
  constructor
  · intro h
    rw [← iv_bv ha, bv_iv] at h
    have h := iv_inj h
    have h0 : bv x = 0#64 := by
      have := congrArg (fun v => bv a ^^^ v) h
      simp only [BitVec.xor_self] at this
      rw [← BitVec.xor_assoc, BitVec.xor_self, BitVec.zero_xor] at this
      exact this.symm
    rw [← iv_bv hx, h0]; rfl
  · rintro rfl
    have : bv 0 = 0#64 := by decide
    rw [this, BitVec.xor_zero, iv_bv ha]
end VX
