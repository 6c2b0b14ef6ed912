/- Logs that grow, in plain Lean: the check from the bottom tells the same as the one from the top. -/
import Derived.Test.YtfgpiobnmddmhaaGrSpec2
set_option linter.unusedSimpArgs false
set_option linter.unusedVariables false
namespace VX
open Go
theorem ones_A : ∀ (K j f r : Nat) (l : List Bool), f < 2 ^ j → r < 2 ^ j → Dirs (onesP K f (2 ^ j - 1)).1 (onesP K f (2 ^ j - 1)).2 l → Dirs (onesP K f (2 ^ j + r)).1 (onesP K f (2 ^ j + r)).2 (l ++ [false])
  | 0, j, f, r, l, hf, hr, h => dirs_A j f r l hf hr h
  | K + 1, j, f, r, l, hf, hr, h => by
    rw [onesP] at h ⊢
    by_cases ho : f % 2 = 1
    · rw [if_pos ho] at h ⊢
      obtain ⟨i, rfl⟩ : ∃ i, j = i + 1 := ⟨j - 1, by have : j ≠ 0 := (fun e => by subst e; simp at hf; omega); omega⟩
      have hd : (2 : Nat) ^ (i + 1) = 2 * 2 ^ i := by rw [Nat.pow_succ, Nat.mul_comm]
      rw [show (2 ^ (i + 1) + r) / 2 = 2 ^ i + r / 2 by omega]
      rw [show (2 ^ (i + 1) - 1) / 2 = 2 ^ i - 1 by omega] at h
      exact ones_A K i (f / 2) (r / 2) l (by omega) (by omega) h
    · rw [if_neg ho] at h ⊢
      exact dirs_A j f r l hf hr h
theorem ones_B : ∀ (K j f s : Nat) (l : List Bool), f < s → s < 2 ^ j → Dirs (onesP K f s).1 (onesP K f s).2 l → Dirs (onesP K (2 ^ j + f) (2 ^ j + s)).1 (onesP K (2 ^ j + f) (2 ^ j + s)).2 (l ++ [true])
  | 0, j, f, s, l, hf, hs, h => dirs_B j j f s l (Nat.le_refl _) (by omega) hs h
  | K + 1, j, f, s, l, hf, hs, h => by
    obtain ⟨i, rfl⟩ : ∃ i, j = i + 1 := ⟨j - 1, by have : j ≠ 0 := (fun e => by subst e; simp at hs; omega); omega⟩
    have hd : (2 : Nat) ^ (i + 1) = 2 * 2 ^ i := by rw [Nat.pow_succ, Nat.mul_comm]
    rw [onesP] at h ⊢
    by_cases ho : f % 2 = 1
    · rw [if_pos ho] at h
      rw [if_pos (by omega), show (2 ^ (i + 1) + f) / 2 = 2 ^ i + f / 2 by omega, show (2 ^ (i + 1) + s) / 2 = 2 ^ i + s / 2 by omega]
      exact ones_B K i (f / 2) (s / 2) l (by omega) (by omega) h
    · rw [if_neg ho] at h
      rw [if_neg (by omega)]
      exact dirs_B (i + 1) (i + 1) f s l (Nat.le_refl _) (by omega) hs h
theorem ones_full : ∀ (K j : Nat), 2 ^ j ≤ K + 1 → onesP K (2 ^ j - 1) (2 ^ j - 1) = (0, 0)
  | 0, j, h => by
    have hp : 0 < (2 : Nat) ^ j := Nat.pow_pos (by decide)
    have : (2 : Nat) ^ j - 1 = 0 := by omega
    rw [this]; rfl
  | K + 1, 0, h => by rw [onesP]; rfl
  | K + 1, j + 1, h => by
    have hd : (2 : Nat) ^ (j + 1) = 2 * 2 ^ j := by rw [Nat.pow_succ, Nat.mul_comm]
    have hp : 0 < (2 : Nat) ^ j := Nat.pow_pos (by decide)
    rw [onesP, if_pos (by omega), show (2 ^ (j + 1) - 1) / 2 = 2 ^ j - 1 by omega]
    exact ones_full K j (by omega)
theorem splitS_pow {n : Nat} (h : 2 ≤ n) : ∃ j, splitS n = 2 ^ j := ⟨_, if_neg (by omega)⟩
theorem dirs_ones : ∀ (n m K : Nat), 1 ≤ m → m < n → m ≤ K + 1 → Dirs (onesP K (m - 1) (n - 1)).1 (onesP K (m - 1) (n - 1)).2 (dS m n) := by
  intro n
  induction n using Nat.strongRecOn with
  | _ n IH =>
  intro m K h1 h2 hK
  have k := splitS_facts (n := n) (by omega)
  obtain ⟨j, hj⟩ := splitS_pow (n := n) (by omega)
  by_cases hm : m ≤ splitS n
  · rw [dS_left h1 h2 hm]
    have e : n - 1 = 2 ^ j + (n - 1 - 2 ^ j) := by omega
    rw [e]
    refine ones_A K j (m - 1) _ _ (by omega) (by omega) ?_
    rw [hj] at hm ⊢
    by_cases hq : m = 2 ^ j
    · rw [hq, dS_same, ones_full K j (by omega)]
      exact .nil
    · exact IH (2 ^ j) (by omega) m K h1 (by omega) hK
  · rw [dS_right h2 hm]
    have ih := IH (n - splitS n) (by omega) (m - splitS n) K (by omega) (by omega) (by omega)
    rw [hj] at ih hm k ⊢
    rw [show m - 1 = 2 ^ j + (m - 2 ^ j - 1) by omega, show n - 1 = 2 ^ j + (n - 2 ^ j - 1) by omega]
    exact ones_B K j _ _ _ (by omega) (by omega) ih
/-! ### powers of two -/
def pow2 (m : Nat) : Bool := decide (m &&& (m - 1) = 0)
theorem and_dbl (a b : Nat) : (2 * a) &&& (2 * b + 1) = 2 * (a &&& b) := by
  apply Nat.eq_of_testBit_eq
  intro i
  cases i with
  | zero => simp [Nat.testBit_and, Nat.testBit_zero]
  | succ i => rw [Nat.testBit_and, Nat.testBit_succ, Nat.testBit_succ, Nat.testBit_succ, show 2 * a / 2 = a by omega, show (2 * b + 1) / 2 = b by omega, show 2 * (a &&& b) / 2 = a &&& b by omega, Nat.testBit_and]
theorem and_odd (a : Nat) : (2 * a + 1) &&& (2 * a) = 2 * a := by
  apply Nat.eq_of_testBit_eq
  intro i
  cases i with
  | zero => simp [Nat.testBit_and, Nat.testBit_zero]
  | succ i => rw [Nat.testBit_and, Nat.testBit_succ, Nat.testBit_succ, show 2 * a / 2 = a by omega, show (2 * a + 1) / 2 = a by omega, Bool.and_self]
theorem pow2_iff : ∀ (c m : Nat), m ≤ c → 1 ≤ m → (pow2 m = true ↔ ∃ i, m = 2 ^ i)
  | 0, m, h, h1 => by omega
  | c + 1, m, h, h1 => by
    unfold pow2
    rw [decide_eq_true_iff]
    by_cases ho : m % 2 = 1
    · obtain ⟨a, rfl⟩ : ∃ a, m = 2 * a + 1 := ⟨m / 2, by omega⟩
      rw [Nat.add_sub_cancel, and_odd]
      constructor
      · intro h; exact ⟨0, by simp; omega⟩
      · rintro ⟨i, hi⟩
        cases i with
        | zero => simp at hi; omega
        | succ i => rw [Nat.pow_succ] at hi; omega
    · obtain ⟨a, rfl⟩ : ∃ a, m = 2 * a := ⟨m / 2, by omega⟩
      have ih := pow2_iff c a (by omega) (by omega)
      unfold pow2 at ih
      rw [decide_eq_true_iff] at ih
      rw [show 2 * a - 1 = 2 * (a - 1) + 1 by omega, and_dbl]
      constructor
      · intro h
        obtain ⟨i, hi⟩ := ih.1 (by omega)
        exact ⟨i + 1, by rw [Nat.pow_succ]; omega⟩
      · rintro ⟨i, hi⟩
        cases i with
        | zero => simp at hi; omega
        | succ i =>
          rw [Nat.pow_succ] at hi
          have := ih.2 ⟨i, by omega⟩
          omega
theorem noL_pow : ∀ (n m : Nat), 1 ≤ m → m < n → noL (dS m n) = pow2 m := by
  intro n
  induction n using Nat.strongRecOn with
  | _ n IH =>
  intro m h1 h2
  have k := splitS_facts (n := n) (by omega)
  obtain ⟨j, hj⟩ := splitS_pow (n := n) (by omega)
  by_cases hm : m ≤ splitS n
  · rw [dS_left h1 h2 hm, noL_false]
    by_cases hq : m = splitS n
    · rw [← hq, dS_same]
      exact ((pow2_iff m m (Nat.le_refl _) h1).2 ⟨j, by omega⟩).symm
    · exact IH _ (by omega) m h1 (by omega)
  · rw [dS_right h2 hm, noL_true]
    symm
    apply Bool.eq_false_iff.2
    intro h
    obtain ⟨i, hi⟩ := (pow2_iff m m (Nat.le_refl _) h1).1 h
    have a : j < i := (Nat.pow_lt_pow_iff_right (a := 2) (by decide)).1 (by omega)
    have b : 2 ^ (j + 1) ≤ 2 ^ i := Nat.pow_le_pow_right (by decide) a
    rw [Nat.pow_succ] at b
    omega
/-! ### the check -/
def endG (old new : Hs) : Option (Hs × Hs × Nat) → Bool
  | none => false
  | some (a, b, s) => decide (a = old) && (decide (b = new) && decide (s = 0))
def checkN (old new : Hs) (m n : Nat) (P : List Hs) : Bool :=
  endG old new (iterG (P.drop 1) (onesP m (m - 1) (n - 1)).1 (onesP m (m - 1) (n - 1)).2 (P.getD 0 default) (P.getD 0 default))
def checkG (old new : Hs) (m n : Int) (p : List Hs) : Bool :=
  if m < 1 ∨ n < m then false else if m = n then decide (p.length = 0) && decide (old = new) else if p.length = 0 then false
  else checkN old new m.toNat n.toNat (withOld (pow2 m.toNat) old p)
theorem check_grown (old new : Hs) (m n : Int) (p : List Hs) : checkG old new m n p = grownS old new m n p := by
  unfold checkG grownS
  by_cases h : m < 1 ∨ n < m
  · rw [if_pos h, if_pos h]
  · rw [if_neg h, if_neg h]
    have h1 : 1 ≤ m.toNat := by omega
    by_cases he : m = n
    · subst he
      rw [if_pos rfl, bothS_same h1]
      cases p <;> simp
    · rw [if_neg he]
      have h2 : m.toNat < n.toNat := by omega
      by_cases hp : p.length = 0
      · rw [if_pos hp, bothS_none h2 old true hp]
        rfl
      · rw [if_neg hp]
        obtain ⟨i1, i2⟩ := both_fold n.toNat m.toNat old true p h1 (by omega)
        rw [Bool.true_and, noL_pow _ _ h1 h2] at i1 i2
        have hP : (withOld (pow2 m.toNat) old p).length ≠ 0 := by unfold withOld; split <;> simp_all
        generalize withOld (pow2 m.toNat) old p = P at *
        have hd := dirs_ones n.toNat m.toNat m.toNat h1 h2 (by omega)
        unfold checkN
        cases P with
        | nil => exact absurd rfl hP
        | cons x cs =>
          obtain ⟨j1, j2, j3⟩ := iter_fold hd cs x x
          show endG old new (iterG cs _ _ x x) = _
          rw [i1]
          rcases Nat.lt_trichotomy cs.length (dS m.toNat n.toNat).length with hl | hl | hl
          · obtain ⟨a, b, s, e, hs⟩ := j2 hl
            rw [e, decide_eq_false (by simp only [List.length_cons]; omega), Bool.false_and]
            simp [endG, hs]
          · rw [j1 hl, decide_eq_true (by simp only [List.length_cons]; omega), Bool.true_and]
            have i := i2 (by simp only [List.length_cons]; omega)
            have ea : (bothS old m.toNat n.toNat true p).1 = (foldD (dS m.toNat n.toNat) cs x x).1 := congrArg Prod.fst i
            have eb : (bothS old m.toNat n.toNat true p).2.1 = (foldD (dS m.toNat n.toNat) cs x x).2 := congrArg Prod.snd i
            rw [ea, eb]
            simp [endG]
          · rw [j3 hl, decide_eq_false (by simp only [List.length_cons]; omega), Bool.false_and]
            rfl
/-! ### what the walks need -/
theorem and_i64 (x y : Nat) (hx : x < 2 ^ 63) (hy : y < 2 ^ 63) : bitsI .and .i64 (x : Int) (y : Int) = ((x &&& y : Nat) : Int) := by
  have hl : x &&& y < 2 ^ 63 := Nat.and_lt_two_pow x hy
  show IntKind.i64.wrap (((BitVec.ofInt 64 (x : Int)) &&& (BitVec.ofInt 64 (y : Int))).toNat : Int) = _
  rw [BitVec.ofInt_natCast, BitVec.ofInt_natCast, BitVec.toNat_and, BitVec.toNat_ofNat, BitVec.toNat_ofNat, Nat.mod_eq_of_lt (by omega), Nat.mod_eq_of_lt (by omega)]
  exact wrap_i64_in (by omega) (by omega)
theorem and_one (f : Nat) (h : f < 2 ^ 63) : bitsI .and .i64 (f : Int) 1 = ((f % 2 : Nat) : Int) := by
  have := and_i64 f 1 h (by decide)
  rw [Nat.and_one_is_mod] at this
  exact this
theorem shr_one (f : Nat) : shrI .i64 (f : Int) 1 = ((f / 2 : Nat) : Int) := by
  show (f : Int).fdiv (2 ^ (min (1 : Int).toNat 64)) = _
  rw [Int.fdiv_eq_ediv_of_nonneg _ (Int.pow_nonneg (by decide))]
  rfl
theorem and_pow2 (m : Nat) (h1 : 1 ≤ m) (h : m < 2 ^ 63) : decide (bitsI .and .i64 (m : Int) ((m : Int) - 1) = 0) = pow2 m := by
  rw [show (m : Int) - 1 = ((m - 1 : Nat) : Int) by omega, and_i64 _ _ h (by omega)]
  unfold pow2
  exact decide_eq_decide.2 (by omega)
theorem flatH_snoc (L : List (List Hs)) (i : Nat) (h : i < L.length) : (L.take (i + 1)).flatten = (L.take i).flatten ++ L.getD i default := by
  rw [List.take_succ_eq_append_getElem h, List.flatten_append, List.getD_eq_getElem?_getD, List.getElem?_eq_getElem h]
  simp
theorem flatH_len (L : List (List Hs)) (i : Nat) (h : i < L.length) : (L.take i).flatten.length + (L.getD i default).length = (L.take (i + 1)).flatten.length := by
  rw [flatH_snoc L i h, List.length_append]
theorem flatH_le (L : List (List Hs)) (i : Nat) : (L.take i).flatten.length ≤ L.flatten.length := by
  conv => rhs; rw [← List.take_append_drop i L, List.flatten_append, List.length_append]
  omega
theorem flatH_cat (L : List (List Hs)) (i : Nat) (h : i < L.length) : ∀ j, j < (L.take (i + 1)).flatten.length →
    (catF (L.take i).flatten.length (fun j => hashA ((L.take i).flatten.getD j default)) (fun j => hashA ((L.getD i default).getD j default)) j).sim (hashA ((L.take (i + 1)).flatten.getD j default)) := fun j hj => by
  rw [flatH_snoc L i h]
  apply A.sim.of
  generalize (L.take i).flatten = P
  generalize L.getD i default = Q
  have e : catF P.length (fun j => hashA (P.getD j default)) (fun j => hashA (Q.getD j default)) j = if j < P.length then hashA (P.getD j default) else hashA (Q.getD (j - P.length) default) := by
    cases hP : P.length with
    | zero => rfl
    | succ n =>
      simp only [catF]
      by_cases hl : j < n + 1
      · rw [if_pos hl, show Nat.blt j (n + 1) = true from by simpa using hl]; rfl
      · rw [if_neg hl, show Nat.blt j (n + 1) = false from (by cases h : Nat.blt j (n + 1) with | false => rfl | true => exact absurd (Nat.le_of_ble_eq_true h) hl)]; rfl
  rw [e]
  split
  · rename_i hl
    rw [List.getD_eq_getElem?_getD, List.getD_eq_getElem?_getD, List.getElem?_append_left hl]
  · rename_i hl
    rw [List.getD_eq_getElem?_getD, List.getD_eq_getElem?_getD, List.getElem?_append_right (Nat.le_of_not_lt hl)]
theorem onesP_eq : ∀ (k g f s : Nat), f ≤ k → f ≤ g → onesP k f s = onesP g f s
  | 0, 0, f, s, _, _ => rfl
  | 0, g + 1, f, s, h, _ => by rw [onesP, onesP, if_neg (by omega)]
  | k + 1, 0, f, s, _, h => by rw [onesP, onesP, if_neg (by omega)]
  | k + 1, g + 1, f, s, hk, hg => by
    rw [onesP, onesP]
    by_cases h : f % 2 = 1
    · rw [if_pos h, if_pos h, onesP_eq k g (f / 2) (s / 2) (by omega) (by omega)]
    · rw [if_neg h, if_neg h]
theorem ones_step {f s : Nat} (h : f % 2 = 1) : onesP (f / 2) (f / 2) (s / 2) = onesP f f s := by
  obtain ⟨k, hk⟩ : ∃ k, f = k + 1 := ⟨f - 1, by omega⟩
  have e : onesP f f s = onesP k (f / 2) (s / 2) := by
    conv => lhs; rw [show onesP f f s = onesP (k + 1) f s by rw [← hk]]
    rw [onesP, if_pos h]
  rw [e, onesP_eq (f / 2) k _ _ (Nat.le_refl _) (by omega)]
theorem ones_stop {f s : Nat} (h : ¬ f % 2 = 1) : onesP f f s = (f, s) := by
  cases f with
  | zero => rfl
  | succ f => rw [onesP, if_neg h]
def stripJ (f s : Nat) (x : Nat × Nat) : Prop := x.1 < 2 ^ 63 ∧ x.2 < 2 ^ 63 ∧ ((f % 2 = 1 ∧ x.1 = f ∧ x.2 = s) ∨ (¬ f % 2 = 1 ∧ f = s ∧ x.1 = x.2 ∧ oddp x.1 x.1 = oddp f f))
theorem strip_start {f s : Nat} (hf : f < 2 ^ 63) (hs : s < 2 ^ 63) (h : isL f s) : stripJ f s (f, s) :=
  ⟨hf, hs, by
    by_cases ho : f % 2 = 1
    · exact .inl ⟨ho, rfl, rfl⟩
    · rcases h with h | h
      · exact absurd h ho
      · exact .inr ⟨ho, h, h, rfl⟩⟩
theorem strip_step {f s a b : Nat} (h : stripJ f s (a, b)) (ha : a % 2 = 0) (h0 : 0 < a) : stripJ f s (a / 2, b / 2) := by
  obtain ⟨h1, h2, h3⟩ := h
  have h1 : a < 2 ^ 63 := h1
  have h2 : b < 2 ^ 63 := h2
  refine ⟨by show a / 2 < _; omega, by show b / 2 < _; omega, ?_⟩
  rcases h3 with ⟨p, q, r⟩ | ⟨p, q, r, t⟩
  · have q : a = f := q
    omega
  · have r : a = b := r
    have t : oddp a a = oddp f f := t
    refine .inr ⟨p, q, by show a / 2 = b / 2; rw [r], ?_⟩
    rw [← t, oddp_even ha h0]
theorem strip_end {f s a b : Nat} (h : stripJ f s (a, b)) (he : ¬ (a % 2 = 0 ∧ 0 < a)) : nextS f s = (a / 2, b / 2) := by
  obtain ⟨h1, h2, h3⟩ := h
  rcases h3 with ⟨p, q, r⟩ | ⟨p, q, r, t⟩
  · have q : a = f := q
    have r : b = s := r
    rw [next_odd p, q, r]
  · have r : a = b := r
    have t : oddp a a = oddp f f := t
    have e : oddp a a = a := by
      cases a with
      | zero => rfl
      | succ a => rw [oddp, if_neg he]
    rw [← q, next_same p, ← t, e, ← r]
theorem iter_drop (cs : List Hs) (i f s : Nat) (a b : Hs) (h : i < cs.length) : iterG (cs.drop i) f s a b = if s = 0 then none else if isL f s then iterG (cs.drop (i + 1)) (nextS f s).1 (nextS f s).2 (nodeS (cs.getD i default) a) (nodeS (cs.getD i default) b) else iterG (cs.drop (i + 1)) (nextS f s).1 (nextS f s).2 a (nodeS b (cs.getD i default)) := by
  rw [List.drop_eq_getElem_cons h, iterG, List.getD_eq_getElem?_getD, List.getElem?_eq_getElem h]
  rfl
end VX
