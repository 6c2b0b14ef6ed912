/- Logs that grow, in plain Lean: from the bottom and from the top it is the same. -/
import Derived.Test.YtfgpiobnmddmhaaGrSpec
set_option linter.unusedSimpArgs false
set_option linter.unusedVariables false
namespace VX
open Go
/-- Its odd part. -/
def oddp : Nat → Nat → Nat
  | 0, x => x
  | k + 1, x => if x % 2 = 0 ∧ 0 < x then oddp k (x / 2) else x
def onesP : Nat → Nat → Nat → Nat × Nat
  | 0, f, s => (f, s)
  | k + 1, f, s => if f % 2 = 1 then onesP k (f / 2) (s / 2) else (f, s)
abbrev isL (f s : Nat) : Prop := f % 2 = 1 ∨ f = s
def nextS (f s : Nat) : Nat × Nat := if f % 2 = 1 then (f / 2, s / 2) else if f = s then (oddp f f / 2, oddp f f / 2) else (f / 2, s / 2)
inductive Dirs : Nat → Nat → List Bool → Prop
  | nil {f : Nat} : Dirs f 0 []
  | left {f s : Nat} {l : List Bool} : s ≠ 0 → isL f s → Dirs (nextS f s).1 (nextS f s).2 l → Dirs f s (true :: l)
  | right {f s : Nat} {l : List Bool} : s ≠ 0 → ¬ isL f s → Dirs (nextS f s).1 (nextS f s).2 l → Dirs f s (false :: l)
def iterG : List Hs → Nat → Nat → Hs → Hs → Option (Hs × Hs × Nat)
  | [], f, s, a, b => some (a, b, s)
  | c :: cs, f, s, a, b => if s = 0 then none else if isL f s then iterG cs (nextS f s).1 (nextS f s).2 (nodeS c a) (nodeS c b) else iterG cs (nextS f s).1 (nextS f s).2 a (nodeS b c)
def foldD : List Bool → List Hs → Hs → Hs → Hs × Hs
  | true :: d, c :: cs, a, b => foldD d cs (nodeS c a) (nodeS c b)
  | false :: d, c :: cs, a, b => foldD d cs a (nodeS b c)
  | _, _, a, b => (a, b)
theorem iter_fold {f s : Nat} {d : List Bool} (h : Dirs f s d) : ∀ (cs : List Hs) (a b : Hs),
    (cs.length = d.length → iterG cs f s a b = some ((foldD d cs a b).1, (foldD d cs a b).2, 0)) ∧ (cs.length < d.length → ∃ a' b' s', iterG cs f s a b = some (a', b', s') ∧ s' ≠ 0) ∧ (d.length < cs.length → iterG cs f s a b = none) := by
  induction h with
  | nil =>
    intro cs a b
    cases cs with
    | nil => exact ⟨fun _ => rfl, fun h => absurd h (Nat.lt_irrefl _), fun h => absurd h (Nat.lt_irrefl _)⟩
    | cons c cs => exact ⟨fun h => by simp at h, fun h => by simp at h, fun _ => by rw [iterG, if_pos rfl]⟩
  | left h0 hL _ ih =>
    intro cs a b
    cases cs with
    | nil => exact ⟨fun h => by simp at h, fun _ => ⟨a, b, _, rfl, h0⟩, fun h => by simp at h⟩
    | cons c cs =>
      rw [iterG, if_neg h0, if_pos hL]
      obtain ⟨i1, i2, i3⟩ := ih cs (nodeS c a) (nodeS c b)
      exact ⟨fun h => i1 (by simpa using h), fun h => i2 (by simpa using h), fun h => i3 (by simpa using h)⟩
  | right h0 hL _ ih =>
    intro cs a b
    cases cs with
    | nil => exact ⟨fun h => by simp at h, fun _ => ⟨a, b, _, rfl, h0⟩, fun h => by simp at h⟩
    | cons c cs =>
      rw [iterG, if_neg h0, if_neg hL]
      obtain ⟨i1, i2, i3⟩ := ih cs a (nodeS b c)
      exact ⟨fun h => i1 (by simpa using h), fun h => i2 (by simpa using h), fun h => i3 (by simpa using h)⟩
/-! ### the ways, from the top -/
def dF : Nat → Nat → Nat → List Bool
  | 0, _, _ => []
  | f + 1, m, n => if m = n then [] else if m ≤ splitS n then dF f m (splitS n) ++ [false] else dF f (m - splitS n) (n - splitS n) ++ [true]
def dS (m n : Nat) : List Bool := dF n m n
theorem dF_eq : ∀ (f g m n : Nat), 1 ≤ m → m ≤ n → n ≤ f → n ≤ g → dF f m n = dF g m n
  | 0, g, m, n, h1, h2, h3, _ => by omega
  | f + 1, 0, m, n, h1, h2, _, h3 => by omega
  | f + 1, g + 1, m, n, h1, h2, hf, hg => by
    rw [dF, dF]
    by_cases h : m = n
    · rw [if_pos h, if_pos h]
    · have k := splitS_facts (n := n) (by omega)
      rw [if_neg h, if_neg h]
      by_cases hm : m ≤ splitS n
      · rw [if_pos hm, if_pos hm, dF_eq f g m (splitS n) h1 hm (by omega) (by omega)]
      · rw [if_neg hm, if_neg hm, dF_eq f g (m - splitS n) (n - splitS n) (by omega) (by omega) (by omega) (by omega)]
theorem dS_same (n : Nat) : dS n n = [] := by
  unfold dS
  cases n with
  | zero => rfl
  | succ f => rw [dF, if_pos rfl]
theorem dS_left {m n : Nat} (h1 : 1 ≤ m) (h : m < n) (hm : m ≤ splitS n) : dS m n = dS m (splitS n) ++ [false] := by
  have k := splitS_facts (n := n) (by omega)
  unfold dS
  obtain ⟨f, hf⟩ : ∃ f, n = f + 1 := ⟨n - 1, by omega⟩
  subst hf
  rw [dF, if_neg (by omega), if_pos hm, dF_eq f _ m (splitS (f + 1)) h1 hm (by omega) (Nat.le_refl _)]
theorem dS_right {m n : Nat} (h : m < n) (hm : ¬ m ≤ splitS n) : dS m n = dS (m - splitS n) (n - splitS n) ++ [true] := by
  have k := splitS_facts (n := n) (by omega)
  unfold dS
  obtain ⟨f, hf⟩ : ∃ f, n = f + 1 := ⟨n - 1, by omega⟩
  subst hf
  rw [dF, if_neg (by omega), if_neg hm, dF_eq f _ (m - splitS (f + 1)) (f + 1 - splitS (f + 1)) (by omega) (by omega) (by omega) (Nat.le_refl _)]
theorem fold_snoc : ∀ (d : List Bool) (cs : List Hs) (x : Bool) (c a b : Hs), d.length = cs.length →
    foldD (d ++ [x]) (cs ++ [c]) a b = (if x then (nodeS c (foldD d cs a b).1, nodeS c (foldD d cs a b).2) else ((foldD d cs a b).1, nodeS (foldD d cs a b).2 c))
  | [], [], x, c, a, b, _ => by cases x <;> rfl
  | true :: d, c' :: cs, x, c, a, b, h => fold_snoc d cs x c _ _ (by simpa using h)
  | false :: d, c' :: cs, x, c, a, b, h => fold_snoc d cs x c _ _ (by simpa using h)
  | [], _ :: _, _, _, _, _, h => by simp at h
  | _ :: _, [], _, _, _, _, h => by simp at h
def noL (d : List Bool) : Bool := d.all fun b => !b
theorem noL_false (d : List Bool) : noL (d ++ [false]) = noL d := by simp [noL]
theorem noL_true (d : List Bool) : noL (d ++ [true]) = false := by simp [noL]
/-- With the old root in front, if it is known. -/
def withOld (b : Bool) (old : Hs) (p : List Hs) : List Hs := if b then old :: p else p
def foldP (d : List Bool) : List Hs → Hs × Hs
  | [] => (zero32, zero32)
  | x :: cs => foldD d cs x x
theorem foldP_snoc (d : List Bool) (P : List Hs) (x : Bool) (c : Hs) (h : P.length = d.length + 1) :
    foldP (d ++ [x]) (P ++ [c]) = (if x then (nodeS c (foldP d P).1, nodeS c (foldP d P).2) else ((foldP d P).1, nodeS (foldP d P).2 c)) := by
  cases P with
  | nil => simp at h
  | cons y cs => exact fold_snoc d cs x c y y (by simpa using h.symm)
theorem both_fold : ∀ (n m : Nat) (old : Hs) (w : Bool) (p : List Hs), 1 ≤ m → m ≤ n →
    ((bothS old m n w p).2.2 = decide ((withOld (w && noL (dS m n)) old p).length = (dS m n).length + 1)) ∧
    ((withOld (w && noL (dS m n)) old p).length = (dS m n).length + 1 → ((bothS old m n w p).1, (bothS old m n w p).2.1) = foldP (dS m n) (withOld (w && noL (dS m n)) old p)) := by
  intro n
  induction n using Nat.strongRecOn with
  | _ n IH =>
  intro m old w p h1 h2
  by_cases hm : m = n
  · subst hm
    rw [bothS_same h1, dS_same]
    cases w with
    | true =>
      have e : withOld (true && noL []) old p = old :: p := rfl
      rw [e]
      refine ⟨?_, fun _ => rfl⟩
      cases p with
      | nil => rfl
      | cons x p => simp
    | false =>
      have e : withOld (false && noL []) old p = p := rfl
      rw [e]
      match p with
      | [] => exact ⟨rfl, fun h => by simp at h⟩
      | [x] => exact ⟨rfl, fun _ => rfl⟩
      | x :: y :: p => exact ⟨by simp, fun h => by simp at h⟩
  · have k := splitS_facts (n := n) (by omega)
    by_cases hk : m ≤ splitS n
    · rw [dS_left h1 (by omega) hk, noL_false]
      have ih := IH (splitS n) (by omega) m old w
      by_cases hp : p.length = 0
      · rw [bothS_none (by omega) old w hp]
        have hp0 : p = [] := List.eq_nil_of_length_eq_zero hp
        subst hp0
        have hw : (withOld (w && noL (dS m (splitS n))) old []).length ≤ 1 := by unfold withOld; split <;> simp
        rw [List.length_append]
        refine ⟨(decide_eq_false (by simp only [List.length_cons, List.length_nil]; omega)).symm, fun h => ?_⟩
        simp only [List.length_cons, List.length_nil] at h
        omega
      · rw [bothS_left h1 (by omega) hk old w hp]
        have hs := snoc_of hp
        generalize p.take (p.length - 1) = q at *
        generalize p.getD (p.length - 1) default = c at *
        subst hs
        obtain ⟨i1, i2⟩ := ih q h1 hk
        have hP : withOld (w && noL (dS m (splitS n))) old (q ++ [c]) = withOld (w && noL (dS m (splitS n))) old q ++ [c] := by unfold withOld; split <;> rfl
        rw [hP, List.length_append, List.length_append]
        simp only [List.length_cons, List.length_nil]
        refine ⟨i1.trans (decide_eq_decide.2 (by omega)), fun h => ?_⟩
        have h' : (withOld (w && noL (dS m (splitS n))) old q).length = (dS m (splitS n)).length + 1 := by omega
        rw [foldP_snoc _ _ _ _ h', ← i2 h']
        rfl
    · rw [dS_right (by omega) hk, noL_true, Bool.and_false]
      have ih := IH (n - splitS n) (by omega) (m - splitS n) old false
      rw [Bool.false_and] at ih
      have e : ∀ q, withOld false old q = q := fun _ => rfl
      rw [e]
      by_cases hp : p.length = 0
      · rw [bothS_none (by omega) old w hp]
        rw [List.length_append]
        refine ⟨(decide_eq_false (by simp only [List.length_cons, List.length_nil]; omega)).symm, fun h => ?_⟩
        simp only [List.length_cons, List.length_nil] at h
        omega
      · rw [bothS_right (by omega) hk old w hp]
        have hs := snoc_of hp
        generalize p.take (p.length - 1) = q at *
        generalize p.getD (p.length - 1) default = c at *
        subst hs
        obtain ⟨i1, i2⟩ := ih q (by omega) (by omega)
        rw [e] at i1 i2
        rw [List.length_append, List.length_append]
        simp only [List.length_cons, List.length_nil]
        refine ⟨i1.trans (decide_eq_decide.2 (by omega)), fun h => ?_⟩
        have h' : q.length = (dS (m - splitS n) (n - splitS n)).length + 1 := by omega
        rw [foldP_snoc _ _ _ _ h', ← i2 h']
        rfl
/-! ### the ways, from the bottom -/
theorem next_odd {f s : Nat} (h : f % 2 = 1) : nextS f s = (f / 2, s / 2) := if_pos h
theorem next_even {f s : Nat} (h : ¬ f % 2 = 1) (h' : ¬ f = s) : nextS f s = (f / 2, s / 2) := by unfold nextS; rw [if_neg h, if_neg h']
theorem next_same {f : Nat} (h : ¬ f % 2 = 1) : nextS f f = (oddp f f / 2, oddp f f / 2) := by unfold nextS; rw [if_neg h, if_pos rfl]
theorem oddp_eq : ∀ (k g x : Nat), x ≤ k → x ≤ g → oddp k x = oddp g x
  | 0, 0, x, _, _ => rfl
  | 0, g + 1, x, h, _ => by rw [oddp, oddp, if_neg (by omega)]
  | k + 1, 0, x, _, h => by rw [oddp, oddp, if_neg (by omega)]
  | k + 1, g + 1, x, hk, hg => by
    rw [oddp, oddp]
    by_cases h : x % 2 = 0 ∧ 0 < x
    · rw [if_pos h, if_pos h, oddp_eq k g (x / 2) (by omega) (by omega)]
    · rw [if_neg h, if_neg h]
theorem oddp_odd {x : Nat} (h : x % 2 = 1) (k : Nat) : oddp k x = x := by
  cases k with
  | zero => rfl
  | succ k => rw [oddp, if_neg (by omega)]
theorem oddp_even {x : Nat} (h : x % 2 = 0) (h0 : 0 < x) : oddp x x = oddp (x / 2) (x / 2) := by
  obtain ⟨k, hk⟩ : ∃ k, x = k + 1 := ⟨x - 1, by omega⟩
  rw [hk, oddp, if_pos (by omega), ← hk, oddp_eq k (x / 2) (x / 2) (by omega) (Nat.le_refl _)]
theorem oddp_pow : ∀ j, oddp (2 ^ j) (2 ^ j) = 1
  | 0 => rfl
  | j + 1 => by
    have h : (2 : Nat) ^ (j + 1) = 2 * 2 ^ j := by rw [Nat.pow_succ, Nat.mul_comm]
    have hp : 0 < (2 : Nat) ^ j := Nat.pow_pos (by decide)
    rw [oddp_even (by omega) (by omega), show (2 : Nat) ^ (j + 1) / 2 = 2 ^ j by omega]
    exact oddp_pow j
theorem oddp_add : ∀ (j x : Nat), 0 < x → x < 2 ^ j → ∃ i y, i < j ∧ oddp x x = y ∧ y % 2 = 1 ∧ y / 2 < 2 ^ i ∧ oddp (2 ^ j + x) (2 ^ j + x) = 2 ^ (i + 1) + y
  | 0, x, h, h' => by simp at h'; omega
  | j + 1, x, h, h' => by
    have hd : (2 : Nat) ^ (j + 1) = 2 * 2 ^ j := by rw [Nat.pow_succ, Nat.mul_comm]
    by_cases hx : x % 2 = 1
    · exact ⟨j, x, by omega, oddp_odd hx _, hx, by omega, oddp_odd (by omega) _⟩
    · obtain ⟨i, y, h1, h2, h3, h4, h5⟩ := oddp_add j (x / 2) (by omega) (by omega)
      refine ⟨i, y, by omega, by rw [oddp_even (by omega) h]; exact h2, h3, h4, ?_⟩
      rw [oddp_even (by omega) (by omega), show (2 ^ (j + 1) + x) / 2 = 2 ^ j + x / 2 by omega]
      exact h5
theorem dirs_inv {f s : Nat} {l : List Bool} (h : Dirs f s l) (h0 : s ≠ 0) : (isL f s ∧ ∃ l', l = true :: l' ∧ Dirs (nextS f s).1 (nextS f s).2 l') ∨ (¬ isL f s ∧ ∃ l', l = false :: l' ∧ Dirs (nextS f s).1 (nextS f s).2 l') := by
  cases h with
  | nil => exact absurd rfl h0
  | left _ hL hn => exact .inl ⟨hL, _, rfl, hn⟩
  | right _ hL hn => exact .inr ⟨hL, _, rfl, hn⟩
theorem dirs_zero {f : Nat} {l : List Bool} (h : Dirs f 0 l) : l = [] := by
  cases h with
  | nil => rfl
  | left h0 => exact absurd rfl h0
  | right h0 => exact absurd rfl h0
theorem dirs_A : ∀ (j f r : Nat) (l : List Bool), f < 2 ^ j → r < 2 ^ j → Dirs f (2 ^ j - 1) l → Dirs f (2 ^ j + r) (l ++ [false])
  | 0, f, r, l, hf, hr, h => by
    have hf0 : f = 0 := by simp at hf; omega
    have hr0 : r = 0 := by simp at hr; omega
    subst hf0 hr0
    cases h with
    | nil => exact .right (by decide) (by decide) .nil
    | left h0 => exact absurd rfl h0
    | right h0 => exact absurd rfl h0
  | j + 1, f, r, l, hf, hr, h => by
    have hd : (2 : Nat) ^ (j + 1) = 2 * 2 ^ j := by rw [Nat.pow_succ, Nat.mul_comm]
    have hp : 0 < (2 : Nat) ^ j := Nat.pow_pos (by decide)
    by_cases ho : f % 2 = 1
    · rcases dirs_inv h (by omega) with ⟨hL, l', rfl, hn⟩ | ⟨hL, l', rfl, hn⟩
      · refine .left (by omega) (.inl ho) ?_
        rw [next_odd ho] at hn ⊢
        show Dirs (f / 2) ((2 ^ (j + 1) + r) / 2) _
        rw [show (2 ^ (j + 1) + r) / 2 = 2 ^ j + r / 2 by omega]
        have hn : Dirs (f / 2) ((2 ^ (j + 1) - 1) / 2) _ := hn
        rw [show (2 ^ (j + 1) - 1) / 2 = 2 ^ j - 1 by omega] at hn
        exact dirs_A j (f / 2) (r / 2) _ (by omega) (by omega) hn
      · exact absurd (.inl ho) hL
    · rcases dirs_inv h (by omega) with ⟨hL, l', rfl, hn⟩ | ⟨hL, l', rfl, hn⟩
      · rcases hL with h | h <;> omega
      · refine .right (by omega) (by omega) ?_
        rw [next_even ho (by omega)] at hn ⊢
        show Dirs (f / 2) ((2 ^ (j + 1) + r) / 2) _
        rw [show (2 ^ (j + 1) + r) / 2 = 2 ^ j + r / 2 by omega]
        have hn : Dirs (f / 2) ((2 ^ (j + 1) - 1) / 2) _ := hn
        rw [show (2 ^ (j + 1) - 1) / 2 = 2 ^ j - 1 by omega] at hn
        exact dirs_A j (f / 2) (r / 2) _ (by omega) (by omega) hn
theorem dirs_B : ∀ (c j f s : Nat) (l : List Bool), j ≤ c → f ≤ s → s < 2 ^ j → Dirs f s l → Dirs (2 ^ j + f) (2 ^ j + s) (l ++ [true]) := by
  intro c
  induction c with
  | zero =>
    intro j f s l hj hfs hs h
    have : j = 0 := by omega
    subst this
    have hs0 : s = 0 := by simp at hs; omega
    have hf0 : f = 0 := by omega
    subst hs0 hf0
    cases h with
    | nil => exact .left (by decide) (.inl rfl) .nil
    | left h0 => exact absurd rfl h0
    | right h0 => exact absurd rfl h0
  | succ c ih =>
    intro j f s l hj hfs hs h
    cases h with
    | nil =>
      have hf0 : f = 0 := by omega
      subst hf0
      have hp : 0 < (2 : Nat) ^ j := Nat.pow_pos (by decide)
      refine .left (by omega) (.inr rfl) ?_
      by_cases hj0 : j = 0
      · subst hj0; exact .nil
      · obtain ⟨i, rfl⟩ : ∃ i, j = i + 1 := ⟨j - 1, by omega⟩
        have hd : (2 : Nat) ^ (i + 1) = 2 * 2 ^ i := by rw [Nat.pow_succ, Nat.mul_comm]
        rw [next_same (by omega), Nat.add_zero, oddp_pow]
        exact .nil
    | left h0 hL hn =>
      obtain ⟨i, rfl⟩ : ∃ i, j = i + 1 := ⟨j - 1, by have : j ≠ 0 := (fun e => by subst e; simp at hs; omega); omega⟩
      have hd : (2 : Nat) ^ (i + 1) = 2 * 2 ^ i := by rw [Nat.pow_succ, Nat.mul_comm]
      by_cases ho : f % 2 = 1
      · refine .left (by omega) (.inl (by omega)) ?_
        rw [next_odd (by omega)]
        rw [next_odd ho] at hn
        show Dirs ((2 ^ (i + 1) + f) / 2) ((2 ^ (i + 1) + s) / 2) _
        rw [show (2 ^ (i + 1) + f) / 2 = 2 ^ i + f / 2 by omega, show (2 ^ (i + 1) + s) / 2 = 2 ^ i + s / 2 by omega]
        exact ih i _ _ _ (by omega) (by omega) (by omega) hn
      · have he : f = s := by rcases hL with h | h; exact absurd h ho; exact h
        subst he
        refine .left (by omega) (.inr rfl) ?_
        rw [next_same (by omega)]
        rw [next_same ho] at hn
        obtain ⟨q, y, h1, h2, h3, h4, h5⟩ := oddp_add (i + 1) f (by omega) hs
        rw [h5]
        rw [h2] at hn
        have hq : (2 : Nat) ^ (q + 1) = 2 * 2 ^ q := by rw [Nat.pow_succ, Nat.mul_comm]
        show Dirs ((2 ^ (q + 1) + y) / 2) ((2 ^ (q + 1) + y) / 2) _
        rw [show (2 ^ (q + 1) + y) / 2 = 2 ^ q + y / 2 by omega]
        exact ih q _ _ _ (by omega) (Nat.le_refl _) h4 hn
    | right h0 hL hn =>
      obtain ⟨i, rfl⟩ : ∃ i, j = i + 1 := ⟨j - 1, by have : j ≠ 0 := (fun e => by subst e; simp at hs; omega); omega⟩
      have hd : (2 : Nat) ^ (i + 1) = 2 * 2 ^ i := by rw [Nat.pow_succ, Nat.mul_comm]
      have ho : ¬ f % 2 = 1 := fun h => hL (.inl h)
      have hne : ¬ f = s := fun h => hL (.inr h)
      refine .right (by omega) (fun h => by rcases h with h | h <;> omega) ?_
      rw [next_even (by omega) (by omega)]
      rw [next_even ho hne] at hn
      show Dirs ((2 ^ (i + 1) + f) / 2) ((2 ^ (i + 1) + s) / 2) _
      rw [show (2 ^ (i + 1) + f) / 2 = 2 ^ i + f / 2 by omega, show (2 ^ (i + 1) + s) / 2 = 2 ^ i + s / 2 by omega]
      exact ih i _ _ _ (by omega) (by omega) (by omega) hn
end VX
