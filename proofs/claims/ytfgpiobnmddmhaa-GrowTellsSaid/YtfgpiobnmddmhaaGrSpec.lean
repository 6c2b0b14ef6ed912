/- Logs that grow, in plain Lean: proofs, and what they are held against. -/
import Derived.Test.YtfgpiobnmddmhaaLgSpec3
set_option linter.unusedSimpArgs false
set_option linter.unusedVariables false
namespace VX
open Go
/-! ### proofs -/
def subF : Nat → List Hs → Nat → Bool → List Hs
  | 0, l, m, whole => if whole then [] else [rootS l]
  | f + 1, l, m, whole => if m = l.length then (if whole then [] else [rootS l])
    else if m ≤ splitS l.length then subF f (l.take (splitS l.length)) m whole ++ [rootS (l.drop (splitS l.length))]
    else subF f (l.drop (splitS l.length)) (m - splitS l.length) false ++ [rootS (l.take (splitS l.length))]
def subS (l : List Hs) (m : Nat) (whole : Bool) : List Hs := subF l.length l m whole
theorem subF_eq : ∀ (f g : Nat) (l : List Hs) (m : Nat) (w : Bool), 1 ≤ m → m ≤ l.length → l.length ≤ f → l.length ≤ g → subF f l m w = subF g l m w
  | 0, g, l, m, w, h1, h2, h3, _ => by omega
  | f + 1, 0, l, m, w, h1, h2, _, h3 => by omega
  | f + 1, g + 1, l, m, w, h1, h2, hf, hg => by
    rw [subF, subF]
    by_cases h : m = l.length
    · rw [if_pos h, if_pos h]
    · have hl : 2 ≤ l.length := by omega
      have e := take_lt hl
      have k := splitS_facts hl
      rw [if_neg h, if_neg h]
      by_cases hm : m ≤ splitS l.length
      · rw [if_pos hm, if_pos hm, subF_eq f g _ m w h1 (by rw [e.1]; exact hm) (by rw [e.1]; omega) (by rw [e.1]; omega)]
      · rw [if_neg hm, if_neg hm, subF_eq f g _ (m - splitS l.length) false (by omega) (by rw [e.2]; omega) (by rw [e.2]; omega) (by rw [e.2]; omega)]
theorem subS_all {l : List Hs} (h : 1 ≤ l.length) (w : Bool) : subS l l.length w = if w then [] else [rootS l] := by
  unfold subS
  obtain ⟨f, hf⟩ : ∃ f, l.length = f + 1 := ⟨l.length - 1, by omega⟩
  rw [hf, subF, if_pos hf.symm]
theorem subS_part {l : List Hs} {m : Nat} (h1 : 1 ≤ m) (h2 : m < l.length) (w : Bool) : subS l m w =
    if m ≤ splitS l.length then subS (l.take (splitS l.length)) m w ++ [rootS (l.drop (splitS l.length))] else subS (l.drop (splitS l.length)) (m - splitS l.length) false ++ [rootS (l.take (splitS l.length))] := by
  have hl : 2 ≤ l.length := by omega
  have e := take_lt hl
  have k := splitS_facts hl
  unfold subS
  obtain ⟨f, hf⟩ : ∃ f, l.length = f + 1 := ⟨l.length - 1, by omega⟩
  rw [hf, subF, if_neg (by omega), hf]
  by_cases hm : m ≤ splitS (f + 1)
  · rw [if_pos hm, if_pos hm, subF_eq f _ _ m w h1 (by rw [← hf, e.1, hf]; exact hm) (by rw [← hf, e.1]; omega) (Nat.le_refl _)]
  · rw [if_neg hm, if_neg hm, subF_eq f _ (l.drop _) (m - splitS (f + 1)) false (by omega) (by rw [← hf, e.2, hf]; omega) (by rw [← hf, e.2]; omega) (Nat.le_refl _)]
theorem subS_32 : ∀ (c : Nat) (l : List Hs) (m : Nat) (w : Bool), l.length = c → 1 ≤ m → m ≤ l.length → (∀ x ∈ l, x.length = 32) → (∀ x ∈ subS l m w, x.length = 32) ∧ (subS l m w).length ≤ c := by
  intro c
  induction c using Nat.strongRecOn with
  | _ c IH =>
  intro l m w hc h1 h2 h
  by_cases hm : m = l.length
  · subst hm
    rw [subS_all h1]
    cases w with
    | true => exact ⟨fun x hx => absurd hx (by simp), Nat.zero_le _⟩
    | false => exact ⟨fun x hx => by simp only [Bool.false_eq_true, if_false, List.mem_singleton] at hx; subst hx; exact rootS_len _ h, by simp; omega⟩
  · have hl : 2 ≤ l.length := by omega
    have e := take_lt hl
    have k := splitS_facts hl
    rw [subS_part h1 (by omega)]
    split
    · have := IH _ (by omega) (l.take (splitS l.length)) m w e.1 h1 (by omega) (all_take h _)
      exact ⟨all_snoc this.1 (rootS_len _ (all_drop h _)), by rw [List.length_append]; simp only [List.length_cons, List.length_nil]; omega⟩
    · have := IH _ (by omega) (l.drop (splitS l.length)) (m - splitS l.length) false e.2 (by omega) (by omega) (all_drop h _)
      exact ⟨all_snoc this.1 (rootS_len _ (all_take h _)), by rw [List.length_append]; simp only [List.length_cons, List.length_nil]; omega⟩
def proveA (l : List Hs) (m : Int) : List Hs × Bool := if m < 1 ∨ (l.length : Int) < m then ([], false) else (subS l m.toNat true, true)
/-! ### held against two roots, from the top -/
def bothF : Nat → Hs → Nat → Nat → Bool → List Hs → Hs × Hs × Bool
  | 0, old, m, n, w, p => (zero32, zero32, false)
  | f + 1, old, m, n, w, p => if m = n then (if w then (old, old, p.isEmpty) else if p.length ≠ 1 then (zero32, zero32, false) else (p.getD 0 default, p.getD 0 default, true))
    else if p.length = 0 then (zero32, zero32, false)
    else if m ≤ splitS n then ((bothF f old m (splitS n) w (p.take (p.length - 1))).1, nodeS (bothF f old m (splitS n) w (p.take (p.length - 1))).2.1 (p.getD (p.length - 1) default), (bothF f old m (splitS n) w (p.take (p.length - 1))).2.2)
    else (nodeS (p.getD (p.length - 1) default) (bothF f old (m - splitS n) (n - splitS n) false (p.take (p.length - 1))).1, nodeS (p.getD (p.length - 1) default) (bothF f old (m - splitS n) (n - splitS n) false (p.take (p.length - 1))).2.1, (bothF f old (m - splitS n) (n - splitS n) false (p.take (p.length - 1))).2.2)
def bothS (old : Hs) (m n : Nat) (w : Bool) (p : List Hs) : Hs × Hs × Bool := bothF n old m n w p
theorem bothF_eq : ∀ (f g : Nat) (old : Hs) (m n : Nat) (w : Bool) (p : List Hs), 1 ≤ m → m ≤ n → n ≤ f → n ≤ g → bothF f old m n w p = bothF g old m n w p
  | 0, g, old, m, n, w, p, h1, h2, h3, _ => by omega
  | f + 1, 0, old, m, n, w, p, h1, h2, _, h3 => by omega
  | f + 1, g + 1, old, m, n, w, p, h1, h2, hf, hg => by
    rw [bothF, bothF]
    by_cases h : m = n
    · rw [if_pos h, if_pos h]
    · have k := splitS_facts (n := n) (by omega)
      rw [if_neg h, if_neg h]
      by_cases hm : m ≤ splitS n
      · rw [if_pos hm, if_pos hm, bothF_eq f g old m (splitS n) w _ h1 hm (by omega) (by omega)]
      · rw [if_neg hm, if_neg hm, bothF_eq f g old (m - splitS n) (n - splitS n) false _ (by omega) (by omega) (by omega) (by omega)]
theorem bothS_same {n : Nat} (h : 1 ≤ n) (old : Hs) (w : Bool) (p : List Hs) : bothS old n n w p = if w then (old, old, p.isEmpty) else if p.length ≠ 1 then (zero32, zero32, false) else (p.getD 0 default, p.getD 0 default, true) := by
  unfold bothS
  obtain ⟨f, hf⟩ : ∃ f, n = f + 1 := ⟨n - 1, by omega⟩
  subst hf
  rw [bothF, if_pos rfl]
theorem bothS_none {m n : Nat} (h : m < n) (old : Hs) (w : Bool) {p : List Hs} (hp : p.length = 0) : bothS old m n w p = (zero32, zero32, false) := by
  unfold bothS
  obtain ⟨f, hf⟩ : ∃ f, n = f + 1 := ⟨n - 1, by omega⟩
  subst hf
  rw [bothF, if_neg (by omega), if_pos hp]
theorem bothS_left {m n : Nat} (h1 : 1 ≤ m) (h : m < n) (hm : m ≤ splitS n) (old : Hs) (w : Bool) {p : List Hs} (hp : ¬ p.length = 0) : bothS old m n w p =
    ((bothS old m (splitS n) w (p.take (p.length - 1))).1, nodeS (bothS old m (splitS n) w (p.take (p.length - 1))).2.1 (p.getD (p.length - 1) default), (bothS old m (splitS n) w (p.take (p.length - 1))).2.2) := by
  have k := splitS_facts (n := n) (by omega)
  unfold bothS
  obtain ⟨f, hf⟩ : ∃ f, n = f + 1 := ⟨n - 1, by omega⟩
  subst hf
  rw [bothF, if_neg (by omega), if_neg hp, if_pos hm, bothF_eq f _ old m (splitS (f + 1)) w _ h1 hm (by omega) (Nat.le_refl _)]
theorem bothS_right {m n : Nat} (h : m < n) (hm : ¬ m ≤ splitS n) (old : Hs) (w : Bool) {p : List Hs} (hp : ¬ p.length = 0) : bothS old m n w p =
    (nodeS (p.getD (p.length - 1) default) (bothS old (m - splitS n) (n - splitS n) false (p.take (p.length - 1))).1, nodeS (p.getD (p.length - 1) default) (bothS old (m - splitS n) (n - splitS n) false (p.take (p.length - 1))).2.1, (bothS old (m - splitS n) (n - splitS n) false (p.take (p.length - 1))).2.2) := by
  have k := splitS_facts (n := n) (by omega)
  unfold bothS
  obtain ⟨f, hf⟩ : ∃ f, n = f + 1 := ⟨n - 1, by omega⟩
  subst hf
  rw [bothF, if_neg (by omega), if_neg hp, if_neg hm, bothF_eq f _ old (m - splitS (f + 1)) (f + 1 - splitS (f + 1)) false _ (by omega) (by omega) (by omega) (Nat.le_refl _)]
theorem bothS_32 : ∀ (n m : Nat) (old : Hs) (w : Bool) (p : List Hs), 1 ≤ m → m ≤ n → old.length = 32 → (∀ x ∈ p, x.length = 32) → (bothS old m n w p).1.length = 32 ∧ (bothS old m n w p).2.1.length = 32 := by
  intro n
  induction n using Nat.strongRecOn with
  | _ n IH =>
  intro m old w p h1 h2 ho hp
  by_cases hm : m = n
  · subst hm
    rw [bothS_same h1]
    cases w with
    | true => exact ⟨ho, ho⟩
    | false =>
      simp only [Bool.false_eq_true, if_false]
      split
      · exact ⟨zero32_len, zero32_len⟩
      · exact ⟨sl_get hp (by omega), sl_get hp (by omega)⟩
  · by_cases hp0 : p.length = 0
    · rw [bothS_none (by omega) old w hp0]; exact ⟨zero32_len, zero32_len⟩
    · have k := splitS_facts (n := n) (by omega)
      by_cases hk : m ≤ splitS n
      · rw [bothS_left h1 (by omega) hk old w hp0]
        exact ⟨(IH _ (by omega) m old w _ h1 hk ho (all_take hp _)).1, nodeS_len _ _⟩
      · rw [bothS_right (by omega) hk old w hp0]
        exact ⟨nodeS_len _ _, nodeS_len _ _⟩
def grownS (old new : Hs) (m n : Int) (p : List Hs) : Bool := if m < 1 ∨ n < m then false else
  (bothS old m.toNat n.toNat true p).2.2 && (decide ((bothS old m.toNat n.toNat true p).1 = old) && decide ((bothS old m.toNat n.toNat true p).2.1 = new))
end VX
