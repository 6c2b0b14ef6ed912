/- Logs as trees, in plain Lean: paths, and what they lead to. -/
import Derived.Test.YtfgpiobnmddmhaaLgSpec
set_option linter.unusedSimpArgs false
set_option linter.unusedVariables false
namespace VX
open Go
def zero32 : Hs := List.replicate 32 0
theorem zero32_len : zero32.length = 32 := List.length_replicate
theorem zero32_sim (i : Nat) : (A.int .u8 0).sim (byteAt zero32 i) := zeros_sim 32 i
theorem sl_cat {α : Type} [Inhabited α] {f : α → A} {l m : List α} {n : Nat} {h : Nat → A} (hn : n = l.length) (hh : ∀ i, i < m.length → (h i).sim (f (m.getD i default))) : ∀ i, i < n + m.length → (catF n (fun i => f (l.getD i default)) h i).sim (f ((l ++ m).getD i default)) := fun i hi => by
  subst hn
  rw [catF_eq]
  by_cases e : i < l.length
  · rw [if_pos e]
    exact A.sim.of (by rw [List.getD_eq_getElem?_getD, List.getD_eq_getElem?_getD, List.getElem?_append_left e])
  · rw [if_neg e]
    refine (hh (i - l.length) (by omega)).trans (A.sim.of ?_)
    rw [List.getD_eq_getElem?_getD, List.getD_eq_getElem?_getD, List.getElem?_append_right (by omega)]
def pathF : Nat → List Hs → Nat → List Hs
  | 0, _, _ => []
  | f + 1, l, i => if l.length < 2 then [] else if i < splitS l.length then pathF f (l.take (splitS l.length)) i ++ [rootS (l.drop (splitS l.length))]
    else pathF f (l.drop (splitS l.length)) (i - splitS l.length) ++ [rootS (l.take (splitS l.length))]
def pathS (l : List Hs) (i : Nat) : List Hs := pathF l.length l i
theorem pathF_eq : ∀ (f g : Nat) (l : List Hs) (i : Nat), l.length ≤ f → l.length ≤ g → pathF f l i = pathF g l i
  | 0, 0, l, _, _, _ => rfl
  | 0, g + 1, l, _, h, _ => by rw [pathF, pathF, if_pos (by omega)]
  | f + 1, 0, l, _, _, h => by rw [pathF, pathF, if_pos (by omega)]
  | f + 1, g + 1, l, i, hf, hg => by
    rw [pathF, pathF]
    by_cases h : l.length < 2
    · rw [if_pos h, if_pos h]
    · have e := take_lt (l := l) (by omega)
      have k := splitS_facts (n := l.length) (by omega)
      rw [if_neg h, if_neg h, pathF_eq f g _ i (by rw [e.1]; omega) (by rw [e.1]; omega), pathF_eq f g _ (i - splitS l.length) (by rw [e.2]; omega) (by rw [e.2]; omega)]
theorem pathS_small {l : List Hs} (h : l.length < 2) (i : Nat) : pathS l i = [] := by
  unfold pathS
  match hl : l.length with
  | 0 => rfl
  | f + 1 => rw [pathF, if_pos h]
theorem pathS_two {l : List Hs} (h : 2 ≤ l.length) (i : Nat) : pathS l i = if i < splitS l.length then pathS (l.take (splitS l.length)) i ++ [rootS (l.drop (splitS l.length))]
    else pathS (l.drop (splitS l.length)) (i - splitS l.length) ++ [rootS (l.take (splitS l.length))] := by
  have e := take_lt h
  have k := splitS_facts h
  unfold pathS
  obtain ⟨f, hf⟩ : ∃ f, l.length = f + 1 := ⟨l.length - 1, by omega⟩
  rw [hf, pathF, if_neg (by omega), hf, pathF_eq f _ _ _ (by rw [← hf, e.1]; omega) (Nat.le_refl _), pathF_eq f _ (l.drop _) _ (by rw [← hf, e.2]; omega) (Nat.le_refl _)]
theorem pathS_32 : ∀ (m : Nat) (l : List Hs) (i : Nat), l.length = m → (∀ x ∈ l, x.length = 32) → ∀ x ∈ pathS l i, x.length = 32 := by
  intro m
  induction m using Nat.strongRecOn with
  | _ m IH =>
  intro l i hm h x hx
  by_cases h2 : 2 ≤ l.length
  · have e := take_lt h2
    have k := splitS_facts h2
    rw [pathS_two h2] at hx
    split at hx
    · rw [List.mem_append, List.mem_singleton] at hx
      rcases hx with hx | rfl
      · exact IH _ (by omega) _ i e.1 (all_take h _) x hx
      · exact rootS_len _ (all_drop h _)
    · rw [List.mem_append, List.mem_singleton] at hx
      rcases hx with hx | rfl
      · exact IH _ (by omega) _ _ e.2 (all_drop h _) x hx
      · exact rootS_len _ (all_take h _)
  · rw [pathS_small (by omega)] at hx; cases hx
theorem pathS_len : ∀ (m : Nat) (l : List Hs) (i : Nat), l.length = m → (pathS l i).length ≤ m := by
  intro m
  induction m using Nat.strongRecOn with
  | _ m IH =>
  intro l i hm
  by_cases h2 : 2 ≤ l.length
  · have e := take_lt h2
    have k := splitS_facts h2
    rw [pathS_two h2]
    split
    · have := IH _ (by omega) _ i e.1
      rw [List.length_append]; simp only [List.length_cons, List.length_nil]; omega
    · have := IH _ (by omega) _ (i - splitS l.length) e.2
      rw [List.length_append]; simp only [List.length_cons, List.length_nil]; omega
  · rw [pathS_small (by omega)]; exact Nat.zero_le _
/-- What a path leads to, from the leaf up, and what is left of it. -/
def stepC (left : Prop) [Decidable left] : Option (Hs × List Hs) → Option (Hs × List Hs)
  | some (h, x :: r) => some (if left then nodeS h x else nodeS x h, r)
  | _ => none
def climbF : Nat → Nat → Nat → Hs → List Hs → Option (Hs × List Hs)
  | 0, _, _, leaf, p => some (leaf, p)
  | f + 1, n, i, leaf, p => if n < 2 then some (leaf, p) else stepC (i < splitS n) (if i < splitS n then climbF f (splitS n) i leaf p else climbF f (n - splitS n) (i - splitS n) leaf p)
def climbS (n i : Nat) (leaf : Hs) (p : List Hs) : Option (Hs × List Hs) := climbF n n i leaf p
theorem climbF_eq : ∀ (f g n i : Nat) (leaf : Hs) (p : List Hs), n ≤ f → n ≤ g → climbF f n i leaf p = climbF g n i leaf p
  | 0, 0, n, _, _, _, _, _ => rfl
  | 0, g + 1, n, _, _, _, h, _ => by rw [climbF, climbF, if_pos (by omega)]
  | f + 1, 0, n, _, _, _, _, h => by rw [climbF, climbF, if_pos (by omega)]
  | f + 1, g + 1, n, i, leaf, p, hf, hg => by
    rw [climbF, climbF]
    by_cases h : n < 2
    · rw [if_pos h, if_pos h]
    · have k := splitS_facts (n := n) (by omega)
      rw [if_neg h, if_neg h, climbF_eq f g _ i leaf p (by omega) (by omega), climbF_eq f g (n - splitS n) _ leaf p (by omega) (by omega)]
theorem climbS_small {n : Nat} (h : n < 2) (i : Nat) (leaf : Hs) (p : List Hs) : climbS n i leaf p = some (leaf, p) := by
  unfold climbS
  match n, h with
  | 0, _ => rfl
  | 1, _ => rfl
theorem climbS_two {n : Nat} (h : 2 ≤ n) (i : Nat) (leaf : Hs) (p : List Hs) : climbS n i leaf p = stepC (i < splitS n) (if i < splitS n then climbS (splitS n) i leaf p else climbS (n - splitS n) (i - splitS n) leaf p) := by
  have k := splitS_facts h
  unfold climbS
  obtain ⟨f, hf⟩ : ∃ f, n = f + 1 := ⟨n - 1, by omega⟩
  subst hf
  rw [climbF, if_neg (by omega), climbF_eq f _ (splitS (f + 1)) _ _ _ (by omega) (Nat.le_refl _), climbF_eq f _ (f + 1 - splitS (f + 1)) _ _ _ (by omega) (Nat.le_refl _)]
def climbA : Option (Hs × List Hs) → A
  | some (h, r) => .tup [hashA h, sl 32 hashA r, .bool true]
  | none => .tup [hashA zero32, sl 32 hashA [], .bool false]
theorem climbS_32 : ∀ (n i : Nat) (leaf : Hs) (p : List Hs), leaf.length = 32 → (∀ x ∈ p, x.length = 32) → ∀ h r, climbS n i leaf p = some (h, r) → h.length = 32 ∧ (∀ x ∈ r, x.length = 32) ∧ r.length ≤ p.length := by
  intro n
  induction n using Nat.strongRecOn with
  | _ n IH =>
  intro i leaf p hl hp h r e
  by_cases h2 : 2 ≤ n
  · have k := splitS_facts h2
    rw [climbS_two h2] at e
    unfold stepC at e
    split at e
    · rename_i h' x r' e1
      simp only [Option.some.injEq, Prod.mk.injEq] at e
      obtain ⟨rfl, rfl⟩ := e
      have key : h'.length = 32 ∧ (∀ y ∈ x :: r', y.length = 32) ∧ (x :: r').length ≤ p.length := by
        split at e1
        · exact IH _ (by omega) _ _ _ hl hp _ _ e1
        · exact IH _ (by omega) _ _ _ hl hp _ _ e1
      refine ⟨by split <;> exact nodeS_len _ _, fun y hy => key.2.1 y (List.mem_cons_of_mem _ hy), ?_⟩
      have := key.2.2
      simp only [List.length_cons] at this
      omega
    · cases e
  · rw [climbS_small (by omega)] at e
    cases e
    exact ⟨hl, hp, Nat.le_refl _⟩
/-- The same, from the root down. -/
def upF : Nat → Nat → Nat → Hs → List Hs → Hs × Bool
  | 0, _, _, leaf, p => (leaf, p.isEmpty)
  | f + 1, n, i, leaf, p => if n < 2 then (leaf, p.isEmpty) else if p.length = 0 then (zero32, false) else
    if i < splitS n then (nodeS (upF f (splitS n) i leaf (p.take (p.length - 1))).1 (p.getD (p.length - 1) default), (upF f (splitS n) i leaf (p.take (p.length - 1))).2)
    else (nodeS (p.getD (p.length - 1) default) (upF f (n - splitS n) (i - splitS n) leaf (p.take (p.length - 1))).1, (upF f (n - splitS n) (i - splitS n) leaf (p.take (p.length - 1))).2)
def upS (n i : Nat) (leaf : Hs) (p : List Hs) : Hs × Bool := upF n n i leaf p
theorem upF_eq : ∀ (f g n i : Nat) (leaf : Hs) (p : List Hs), n ≤ f → n ≤ g → upF f n i leaf p = upF g n i leaf p
  | 0, 0, n, _, _, _, _, _ => rfl
  | 0, g + 1, n, _, _, _, h, _ => by rw [upF, upF, if_pos (by omega)]
  | f + 1, 0, n, _, _, _, _, h => by rw [upF, upF, if_pos (by omega)]
  | f + 1, g + 1, n, i, leaf, p, hf, hg => by
    rw [upF, upF]
    by_cases h : n < 2
    · rw [if_pos h, if_pos h]
    · have k := splitS_facts (n := n) (by omega)
      rw [if_neg h, if_neg h, upF_eq f g (splitS n) i leaf _ (by omega) (by omega), upF_eq f g (n - splitS n) _ leaf _ (by omega) (by omega)]
theorem upS_small {n : Nat} (h : n < 2) (i : Nat) (leaf : Hs) (p : List Hs) : upS n i leaf p = (leaf, p.isEmpty) := by
  unfold upS
  match n, h with
  | 0, _ => rfl
  | 1, _ => rfl
theorem upS_none {n : Nat} (h : 2 ≤ n) (i : Nat) (leaf : Hs) {p : List Hs} (hp : p.length = 0) : upS n i leaf p = (zero32, false) := by
  unfold upS
  obtain ⟨f, hf⟩ : ∃ f, n = f + 1 := ⟨n - 1, by omega⟩
  subst hf
  rw [upF, if_neg (by omega), if_pos hp]
theorem upS_two {n : Nat} (h : 2 ≤ n) (i : Nat) (leaf : Hs) {p : List Hs} (hp : ¬ p.length = 0) : upS n i leaf p =
    if i < splitS n then (nodeS (upS (splitS n) i leaf (p.take (p.length - 1))).1 (p.getD (p.length - 1) default), (upS (splitS n) i leaf (p.take (p.length - 1))).2)
    else (nodeS (p.getD (p.length - 1) default) (upS (n - splitS n) (i - splitS n) leaf (p.take (p.length - 1))).1, (upS (n - splitS n) (i - splitS n) leaf (p.take (p.length - 1))).2) := by
  have k := splitS_facts h
  unfold upS
  obtain ⟨f, hf⟩ : ∃ f, n = f + 1 := ⟨n - 1, by omega⟩
  subst hf
  rw [upF, if_neg (by omega), if_neg hp, upF_eq f _ (splitS (f + 1)) _ _ _ (by omega) (Nat.le_refl _), upF_eq f _ (f + 1 - splitS (f + 1)) _ _ _ (by omega) (Nat.le_refl _)]
theorem upS_32 : ∀ (n i : Nat) (leaf : Hs) (p : List Hs), leaf.length = 32 → (upS n i leaf p).1.length = 32 := by
  intro n i leaf p hl
  by_cases h2 : 2 ≤ n
  · by_cases hp : p.length = 0
    · rw [upS_none h2 i leaf hp]; exact zero32_len
    · rw [upS_two h2 i leaf hp]
      split <;> exact nodeS_len _ _
  · rw [upS_small (by omega)]; exact hl
theorem snoc_of {p : List Hs} (hp : ¬ p.length = 0) : p = p.take (p.length - 1) ++ [p.getD (p.length - 1) default] := by
  have h : p.length - 1 < p.length := by omega
  have := List.take_append_drop (p.length - 1) p
  rw [List.drop_eq_getElem_cons h, show p.length - 1 + 1 = p.length by omega, List.drop_length] at this
  rw [List.getD_eq_getElem?_getD, List.getElem?_eq_getElem h]
  exact this.symm
theorem up_climb : ∀ (n i : Nat) (leaf : Hs) (p r : List Hs) (h : Hs), i < n → upS n i leaf p = (h, true) → climbS n i leaf (p ++ r) = some (h, r) := by
  intro n
  induction n using Nat.strongRecOn with
  | _ n IH =>
  intro i leaf p r h hi e
  by_cases h2 : 2 ≤ n
  · have k := splitS_facts h2
    by_cases hp : p.length = 0
    · rw [upS_none h2 i leaf hp] at e; cases e
    · rw [upS_two h2 i leaf hp] at e
      rw [climbS_two h2]
      have hs := snoc_of hp
      generalize p.take (p.length - 1) = q at *
      generalize p.getD (p.length - 1) default = x at *
      subst hs
      by_cases hk : i < splitS n
      · rw [if_pos hk] at e
        simp only [Prod.mk.injEq] at e
        rw [if_pos hk, List.append_assoc, IH _ (by omega) i leaf q ([x] ++ r) (upS (splitS n) i leaf q).1 hk (Prod.ext rfl e.2)]
        simp only [stepC, List.cons_append, List.nil_append, if_pos hk, e.1]
      · rw [if_neg hk] at e
        simp only [Prod.mk.injEq] at e
        rw [if_neg hk, List.append_assoc, IH _ (by omega) (i - splitS n) leaf q ([x] ++ r) (upS (n - splitS n) (i - splitS n) leaf q).1 (by omega) (Prod.ext rfl e.2)]
        simp only [stepC, List.cons_append, List.nil_append, if_neg hk, e.1]
  · rw [upS_small (by omega)] at e
    simp only [Prod.mk.injEq, List.isEmpty_iff] at e
    rw [climbS_small (by omega), e.1, e.2]; rfl
theorem climb_up : ∀ (n i : Nat) (leaf : Hs) (p r : List Hs) (h : Hs), i < n → climbS n i leaf p = some (h, r) → ∃ q, p = q ++ r ∧ upS n i leaf q = (h, true) := by
  intro n
  induction n using Nat.strongRecOn with
  | _ n IH =>
  intro i leaf p r h hi e
  by_cases h2 : 2 ≤ n
  · have k := splitS_facts h2
    rw [climbS_two h2] at e
    by_cases hk : i < splitS n
    · rw [if_pos hk] at e
      unfold stepC at e
      split at e
      · rename_i h' x r' e1
        simp only [if_pos hk, Option.some.injEq, Prod.mk.injEq] at e
        obtain ⟨rfl, rfl⟩ := e
        obtain ⟨q, rfl, hq⟩ := IH _ (by omega) i leaf p (x :: r') h' hk e1
        refine ⟨q ++ [x], by simp, ?_⟩
        rw [upS_two h2 i leaf (by simp), if_pos hk]
        simp [hq]
      · cases e
    · rw [if_neg hk] at e
      unfold stepC at e
      split at e
      · rename_i h' x r' e1
        simp only [if_neg hk, Option.some.injEq, Prod.mk.injEq] at e
        obtain ⟨rfl, rfl⟩ := e
        obtain ⟨q, rfl, hq⟩ := IH _ (by omega) (i - splitS n) leaf p (x :: r') h' (by omega) e1
        refine ⟨q ++ [x], by simp, ?_⟩
        rw [upS_two h2 i leaf (by simp), if_neg hk]
        simp [hq]
      · cases e
  · rw [climbS_small (by omega)] at e
    cases e
    exact ⟨[], rfl, by rw [upS_small (by omega)]; rfl⟩
/-- Is a leaf in a log? -/
def checkS (root : Hs) (n i : Int) (leaf : Hs) (p : List Hs) : Bool :=
  if i < 0 ∨ n ≤ i then false else (upS n.toNat i.toNat leaf p).2 && decide ((upS n.toNat i.toNat leaf p).1 = root)
theorem checkS_climb {root leaf : Hs} {n i : Nat} {p : List Hs} (hi : i < n) : checkS root n i leaf p = match climbS n i leaf p with
    | some (h, r) => r.isEmpty && decide (h = root)
    | none => false := by
  unfold checkS
  rw [if_neg (by omega), Int.toNat_natCast, Int.toNat_natCast]
  cases e : upS n i leaf p with
  | mk h b =>
    cases b with
    | true =>
      have := up_climb n i leaf p [] h hi e
      rw [List.append_nil] at this
      rw [this]; rfl
    | false =>
      cases e2 : climbS n i leaf p with
      | none => rfl
      | some hr =>
        obtain ⟨h', r⟩ := hr
        obtain ⟨q, hq, hu⟩ := climb_up n i leaf p r h' hi e2
        cases r with
        | nil =>
          rw [List.append_nil] at hq
          subst hq
          rw [e] at hu; cases hu
        | cons => rfl
/-- Each leaf's path leads to the root. -/
theorem path_up : ∀ (m : Nat) (l : List Hs) (i : Nat), l.length = m → i < m → upS m i (l.getD i default) (pathS l i) = (rootS l, true) := by
  intro m
  induction m using Nat.strongRecOn with
  | _ m IH =>
  intro l i hm hi
  by_cases h2 : 2 ≤ l.length
  · have e := take_lt h2
    have k := splitS_facts h2
    rw [pathS_two h2, ← hm, rootS_two h2]
    by_cases hk : i < splitS l.length
    · rw [if_pos hk, upS_two h2 i _ (by simp), if_pos hk]
      have := IH _ (by omega) (l.take (splitS l.length)) i e.1 hk
      rw [show (l.take (splitS l.length)).getD i default = l.getD i default by rw [List.getD_eq_getElem?_getD, List.getD_eq_getElem?_getD, List.getElem?_take_of_lt hk]] at this
      generalize l.getD i default = y at this ⊢
      simp [this]
    · rw [if_neg hk, upS_two h2 i _ (by simp), if_neg hk]
      have := IH _ (by omega) (l.drop (splitS l.length)) (i - splitS l.length) e.2 (by omega)
      rw [show (l.drop (splitS l.length)).getD (i - splitS l.length) default = l.getD i default by rw [List.getD_eq_getElem?_getD, List.getD_eq_getElem?_getD, List.getElem?_drop]; congr 2; omega] at this
      generalize l.getD i default = y at this ⊢
      simp [this]
  · match l, h2 with
    | [], _ => simp at hm; omega
    | [x], _ =>
      have : i = 0 := by simp at hm; omega
      subst this
      rw [← hm, upS_small (by simp)]
      rfl
    | x :: y :: r, h => exact absurd (by simp) h
/-- No path with one hash more. -/
theorem up_snoc (n i : Nat) (leaf : Hs) (p : List Hs) (x h : Hs) (hi : i < n) (e : upS n i leaf p = (h, true)) : (upS n i leaf (p ++ [x])).2 = false := by
  have h1 := up_climb n i leaf p [x] h hi e
  cases hb : upS n i leaf (p ++ [x]) with
  | mk h' b =>
    cases b with
    | false => rfl
    | true =>
      have h2 := up_climb n i leaf (p ++ [x]) [] h' hi hb
      rw [List.append_nil, h1] at h2
      cases h2
end VX
namespace VX
theorem hash_ext {a b : Hs} (ha : a.length = 32) (hb : b.length = 32) : (∀ i, i < 32 → a.getD i 0 = b.getD i 0) ↔ a = b := by
  refine ⟨fun h => List.ext_getElem (ha.trans hb.symm) fun i h1 h2 => ?_, fun h => by subst h; exact fun _ _ => rfl⟩
  have := h i (by omega)
  rw [List.getD_eq_getElem?_getD, List.getD_eq_getElem?_getD, List.getElem?_eq_getElem h1, List.getElem?_eq_getElem h2] at this
  exact this
theorem hash_eq {a b : Hs} (ha : a.length = 32) (hb : b.length = 32) : ((List.range 32).all fun i => aeq (byteAt a i) (byteAt b i)) = decide (a = b) := by
  rw [all_aeq_bytes]
  exact decide_eq_decide.2 (hash_ext ha hb)
end VX
namespace VX
open Go
def slO (l : List Hs) : Obj := .arr 32 l.length fun j => hashA (l.getD j default)
theorem len_snoc {α : Type} (l : List α) (x : α) : l.length + 1 = (l ++ [x]).length := by simp
theorem sl_snoc {α : Type} [Inhabited α] {f : α → A} (l : List α) (x : α) {h : Nat → A} (h0 : (h 0).sim (f x)) : ∀ i, i < (l ++ [x]).length → (catF l.length (fun i => f (l.getD i default)) h i).sim (f ((l ++ [x]).getD i default)) := fun i hi =>
  sl_cat rfl (fun j hj => by
    have : j = 0 := by simp at hj; omega
    subst this; exact h0) i (by rw [List.length_append] at hi; exact hi)
def pathA (l : List Hs) (i : Int) : List Hs × Bool := if i < 0 ∨ (l.length : Int) ≤ i then ([], false) else (pathS l i.toNat, true)
end VX
namespace VX
theorem listF_const (z c : A) : ∀ (n k i : Nat), i < n → listF z (lstF (fun _ => c) k n) i = c
  | 0, _, _, h => absurd h (Nat.not_lt_zero _)
  | n + 1, k, 0, _ => rfl
  | n + 1, k, i + 1, h => listF_const z c n (k + 1) i (by omega)
theorem zlit_sim {z : A} : ∀ i, i < 32 → (listF z (fillL (lstF (fun _ => A.int .u8 0) 0 32) []) i).sim (byteAt zero32 i) := fun i hi => by
  show (listF z (lstF (fun _ => A.int .u8 0) 0 32) i).sim _
  rw [listF_const z _ 32 0 i hi]
  exact zero32_sim i
end VX
namespace VX
open Go
def upA (r : Hs × Bool) : A := .tup [hashA r.1, .bool r.2]
def leavesS (x : List UInt8) (n : Nat) : List Hs := (List.range n).map fun i => leafS [x.getD i 0, UInt8.ofNat i]
theorem leavesS_succ (x : List UInt8) (n : Nat) : leavesS x (n + 1) = leavesS x n ++ [leafS [x.getD n 0, UInt8.ofNat n]] := by
  unfold leavesS
  rw [List.range_succ, List.map_append]; rfl
theorem leavesS_len (x : List UInt8) (n : Nat) : (leavesS x n).length = n := by simp [leavesS]
theorem leavesS_32 (x : List UInt8) (n : Nat) : ∀ h ∈ leavesS x n, h.length = 32 := fun h hh => by
  unfold leavesS at hh
  obtain ⟨i, _, rfl⟩ := List.mem_map.1 hh
  exact leafS_len _
theorem text2_len (a b : UInt8) (tag : UInt8) : (textS tag [[a, b]]).length ≤ 1000000000000 := by
  have := textS_bound tag [[a, b]] 2 (fun l hl => by simp only [List.mem_cons, List.not_mem_nil, or_false] at hl; subst hl; exact Nat.le_refl _)
  have e : ([[a, b]] : List (List UInt8)).length = 1 := rfl
  rw [e] at this
  omega
theorem eq_of_getD {a b : List Hs} (hl : a.length = b.length) (h : ∀ i, i < a.length → a.getD i default = b.getD i default) : a = b :=
  List.ext_getElem hl fun i h1 h2 => by
    have := h i h1
    rwa [List.getD_eq_getElem?_getD, List.getD_eq_getElem?_getD, List.getElem?_eq_getElem h1, List.getElem?_eq_getElem h2] at this
end VX
namespace VX
theorem sl_take_le {α : Type} [Inhabited α] {f : α → A} (l : List α) (k : Nat) {m : Nat} (h : m ≤ k) : ∀ i, i < m → (f (l.getD i default)).sim (f ((l.take k).getD i default)) := fun i hi => sl_take l k i (Nat.lt_of_lt_of_le hi h)
end VX
namespace VX
theorem sl_snocN {α : Type} [Inhabited α] {f : α → A} (l : List α) (x : α) {n : Nat} {h : Nat → A} (hn : n = l.length) (h0 : (h 0).sim (f x)) : ∀ i, i < (l ++ [x]).length → (catF n (fun i => f (l.getD i default)) h i).sim (f ((l ++ [x]).getD i default)) := by
  subst hn; exact sl_snoc l x h0
theorem pathA_out {l : List Hs} {i : Int} (h : i < 0 ∨ (l.length : Int) ≤ i) : pathA l i = ([], false) := if_pos h
theorem pathA_in {l : List Hs} {i : Nat} (h : i < l.length) : pathA l i = (pathS l i, true) := by
  unfold pathA
  rw [if_neg (by omega), Int.toNat_natCast]
theorem pathA_32 (l : List Hs) (i : Int) (h : ∀ x ∈ l, x.length = 32) : ∀ x ∈ (pathA l i).1, x.length = 32 := by
  unfold pathA
  split
  · intro x hx; cases hx
  · exact pathS_32 _ l _ rfl h
theorem pathA_len (l : List Hs) (i : Int) : (pathA l i).1.length ≤ l.length := by
  unfold pathA
  split
  · exact Nat.zero_le _
  · exact pathS_len _ l _ rfl
theorem check_path {l : List Hs} {i : Nat} (h : i < l.length) : checkS (rootS l) l.length i (l.getD i default) (pathS l i) = true := by
  unfold checkS
  rw [if_neg (by omega), Int.toNat_natCast, Int.toNat_natCast, path_up _ l i rfl h]
  simp
theorem check_more {l : List Hs} {i : Nat} (x : Hs) (h : i < l.length) : checkS (rootS l) l.length i (l.getD i default) (pathS l i ++ [x]) = false := by
  unfold checkS
  rw [if_neg (by omega), Int.toNat_natCast, Int.toNat_natCast, up_snoc _ i _ _ x (rootS l) h (path_up _ l i rfl h)]
  rfl
theorem and_pred : ∀ j : _root_.Fin 62, bitsI .and .i64 ((2 : Int) ^ j.val) ((2 : Int) ^ j.val - 1) = 0 := by decide +kernel
theorem splitS_and {n : Nat} (h : 2 ≤ n) (h' : n < 2 ^ 61) : bitsI .and .i64 (splitS n : Nat) ((splitS n : Nat) - 1) = 0 := by
  have hj : Nat.log2 (n - 1) < 62 := (Nat.log2_lt (by omega)).2 (by omega)
  have := and_pred ⟨Nat.log2 (n - 1), hj⟩
  unfold splitS
  rw [if_neg (by omega)]
  simpa using this
end VX
namespace VX
theorem sl_snoc0 {α : Type} [Inhabited α] {f : α → A} (l : List α) (x : α) {m : Nat} {h : Nat → A} (hm : m ≤ l.length + 1) (h0 : (h 0).sim (f x)) : ∀ i, i < m → (catF l.length (fun i => f (l.getD i default)) h (0 + i)).sim (f ((l ++ [x]).getD i default)) := fun i hi => by
  rw [Nat.zero_add]
  exact sl_snoc l x h0 i (by simp; omega)
end VX
