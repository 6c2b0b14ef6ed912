/- Heaps in lists: how one is pushed, popped, and what they hold. In plain Lean. -/
set_option linter.unusedSimpArgs false
set_option linter.unusedVariables false
set_option linter.unusedSectionVars false
namespace HP
variable {α : Type} [Inhabited α]

abbrev at_ (a : List α) (i : Nat) : α := a.getD i default
def swapL (a : List α) (i j : Nat) : List α := (a.set i (at_ a j)).set j (at_ a i)

theorem at_set_self {a : List α} {i : Nat} (h : i < a.length) (x : α) : at_ (a.set i x) i = x := by
  simp [at_, List.getD_eq_getElem?_getD, h]
theorem at_set_ne {a : List α} {i j : Nat} (h : i ≠ j) (x : α) : at_ (a.set i x) j = at_ a j := by
  simp only [at_, List.getD_eq_getElem?_getD]
  rw [List.getElem?_set_ne h]
theorem swap_len (a : List α) (i j : Nat) : (swapL a i j).length = a.length := by simp [swapL]
theorem swap_right {a : List α} {i j : Nat} (hj : j < a.length) : at_ (swapL a i j) j = at_ a i := at_set_self (by simpa using hj) _
theorem swap_left {a : List α} {i j : Nat} (hi : i < a.length) (hj : j < a.length) : at_ (swapL a i j) i = at_ a j := by
  by_cases h : j = i
  · subst h; exact at_set_self (by simpa using hj) _
  · rw [swapL, at_set_ne h, at_set_self hi]
theorem swap_other {a : List α} {i j k : Nat} (h1 : k ≠ i) (h2 : k ≠ j) : at_ (swapL a i j) k = at_ a k := by
  rw [swapL, at_set_ne (Ne.symm h2), at_set_ne (Ne.symm h1)]
theorem at_mem {a : List α} {i : Nat} (h : i < a.length) : at_ a i ∈ a := by
  simp only [at_, List.getD_eq_getElem?_getD, List.getElem?_eq_getElem h, Option.getD_some]
  exact List.getElem_mem h
theorem mem_at {a : List α} {x : α} (h : x ∈ a) : ∃ i, i < a.length ∧ at_ a i = x := by
  obtain ⟨i, hi, rfl⟩ := List.getElem_of_mem h
  exact ⟨i, hi, by simp [at_, List.getD_eq_getElem?_getD, hi]⟩
theorem split_at {a : List α} {i : Nat} (h : i < a.length) : a = a.take i ++ at_ a i :: a.drop (i + 1) := by
  have e : at_ a i = a[i] := by simp [at_, List.getD_eq_getElem?_getD, h]
  rw [e, ← List.drop_eq_getElem_cons h, List.take_append_drop]
theorem set_perm {a : List α} {i : Nat} (h : i < a.length) (x : α) : List.Perm (at_ a i :: a.set i x) (x :: a) := by
  have h1 : a.set i x = a.take i ++ x :: a.drop (i + 1) := by
    rw [List.set_eq_take_append_cons_drop, if_pos h]
  have h2 := split_at h
  rw [h1]
  have p1 : List.Perm (at_ a i :: (a.take i ++ x :: a.drop (i + 1))) (x :: at_ a i :: (a.take i ++ a.drop (i + 1))) :=
    (List.Perm.cons _ List.perm_middle).trans (List.Perm.swap _ _ _)
  have p2 : List.Perm (x :: at_ a i :: (a.take i ++ a.drop (i + 1))) (x :: a) := by
    refine List.Perm.cons _ ?_
    conv => rhs; rw [h2]
    exact List.perm_middle.symm
  exact p1.trans p2
theorem swap_perm {a : List α} {i j : Nat} (hi : i < a.length) (hj : j < a.length) : List.Perm (swapL a i j) a := by
  by_cases e : j = i
  · subst e
    have : swapL a j j = a := by
      rw [swapL, List.set_set]
      simp [at_, List.getD_eq_getElem?_getD, hj]
    rw [this]
  · have p1 := set_perm (a := a) hi (at_ a j)
    have p2 := set_perm (a := a.set i (at_ a j)) (i := j) (by simpa using hj) (at_ a i)
    rw [at_set_ne (Ne.symm e)] at p2
    have p3 : List.Perm (at_ a j :: swapL a i j) (at_ a j :: a) := p2.trans p1
    exact (List.perm_cons _).1 p3

/-- A strict total order, told by a test. -/
structure Ord (lt : α → α → Bool) : Prop where
  irr : ∀ a, lt a a = false
  tr : ∀ a b c, lt a b = true → lt b c = true → lt a c = true
  tot : ∀ a b, lt a b = false → lt b a = false → a = b
variable {lt : α → α → Bool}
/-- Not above: it goes on. -/
theorem Ord.le_tr (h : Ord lt) {a b c : α} (h1 : lt b a = false) (h2 : lt c b = false) : lt c a = false := by
  cases e : lt c a with
  | false => rfl
  | true =>
    cases e2 : lt a b with
    | true => rw [h.tr c a b e e2] at h2; cases h2
    | false =>
      have := h.tot a b e2 h1
      subst this
      rw [e] at h2; cases h2
theorem Ord.asym (h : Ord lt) {a b : α} (h1 : lt a b = true) : lt b a = false := by
  cases e : lt b a with
  | false => rfl
  | true => have := h.tr a b a h1 e; rw [h.irr] at this; cases this

/-- One moves up to its place. -/
def upS (lt : α → α → Bool) : Nat → List α → Nat → List α
  | 0, a, _ => a
  | f + 1, a, j => if (j - 1) / 2 = j ∨ lt (at_ a j) (at_ a ((j - 1) / 2)) = false then a else upS lt f (swapL a ((j - 1) / 2) j) ((j - 1) / 2)
/-- The lesser one of two below. -/
def kid (lt : α → α → Bool) (a : List α) (i n : Nat) : Nat := if 2 * i + 1 + 1 < n ∧ lt (at_ a (2 * i + 1 + 1)) (at_ a (2 * i + 1)) = true then 2 * i + 1 + 1 else 2 * i + 1
/-- One moves down to its place: the list, and where it stands. -/
def downS (lt : α → α → Bool) : Nat → List α → Nat → Nat → List α × Nat
  | 0, a, i, _ => (a, i)
  | f + 1, a, i, n => if n ≤ 2 * i + 1 then (a, i) else if lt (at_ a (kid lt a i n)) (at_ a i) = false then (a, i) else downS lt f (swapL a i (kid lt a i n)) (kid lt a i n) n
theorem up_len : ∀ (f : Nat) (a : List α) (j : Nat), (upS lt f a j).length = a.length
  | 0, _, _ => rfl
  | f + 1, a, j => by
    unfold upS
    split
    · rfl
    · rw [up_len f, swap_len]
theorem up_perm : ∀ (f : Nat) (a : List α) (j : Nat), j < a.length → List.Perm (upS lt f a j) a
  | 0, a, _, _ => List.Perm.refl a
  | f + 1, a, j, h => by
    unfold upS
    split
    · exact List.Perm.refl a
    · exact (up_perm f _ _ (by rw [swap_len]; omega)).trans (swap_perm (by omega) h)
theorem kid_lt (a : List α) {i n : Nat} (h : ¬ n ≤ 2 * i + 1) : kid lt a i n < n ∧ i < kid lt a i n ∧ (kid lt a i n = 2 * i + 1 ∨ kid lt a i n = 2 * i + 2) := by
  unfold kid
  split <;> omega
theorem down_len : ∀ (f : Nat) (a : List α) (i n : Nat), (downS lt f a i n).1.length = a.length
  | 0, _, _, _ => rfl
  | f + 1, a, i, n => by
    unfold downS
    split
    · rfl
    · split
      · rfl
      · rw [down_len f, swap_len]
theorem down_perm : ∀ (f : Nat) (a : List α) (i n : Nat), n ≤ a.length → i < a.length → List.Perm (downS lt f a i n).1 a
  | 0, a, _, _, _, _ => List.Perm.refl a
  | f + 1, a, i, n, hn, hi => by
    unfold downS
    split
    · exact List.Perm.refl a
    · rename_i h
      have hk := kid_lt (lt := lt) a h
      split
      · exact List.Perm.refl a
      · exact (down_perm f _ _ _ (by rw [swap_len]; exact hn) (by rw [swap_len]; omega)).trans (swap_perm hi (by omega))
/-- What stands from n on stays. -/
theorem down_at : ∀ (f : Nat) (a : List α) (i n k : Nat), i < n → n ≤ k → at_ (downS lt f a i n).1 k = at_ a k
  | 0, _, _, _, _, _, _ => rfl
  | f + 1, a, i, n, k, hi, hk => by
    unfold downS
    split
    · rfl
    · rename_i h
      have := kid_lt (lt := lt) a h
      split
      · rfl
      · rw [down_at f _ _ n k (by omega) hk, swap_other (by omega) (by omega)]

/-- None of the first n is less than the one above it. -/
def Heap (lt : α → α → Bool) (a : List α) (n : Nat) : Prop := ∀ k, 0 < k → k < n → lt (at_ a k) (at_ a ((k - 1) / 2)) = false
theorem up_heap (ho : Ord lt) : ∀ (f : Nat) (a : List α) (j n : Nat), n ≤ a.length → j < n → j < f →
    (∀ k, 0 < k → k < n → k ≠ j → lt (at_ a k) (at_ a ((k - 1) / 2)) = false) → (∀ k, 0 < k → k < n → (k - 1) / 2 = j → 0 < j → lt (at_ a k) (at_ a ((j - 1) / 2)) = false) → Heap lt (upS lt f a j) n
  | 0, a, j, n, _, _, hf, _, _ => by omega
  | f + 1, a, j, n, hn, hj, hf, h1, h2 => by
    unfold upS
    split
    · rename_i h
      intro k hk0 hk
      by_cases e : k = j
      · subst e
        rcases h with h | h
        · omega
        · exact h
      · exact h1 k hk0 hk e
    · rename_i h
      have hne : (j - 1) / 2 ≠ j := fun e => h (.inl e)
      have hlt : lt (at_ a j) (at_ a ((j - 1) / 2)) = true := by
        cases e : lt (at_ a j) (at_ a ((j - 1) / 2)) with
        | true => rfl
        | false => exact absurd (.inr e) h
      have hj0 : 0 < j := by omega
      refine up_heap ho f _ _ n (by rw [swap_len]; exact hn) (by omega) (by omega) (fun k hk0 hk hki => ?_) (fun k hk0 hk hkp hi0 => ?_)
      · by_cases hkj : k = j
        · subst hkj
          rw [swap_right (by omega), swap_left (by omega) (by omega)]
          exact ho.asym hlt
        · rw [swap_other hki hkj]
          by_cases hp : (k - 1) / 2 = j
          · rw [hp, swap_right (by omega)]
            exact h2 k hk0 hk hp hj0
          · by_cases hp2 : (k - 1) / 2 = (j - 1) / 2
            · rw [hp2, swap_left (by omega) (by omega)]
              have := h1 k hk0 hk hkj
              rw [hp2] at this
              exact ho.le_tr (ho.asym hlt) this
            · rw [swap_other hp2 hp]
              exact h1 k hk0 hk hkj
      · rw [swap_other (k := ((j - 1) / 2 - 1) / 2) (by omega) (by omega)]
        by_cases hkj : k = j
        · subst hkj
          rw [swap_right (by omega)]
          exact h1 _ hi0 (by omega) (by omega)
        · rw [swap_other (by omega) hkj]
          have q1 := h1 ((j - 1) / 2) hi0 (by omega) (by omega)
          have q2 := h1 k hk0 hk hkj
          rw [hkp] at q2
          exact ho.le_tr q1 q2
theorem kid_le (ho : Ord lt) (a : List α) {i n k : Nat} (h : ¬ n ≤ 2 * i + 1) (hk0 : 0 < k) (hk : k < n) (hp : (k - 1) / 2 = i) : lt (at_ a k) (at_ a (kid lt a i n)) = false := by
  have hk2 : k = 2 * i + 1 ∨ k = 2 * i + 1 + 1 := by omega
  unfold kid
  split
  · rename_i hc
    rcases hk2 with rfl | rfl
    · exact ho.asym hc.2
    · exact ho.irr _
  · rename_i hc
    rcases hk2 with rfl | rfl
    · exact ho.irr _
    · cases e : lt (at_ a (2 * i + 1 + 1)) (at_ a (2 * i + 1)) with
      | false => rfl
      | true => exact absurd ⟨hk, e⟩ hc
theorem down_heap (ho : Ord lt) : ∀ (f : Nat) (a : List α) (i n b : Nat), n ≤ a.length → i < a.length → n ≤ i + f → b ≤ i →
    (∀ k, 0 < k → k < n → b ≤ (k - 1) / 2 → (k - 1) / 2 ≠ i → lt (at_ a k) (at_ a ((k - 1) / 2)) = false) →
    (∀ k, 0 < k → k < n → (k - 1) / 2 = i → 0 < i → b ≤ (i - 1) / 2 → lt (at_ a k) (at_ a ((i - 1) / 2)) = false) →
    ∀ k, 0 < k → k < n → b ≤ (k - 1) / 2 → lt (at_ (downS lt f a i n).1 k) (at_ (downS lt f a i n).1 ((k - 1) / 2)) = false
  | 0, a, i, n, b, hn, hi, hf, hb, h1, h2 => fun k hk0 hk hbk => h1 k hk0 hk hbk (by omega)
  | f + 1, a, i, n, b, hn, hi, hf, hb, h1, h2 => by
    unfold downS
    split
    · rename_i h
      exact fun k hk0 hk hbk => h1 k hk0 hk hbk (by omega)
    · rename_i h
      have hkd := kid_lt (lt := lt) a h
      split
      · rename_i hl
        intro k hk0 hk hbk
        by_cases hp : (k - 1) / 2 = i
        · rw [hp]
          exact ho.le_tr hl (kid_le ho a h hk0 hk hp)
        · exact h1 k hk0 hk hbk hp
      · rename_i hl
        have hlt : lt (at_ a (kid lt a i n)) (at_ a i) = true := by
          cases e : lt (at_ a (kid lt a i n)) (at_ a i) with
          | true => rfl
          | false => exact absurd e hl
        refine down_heap ho f _ _ n b (by rw [swap_len]; exact hn) (by rw [swap_len]; omega) (by omega) (by omega) (fun k hk0 hk hbk hpk => ?_) (fun k hk0 hk hpk hj0 hbj => ?_)
        · by_cases hki : k = i
          · subst hki
            rw [swap_left hi (by omega), swap_other (by omega) (by omega)]
            exact h2 _ (by omega) hkd.1 (by omega) hk0 (by omega)
          · by_cases hkj : k = kid lt a i n
            · have hp : (k - 1) / 2 = i := by omega
              rw [hp, swap_left hi (by omega)]
              rw [hkj, swap_right (by omega)]
              exact ho.asym hlt
            · rw [swap_other hki hkj]
              by_cases hp : (k - 1) / 2 = i
              · rw [hp, swap_left hi (by omega)]
                exact kid_le ho a h hk0 hk hp
              · rw [swap_other hp hpk]
                exact h1 k hk0 hk hbk hp
        · have hpi : (kid lt a i n - 1) / 2 = i := by omega
          rw [hpi, swap_left hi (by omega), swap_other (by omega) (by omega)]
          have := h1 k hk0 hk (by omega) (by omega)
          rw [hpk] at this
          exact this
/-- The first one of a heap is the least. -/
theorem heap_min (ho : Ord lt) {a : List α} {n : Nat} (h : Heap lt a n) : ∀ k, k < n → lt (at_ a k) (at_ a 0) = false := by
  intro k
  induction k using Nat.strongRecOn with
  | _ k ih =>
    intro hk
    by_cases h0 : k = 0
    · subst h0; exact ho.irr _
    · exact ho.le_tr (ih ((k - 1) / 2) (by omega) (by omega)) (h k (by omega) hk)

/-! ### a heap's story -/
def pushS (lt : α → α → Bool) (a : List α) (d : α) : List α := upS lt (a.length + 1) (a ++ [d]) a.length
def popS (lt : α → α → Bool) (a : List α) : List α := (downS lt a.length (swapL a 0 (a.length - 1)) 0 (a.length - 1)).1
theorem push_len (a : List α) (d : α) : (pushS lt a d).length = a.length + 1 := by rw [pushS, up_len, List.length_append]; rfl
theorem push_perm (a : List α) (d : α) : List.Perm (pushS lt a d) (d :: a) := (up_perm _ _ _ (by simp)).trans List.perm_append_comm
theorem at_append_left {a b : List α} {k : Nat} (h : k < a.length) : at_ (a ++ b) k = at_ a k := by
  simp only [at_, List.getD_eq_getElem?_getD]; rw [List.getElem?_append_left h]
theorem push_heap (ho : Ord lt) {a : List α} (h : Heap lt a a.length) (d : α) : Heap lt (pushS lt a d) (a.length + 1) := by
  refine up_heap ho _ _ _ _ (by simp) (Nat.lt_succ_self _) (Nat.lt_succ_self _) (fun k hk0 hk hkj => ?_) (fun k hk0 hk hkp _ => by omega)
  rw [at_append_left (by omega), at_append_left (by omega)]
  exact h k hk0 (by omega)
theorem pop_len (a : List α) : (popS lt a).length = a.length := by rw [popS, down_len, swap_len]
theorem at_take {a : List α} {n k : Nat} (h : k < n) : at_ (a.take n) k = at_ a k := by
  simp only [at_, List.getD_eq_getElem?_getD]; rw [List.getElem?_take_of_lt h]
/-- The last one of what is popped is the least; the others are a heap, and all are what there was. -/
theorem pop_facts (ho : Ord lt) {a : List α} (h : Heap lt a a.length) (h0 : 0 < a.length) : at_ (popS lt a) (a.length - 1) = at_ a 0 ∧ Heap lt ((popS lt a).take (a.length - 1)) (a.length - 1) ∧ List.Perm (at_ a 0 :: (popS lt a).take (a.length - 1)) a := by
  have hs : (swapL a 0 (a.length - 1)).length = a.length := swap_len _ _ _
  have e1 : at_ (popS lt a) (a.length - 1) = at_ a 0 := by
    by_cases h1 : 0 < a.length - 1
    · rw [popS, down_at _ _ _ _ _ h1 (Nat.le_refl _), swap_right (by omega)]
    · have e : a.length - 1 = 0 := by omega
      rw [popS, e]
      have : (downS lt a.length (swapL a 0 0) 0 0).1 = swapL a 0 0 := by
        obtain ⟨f, hf⟩ : ∃ f, a.length = f + 1 := ⟨a.length - 1, by omega⟩
        rw [hf]
        unfold downS
        rw [if_pos (Nat.zero_le _)]
      rw [this, swap_left (by omega) (by omega)]
  refine ⟨e1, fun k hk0 hk => ?_, ?_⟩
  · rw [at_take hk, at_take (by omega)]
    refine down_heap ho a.length _ 0 (a.length - 1) 0 (by rw [hs]; omega) (by rw [hs]; omega) (by omega) (Nat.le_refl _) (fun k hk0 hk _ hp => ?_) (fun k _ _ _ h0 _ => by omega) k hk0 hk (Nat.zero_le _)
    rw [swap_other (by omega) (by omega), swap_other (by omega) (by omega)]
    exact h k hk0 (by omega)
  · have p1 : List.Perm (popS lt a) a := (down_perm _ _ _ _ (by rw [hs]; omega) (by rw [hs]; omega)).trans (swap_perm (by omega) (by omega))
    have hl : (popS lt a).length = a.length := pop_len a
    have e2 := split_at (a := popS lt a) (i := a.length - 1) (by omega)
    rw [List.drop_of_length_le (by omega), e1] at e2
    have p2 : List.Perm (at_ a 0 :: (popS lt a).take (a.length - 1)) (popS lt a) := by
      conv => rhs; rw [e2]
      exact (List.perm_append_comm (l₁ := (popS lt a).take (a.length - 1)) (l₂ := [at_ a 0])).symm
    exact p2.trans p1
end HP
