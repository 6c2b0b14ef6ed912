/- Lists of data in slices: setting, swapping, keeping those that fit. -/
import Derived.Test.YthnmbpcdcjamoaaCatL
import Derived.Test.YthnmbpcdcjamoaaHpSpec
set_option linter.unusedSimpArgs false
set_option linter.unusedVariables false
set_option linter.unusedSectionVars false
namespace VX
open Go
section
variable {α : Type} [Inhabited α]
/-- The elements of a list, as they lie in an array. -/
def lsA (f : α → A) (l : List α) : Nat → A := fun i => f (l.getD i default)
theorem ls_set {f : α → A} {a : List α} {i : Nat} (v : α) (hi : i < a.length) {m : Nat} : ∀ k, k < m → (setF (lsA f a) i (f v) k).sim (lsA f (a.set i v) k) := fun k _ => A.sim.of (by
  unfold setF lsA
  by_cases h : k = i
  · subst h
    rw [Nat.beq_refl]
    simp [List.getD_eq_getElem?_getD, hi]
  · rw [nbeq_ne h]
    simp only [cond_false, List.getD_eq_getElem?_getD]
    rw [List.getElem?_set_ne (fun e => h e.symm)])
theorem ls_setF {f : α → A} {a : List α} {i : Nat} (v : α) (hi : i < a.length) : setF (lsA f a) i (f v) = lsA f (a.set i v) := by
  funext k
  unfold setF lsA
  by_cases h : k = i
  · subst h
    rw [Nat.beq_refl]
    simp [List.getD_eq_getElem?_getD, hi]
  · rw [nbeq_ne h]
    simp only [cond_false, List.getD_eq_getElem?_getD]
    rw [List.getElem?_set_ne (fun e => h e.symm)]
theorem ls_swap {f : α → A} {a : List α} {i j : Nat} (hi : i < a.length) (hj : j < a.length) {m : Nat} : ∀ k, k < m → (setF (setF (lsA f a) i (f (HP.at_ a j))) j (f (HP.at_ a i)) k).sim (lsA f (HP.swapL a i j) k) := fun k _ => A.sim.of (by
  rw [ls_setF _ hi, ls_setF _ (by simpa using hj)]
  rfl)
theorem ls_snoc {f : α → A} {a : List α} (d : α) {n m : Nat} (hn : n = a.length) {g : Nat → A} (hg : (g 0) = f d) (hm : m ≤ n + 1) : ∀ k, k < m → (catF n (lsA f a) g k).sim (lsA f (a ++ [d]) k) := fun k hk => A.sim.of (by
  subst hn
  unfold lsA
  by_cases h : k < a.length
  · rw [catF_lt h]
    simp only [List.getD_eq_getElem?_getD]
    rw [List.getElem?_append_left h]
  · have : k = a.length := by omega
    subst this
    rw [catF_ge (Nat.le_refl _), Nat.sub_self, hg]
    simp [List.getD_eq_getElem?_getD])
theorem ls_take {f : α → A} (a : List α) (n : Nat) : ∀ k, k < n → (lsA f a k).sim (lsA f (a.take n) k) := fun k hk => A.sim.of (by
  unfold lsA
  simp only [List.getD_eq_getElem?_getD]
  rw [List.getElem?_take_of_lt hk])
/-! ### keeping those that fit -/
def kept (p : α → Bool) (l : List α) (j : Nat) : List α := (l.take j).filter p
theorem kept_snoc {p : α → Bool} {l : List α} {j : Nat} (hj : j < l.length) : kept p l (j + 1) = kept p l j ++ (if p (HP.at_ l j) = true then [HP.at_ l j] else []) := by
  have e : HP.at_ l j = l[j] := by simp [HP.at_, List.getD_eq_getElem?_getD, hj]
  rw [kept, List.take_succ_eq_append_getElem hj, List.filter_append, e]
  congr 1
  by_cases h : p l[j] = true <;> simp [h]
theorem kept_all (p : α → Bool) (l : List α) : kept p l l.length = l.filter p := by rw [kept, List.take_length]
structure KeptJ (p : α → Bool) (l : List α) (x : Nat × List α) : Prop where
  j : x.1 ≤ l.length
  len : x.2.length = l.length
  front : ∀ k, k < (kept p l x.1).length → HP.at_ x.2 k = HP.at_ (kept p l x.1) k
  back : ∀ k, x.1 ≤ k → HP.at_ x.2 k = HP.at_ l k
  less : (kept p l x.1).length < x.1
theorem kept_start {p : α → Bool} {l : List α} {j : Nat} (hj : j < l.length) (hv : p (HP.at_ l j) = false) (hq : ∀ q, q < j → p (HP.at_ l q) = true) : KeptJ p l (j + 1, l) ∧ (kept p l (j + 1)).length = j := by
  have h0 : kept p l j = l.take j := by
    rw [kept, List.filter_eq_self]
    intro a ha
    obtain ⟨q, hq1, rfl⟩ := List.getElem_of_mem ha
    have hq2 : q < j := by rw [List.length_take] at hq1; omega
    have := hq q hq2
    simp only [HP.at_, List.getD_eq_getElem?_getD, List.getElem?_eq_getElem (show q < l.length by omega), Option.getD_some] at this
    simpa using this
  have h1 : kept p l (j + 1) = l.take j := by
    rw [kept_snoc hj, if_neg (by rw [hv]; exact Bool.noConfusion), List.append_nil]
    exact h0
  have h2 : (kept p l (j + 1)).length = j := by rw [h1, List.length_take]; omega
  refine ⟨⟨hj, rfl, fun k hk => ?_, fun _ _ => rfl, by rw [h2]; exact Nat.lt_succ_self j⟩, h2⟩
  rw [h1]
  rw [h2] at hk
  exact (HP.at_take hk).symm
theorem kept_keep {p : α → Bool} {l : List α} {x : Nat × List α} (h : KeptJ p l x) (hj : x.1 < l.length) (hv : p (HP.at_ x.2 x.1) = true) : KeptJ p l (x.1 + 1, x.2.set (kept p l x.1).length (HP.at_ x.2 x.1)) ∧ (kept p l (x.1 + 1)).length = (kept p l x.1).length + 1 := by
  have hb := h.back x.1 (Nat.le_refl _)
  rw [hb] at hv ⊢
  have e : kept p l (x.1 + 1) = kept p l x.1 ++ [HP.at_ l x.1] := by rw [kept_snoc hj, if_pos hv]
  have e2 : (kept p l (x.1 + 1)).length = (kept p l x.1).length + 1 := by rw [e, List.length_append]; rfl
  refine ⟨⟨hj, by rw [List.length_set]; exact h.len, fun k hk => ?_, fun k hk => ?_, by rw [e2]; have := h.less; simp only; omega⟩, e2⟩
  · rw [e2] at hk
    rw [e]
    have hl := h.less
    have hn := h.len
    by_cases hk2 : k < (kept p l x.1).length
    · rw [HP.at_set_ne (by omega), HP.at_append_left hk2]
      exact h.front k hk2
    · have : k = (kept p l x.1).length := by omega
      subst this
      rw [HP.at_set_self (by omega)]
      simp [HP.at_, List.getD_eq_getElem?_getD]
  · have hl := h.less
    rw [HP.at_set_ne (by simp only at hk; omega)]
    exact h.back k (by simp only at hk; omega)
theorem kept_drop {p : α → Bool} {l : List α} {x : Nat × List α} (h : KeptJ p l x) (hj : x.1 < l.length) (hv : p (HP.at_ x.2 x.1) = false) : KeptJ p l (x.1 + 1, x.2) ∧ (kept p l (x.1 + 1)).length = (kept p l x.1).length := by
  rw [h.back x.1 (Nat.le_refl _)] at hv
  have e : kept p l (x.1 + 1) = kept p l x.1 := by rw [kept_snoc hj, if_neg (by rw [hv]; exact Bool.noConfusion), List.append_nil]
  refine ⟨⟨hj, h.len, fun k hk => ?_, fun k hk => h.back k (by simp only at hk; omega), by rw [e]; have := h.less; simp only; omega⟩, by rw [e]⟩
  simp only at hk ⊢
  rw [e] at hk ⊢
  exact h.front k hk
theorem kept_end {f : α → A} {p : α → Bool} {l : List α} {x : Nat × List α} (h : KeptJ p l x) (hj : x.1 = l.length) (z : A) : ∀ k, k < (l.filter p).length → (spliceF (lsA f x.2) (kept p l x.1).length (l.length - (kept p l x.1).length) (fun _ => z) k).sim (lsA f (l.filter p) k) := fun k hk => A.sim.of (by
  have e : kept p l x.1 = l.filter p := by rw [hj, kept_all]
  rw [spliceF_at, if_neg (by rw [e]; omega)]
  have := h.front k (by rw [e]; exact hk)
  rw [e] at this
  exact congrArg f this)
/-- The first one that does not fit; below 0: none. -/
def idxS (p : α → Bool) : List α → Nat → Int
  | [], _ => -1
  | a :: l, i => if p a = false then i else idxS p l (i + 1)
theorem idxS_at (p : α → Bool) : ∀ (l : List α) (i : Nat), (idxS p l i = -1 ∧ ∀ a ∈ l, p a = true) ∨ (∃ j : Nat, j < l.length ∧ idxS p l i = (i + j : Nat) ∧ p (HP.at_ l j) = false ∧ ∀ q, q < j → p (HP.at_ l q) = true)
  | [], i => .inl ⟨rfl, by simp⟩
  | a :: l, i => by
    unfold idxS
    by_cases h : p a = false
    · rw [if_pos h]
      exact .inr ⟨0, by simp, rfl, by simpa [HP.at_] using h, fun q hq => absurd hq (Nat.not_lt_zero _)⟩
    · rw [if_neg h]
      have h' : p a = true := by simpa using h
      rcases idxS_at p l (i + 1) with ⟨h1, h2⟩ | ⟨j, h1, h2, h3, h4⟩
      · refine .inl ⟨h1, fun b hb => ?_⟩
        rcases List.mem_cons.1 hb with rfl | hb
        · exact h'
        · exact h2 b hb
      · refine .inr ⟨j + 1, by simpa using h1, by rw [h2]; congr 1; omega, by simpa [HP.at_] using h3, fun q hq => ?_⟩
        cases q with
        | zero => simpa [HP.at_] using h'
        | succ q => simpa [HP.at_] using h4 q (by omega)
end
end VX
