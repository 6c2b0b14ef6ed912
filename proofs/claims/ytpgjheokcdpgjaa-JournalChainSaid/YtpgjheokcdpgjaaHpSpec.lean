/- Heaps in lists: how one is pushed, popped, and what they hold. In plain Lean. -/
set_option linter.unusedSimpArgs false
set_option linter.unusedVariables false
set_option linter.unusedSectionVars false
namespace HP
variable {α : Type} [Inhabited α]

abbrev at_ (a : List α) (i : Nat) : α := a.getD i default
theorem at_mem {a : List α} {i : Nat} (h : i < a.length) : at_ a i ∈ a := by
  simp only [at_, List.getD_eq_getElem?_getD, List.getElem?_eq_getElem h, Option.getD_some]
  exact List.getElem_mem h
theorem mem_at {a : List α} {x : α} (h : x ∈ a) : ∃ i, i < a.length ∧ at_ a i = x := by
  obtain ⟨i, hi, rfl⟩ := List.getElem_of_mem h
  exact ⟨i, hi, by simp [at_, List.getD_eq_getElem?_getD, hi]⟩
/-- A strict total order, told by a test. -/
structure Ord (lt : α → α → Bool) : Prop where
  irr : ∀ a, lt a a = false
  tr : ∀ a b c, lt a b = true → lt b c = true → lt a c = true
  tot : ∀ a b, lt a b = false → lt b a = false → a = b
variable {lt : α → α → Bool}
/-! ### a heap's story -/
theorem at_take {a : List α} {n k : Nat} (h : k < n) : at_ (a.take n) k = at_ a k := by
  simp only [at_, List.getD_eq_getElem?_getD]; rw [List.getElem?_take_of_lt h]
end HP
