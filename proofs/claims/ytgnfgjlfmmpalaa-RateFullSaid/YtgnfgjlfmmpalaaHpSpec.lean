/- Heaps in lists: how one is pushed, popped, and what they hold. In plain Lean. -/
set_option linter.unusedSimpArgs false
set_option linter.unusedVariables false
set_option linter.unusedSectionVars false
namespace HP
variable {α : Type} [Inhabited α]

abbrev at_ (a : List α) (i : Nat) : α := a.getD i default
variable {lt : α → α → Bool}
/-! ### a heap's story -/
end HP
