/- Putting one into a sorted list at its place, told by lists held in arrays: plain Lean. -/
import Derived.Test.YtpgjheokcdpgjaaSrSpec
import Derived.Test.YtpgjheokcdpgjaaLsL
set_option linter.unusedSimpArgs false
set_option linter.unusedVariables false
set_option linter.unusedSectionVars false
namespace VX
open Go

variable {α : Type} [Inhabited α] {lt : α → α → Bool}

theorem take_snoc {l : List α} {i : Nat} (hi : i < l.length) : l.take (i + 1) = l.take i ++ [HP.at_ l i] := by
  rw [List.take_add_one, List.getElem?_eq_getElem hi, HP.at_, List.getD_eq_getElem?_getD, List.getElem?_eq_getElem hi]
  rfl
end VX
