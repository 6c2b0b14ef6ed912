/- Lists as slices, in plain Lean (more). -/
import Derived.Test.YtpgjheokcdpgjaaLgSpec2
set_option linter.unusedSimpArgs false
set_option linter.unusedVariables false
namespace VX
end VX
namespace VX
theorem sim3a {z a b c : A} {h : Nat → A} (h0 : a.sim (h 0)) (h1 : b.sim (h 1)) (h2 : c.sim (h 2)) : ∀ i, i < 3 → ((listF z (fillL (repl z 3) [(0, a), (1, b), (2, c)])) i).sim (h i) := fun i hi => by
  match i, hi with
  | 0, _ => exact h0
  | 1, _ => exact h1
  | 2, _ => exact h2
theorem all3 {α : Type} {p : α → Prop} {a b c : α} (ha : p a) (hb : p b) (hc : p c) : ∀ x ∈ [a, b, c], p x := fun x hx => by
  simp only [List.mem_cons, List.not_mem_nil, or_false] at hx
  rcases hx with rfl | rfl | rfl <;> assumption
end VX
