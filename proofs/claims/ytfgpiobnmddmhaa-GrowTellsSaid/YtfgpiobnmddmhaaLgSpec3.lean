/- Lists as slices, in plain Lean (more). -/
import Derived.Test.YtfgpiobnmddmhaaLgSpec2
set_option linter.unusedSimpArgs false
set_option linter.unusedVariables false
namespace VX
theorem sl_set {α : Type} [Inhabited α] {f : α → A} (l : List α) (e : Nat) (x : α) : ∀ i, i < (l.set e x).length → (setF (fun j => f (l.getD j default)) e (f x) i).sim (f ((l.set e x).getD i default)) := fun i hi => by
  rw [List.length_set] at hi
  unfold setF
  refine A.sim.of ?_
  by_cases h : i = e
  · subst h
    have : Nat.beq i i = true := by simp
    rw [this, cond_true, List.getD_eq_getElem?_getD, List.getElem?_set_self hi]; rfl
  · have : Nat.beq i e = false := nbeq_ne h
    rw [this, cond_false]
    show f (l.getD i default) = _
    rw [List.getD_eq_getElem?_getD, List.getD_eq_getElem?_getD, List.getElem?_set_ne (Ne.symm h)]
theorem len_set {α : Type} (l : List α) (e : Nat) (x : α) : l.length = (l.set e x).length := by simp
theorem all_set {α : Type} {p : α → Prop} {l : List α} (h : ∀ a ∈ l, p a) (e : Nat) {x : α} (hx : p x) : ∀ a ∈ l.set e x, p a := fun a ha => by
  rcases List.mem_or_eq_of_mem_set ha with h1 | rfl
  · exact h a h1
  · exact hx
theorem all_snoc {α : Type} {p : α → Prop} {l : List α} (h : ∀ a ∈ l, p a) {x : α} (hx : p x) : ∀ a ∈ l ++ [x], p a := fun a ha => by
  rw [List.mem_append, List.mem_singleton] at ha
  rcases ha with h1 | rfl
  · exact h a h1
  · exact hx
end VX
namespace VX
theorem sim3a {z a b c : A} {h : Nat → A} (h0 : a.sim (h 0)) (h1 : b.sim (h 1)) (h2 : c.sim (h 2)) : ∀ i, i < 3 → ((listF z (fillL (repl z 3) [(0, a), (1, b), (2, c)])) i).sim (h i) := fun i hi => by
  match i, hi with
  | 0, _ => exact h0
  | 1, _ => exact h1
  | 2, _ => exact h2
theorem all3 {α : Type} {p : α → Prop} {a b c : α} (ha : p a) (hb : p b) (hc : p c) : ∀ x ∈ [a, b, c], p x := fun x hx => by
  simp only [List.mem_cons, List.not_mem_nil, or_false] at hx
  rcases hx with rfl | rfl | rfl <;> assumption
theorem all2 {α : Type} {p : α → Prop} {a b : α} (ha : p a) (hb : p b) : ∀ x ∈ [a, b], p x := fun x hx => by
  simp only [List.mem_cons, List.not_mem_nil, or_false] at hx
  rcases hx with rfl | rfl <;> assumption
end VX
