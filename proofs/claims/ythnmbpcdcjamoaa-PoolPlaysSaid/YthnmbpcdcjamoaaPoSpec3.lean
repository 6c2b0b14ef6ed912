/- A pool of requests that wait: those that are picked, in plain Lean. -/
import Derived.Test.YthnmbpcdcjamoaaPoSpec2
set_option linter.unusedSimpArgs false
set_option linter.unusedVariables false
namespace VX
open Go

theorem fnd_old {l : List Pen} {x : Pen} (h : x.u.name ∈ l.map (·.u.name)) : fnd (l ++ [x]) = fnd l := by
  funext s
  unfold fnd
  rw [List.find?_append]
  by_cases hs : s = x.u.name
  · subst hs
    obtain ⟨y, hy, e⟩ := List.mem_map.1 h
    have : (l.find? fun p => decide (p.u.name = x.u.name)).isSome := by
      rw [List.find?_isSome]
      exact ⟨y, hy, decide_eq_true e⟩
    obtain ⟨z, hz⟩ := Option.isSome_iff_exists.1 this
    rw [hz]; rfl
  · have : [x].find? (fun p => decide (p.u.name = s)) = none := by
      rw [List.find?_cons_of_neg (by simpa using fun e => hs e.symm)]; rfl
    rw [this, Option.or_none]
theorem fnd_new {l : List Pen} {x : Pen} (h : x.u.name ∉ l.map (·.u.name)) : (fun s => penA (fnd (l ++ [x]) s)) = fun s => if s = x.u.name then penA x else penA (fnd l s) := by
  funext s
  unfold fnd
  rw [List.find?_append]
  by_cases hs : s = x.u.name
  · rw [if_pos hs]
    subst hs
    have : (l.find? fun p => decide (p.u.name = x.u.name)) = none := by
      rw [List.find?_eq_none]
      intro y hy e
      exact h (List.mem_map.2 ⟨y, hy, of_decide_eq_true e⟩)
    rw [this, Option.none_or, List.find?_cons_of_pos (by simp)]
    rfl
  · rw [if_neg hs]
    have : [x].find? (fun p => decide (p.u.name = s)) = none := by
      rw [List.find?_cons_of_neg (by simpa using fun e => hs e.symm)]; rfl
    rw [this, Option.or_none]
theorem frs_new {l : List Pen} {x : Pen} (h : x.u.name ∉ l.map (·.u.name)) : frs (l ++ [x]) = frs l ++ [x] := by
  rw [frs_snoc, if_neg (fun e => h ((frs_names l _).1 e))]
theorem frs_old {l : List Pen} {x : Pen} (h : x.u.name ∈ l.map (·.u.name)) : frs (l ++ [x]) = frs l := by
  rw [frs_snoc, if_pos ((frs_names l _).2 h)]
theorem frs_le (l : List Pen) : (frs l).length ≤ l.length := by
  induction l using snocInd with
  | nil => exact Nat.le_refl _
  | snoc l x ih =>
    rw [frs_snoc]
    split <;> simp only [List.length_append, List.length_cons, List.length_nil] <;> omega
theorem dues_new {G : List UInt8 → Int} {l : List Pen} {x : Pen} (h : x.u.name ∉ l.map (·.u.name)) : dues G (l ++ [x]) = dues G l ++ if x.syn = true then [dueOf G x] else [] := by
  unfold dues
  rw [frs_new h, List.filter_append, List.map_append]
  by_cases hs : x.syn = true
  · rw [if_pos hs, List.filter_cons_of_pos (by exact hs)]; rfl
  · rw [if_neg hs, List.filter_cons_of_neg (by exact hs)]; rfl
theorem dues_old {G : List UInt8 → Int} {l : List Pen} {x : Pen} (h : x.u.name ∈ l.map (·.u.name)) : dues G (l ++ [x]) = dues G l := by
  unfold dues
  rw [frs_old h]
theorem dues_le (G : List UInt8 → Int) (l : List Pen) : (dues G l).length ≤ l.length := by
  unfold dues
  rw [List.length_map]
  exact Nat.le_trans (List.length_filter_le _ _) (frs_le l)
end VX
