/- Those that are picked: order and names, plain Lean. -/
import Derived.Test.YthnmbpcdcjamoaaPoLaw
set_option linter.unusedSimpArgs false
set_option linter.unusedVariables false
namespace VX
open Go

theorem fnd_snoc {l : List Pen} {x : Pen} (h : x.u.name ∉ l.map (·.u.name)) (s : List UInt8) : fnd (l ++ [x]) s = if s = x.u.name then x else fnd l s := by
  unfold fnd
  rw [List.find?_append]
  by_cases hs : s = x.u.name
  · rw [if_pos hs]
    subst hs
    have : (l.find? fun p => decide (p.u.name = x.u.name)) = none := by
      rw [List.find?_eq_none]
      intro y hy e
      exact h (List.mem_map.2 ⟨y, hy, of_decide_eq_true e⟩)
    rw [this, Option.none_or, List.find?_cons_of_pos (by simp)]
    rfl
  · rw [if_neg hs]
    have : [x].find? (fun p => decide (p.u.name = s)) = none := by
      rw [List.find?_cons_of_neg (by simpa using fun e => hs e.symm)]; rfl
    rw [this, Option.or_none]
theorem frs_mem {l : List Pen} {p : Pen} (h : p ∈ frs l) : p ∈ l := by
  induction l using snocInd with
  | nil => exact h
  | snoc l x ih =>
    rw [frs_snoc] at h
    split at h
    · exact List.mem_append_left _ (ih h)
    · rcases List.mem_append.1 h with h | h
      · exact List.mem_append_left _ (ih h)
      · exact List.mem_append_right _ h
theorem frs_nodup (l : List Pen) : ((frs l).map (·.u.name)).Nodup := by
  induction l using snocInd with
  | nil => exact List.nodup_nil
  | snoc l x ih =>
    rw [frs_snoc]
    split
    · exact ih
    · rename_i h
      rw [List.map_append, List.nodup_append]
      refine ⟨ih, by simp, fun a ha b hb => ?_⟩
      have : b = x.u.name := by simpa using hb
      subst this
      exact fun e => h (e ▸ ha)
theorem fnd_frs {l : List Pen} {p : Pen} (h : p ∈ frs l) : fnd l p.u.name = p := by
  induction l using snocInd with
  | nil => cases h
  | snoc l x ih =>
    by_cases hm : x.u.name ∈ l.map (·.u.name)
    · rw [frs_old hm] at h
      rw [fnd_old hm, ih h]
    · rw [frs_new hm] at h
      rw [fnd_snoc hm]
      rcases List.mem_append.1 h with h | h
      · rw [if_neg, ih h]
        intro e
        exact hm (e ▸ List.mem_map.2 ⟨p, frs_mem h, rfl⟩)
      · have : p = x := by simpa using h
        subst this
        exact if_pos rfl
theorem dues_of {G : List UInt8 → Int} {l : List Pen} {d : Due} (h : d ∈ dues G l) : ∃ p ∈ frs l, p.syn = true ∧ dueOf G p = d := by
  obtain ⟨p, hp, e⟩ := List.mem_map.1 h
  obtain ⟨h1, h2⟩ := List.mem_filter.1 hp
  exact ⟨p, h1, h2, e⟩
theorem srt_dues {G : List UInt8 → Int} {l : List Pen} {d : Due} (h : d ∈ HP.srt lessS (dues G l)) : ∃ p ∈ frs l, p.syn = true ∧ dueOf G p = d ∧ fnd l d.name = p := by
  obtain ⟨p, h1, h2, h3⟩ := dues_of ((HP.srt_perm _).subset h)
  refine ⟨p, h1, h2, h3, ?_⟩
  rw [← h3]
  exact fnd_frs h1
theorem pick_due (G : List UInt8 → Int) (l : List Pen) (n : Int) : (pickS G l n).map (dueOf G) = (HP.srt lessS (dues G l)).take n.toNat := by
  unfold pickS
  rw [List.map_map]
  conv => rhs; rw [← List.map_id ((HP.srt lessS (dues G l)).take n.toNat)]
  refine List.map_congr_left fun d hd => ?_
  obtain ⟨p, _, _, h3, h4⟩ := srt_dues ((List.take_sublist _ _).subset hd)
  show dueOf G (fnd l d.name) = d
  rw [h4, h3]
theorem pick_mem {G : List UInt8 → Int} {l : List Pen} {n : Int} {p : Pen} (h : p ∈ pickS G l n) : p ∈ frs l ∧ p.syn = true := by
  obtain ⟨d, hd, e⟩ := List.mem_map.1 h
  obtain ⟨q, h1, h2, _, h4⟩ := srt_dues ((List.take_sublist _ _).subset hd)
  have : q = p := h4.symm.trans e
  subst this
  exact ⟨h1, h2⟩
theorem pick_len (G : List UInt8 → Int) (l : List Pen) (n : Int) : (pickS G l n).length = min n.toNat ((frs l).filter synP).length := by
  unfold pickS
  rw [List.length_map, List.length_take, HP.srt_len]
  unfold dues
  rw [List.length_map]
theorem pick_nodup (G : List UInt8 → Int) (l : List Pen) (n : Int) : ((pickS G l n).map (·.u.name)).Nodup := by
  have e : (pickS G l n).map (·.u.name) = ((HP.srt lessS (dues G l)).take n.toNat).map Due.name := by
    rw [← pick_due, List.map_map]
    rfl
  rw [e]
  have h1 : ((dues G l).map Due.name).Nodup := by
    unfold dues
    rw [List.map_map]
    show (((frs l).filter synP).map (·.u.name)).Nodup
    exact (frs_nodup l).sublist ((List.filter_sublist).map _)
  have h2 : ((HP.srt lessS (dues G l)).map Due.name).Nodup := ((HP.srt_perm (dues G l)).map Due.name).nodup_iff.2 h1
  exact h2.sublist ((List.take_sublist _ _).map _)
theorem at_ne {α : Type} [Inhabited α] {l : List α} (h : l.Nodup) {i j : Nat} (hij : i < j) (hj : j < l.length) : HP.at_ l i ≠ HP.at_ l j := by
  have := List.pairwise_iff_getElem.1 h i j (by omega) hj hij
  simpa [HP.at_, List.getD_eq_getElem?_getD, hj, show i < l.length by omega] using this
/-! ### of like deadlines -/
end VX
