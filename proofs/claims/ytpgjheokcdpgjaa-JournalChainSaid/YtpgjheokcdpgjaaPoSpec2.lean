/- A pool of requests that wait: more facts, in plain Lean. -/
import Derived.Test.YtpgjheokcdpgjaaPoSpec
set_option linter.unusedSimpArgs false
set_option linter.unusedVariables false
namespace VX
open Go

structure SyncJ (l : List Pen) (x : Nat × List Pen × List Pen) : Prop where
  i : x.1 ≤ l.length
  len : x.2.1.length = l.length
  le : x.2.2.length ≤ x.1
  out : x.2.2 = syncO (l.take x.1)
  got : x.2.1 = syncL (l.take x.1) ++ l.drop x.1
theorem syncO_snoc (l : List Pen) (x : Pen) : syncO (l ++ [x]) = if x.syn = true then syncO l else syncO l ++ [setSyn x] := by
  unfold syncO
  rw [List.filter_append, List.map_append]
  cases h : x.syn with
  | true => rw [List.filter_cons_of_neg (by simp [h])]; simp
  | false => rw [List.filter_cons_of_pos (by simp [h])]; simp
theorem SyncJ.rest {l a y : List Pen} {i : Nat} (h : SyncJ l (i, a, y)) (j : Nat) (hj : j < l.length) (hij : i ≤ j) : HP.at_ a j = HP.at_ l j := by
  have hg : a = syncL (l.take i) ++ l.drop i := h.got
  have hi : i ≤ l.length := h.i
  rw [hg, HP.at_, List.getD_eq_getElem?_getD, List.getElem?_append_right (by rw [syncL, List.length_map, List.length_take]; omega), syncL, List.length_map, List.length_take, Nat.min_eq_left hi, List.getElem?_drop, HP.at_, List.getD_eq_getElem?_getD]
  rw [show i + (j - i) = j by omega]
theorem pdrop_at {l : List Pen} {i : Nat} (hi : i < l.length) : l.drop i = HP.at_ l i :: l.drop (i + 1) := by
  rw [List.drop_eq_getElem_cons hi, HP.at_, List.getD_eq_getElem?_getD, List.getElem?_eq_getElem hi]
  rfl
theorem SyncJ.skip {l a y : List Pen} {i : Nat} (h : SyncJ l (i, a, y)) (hi : i < l.length) (hs : (HP.at_ l i).syn = true) : SyncJ l (i + 1, a, y) := by
  have hg : a = syncL (l.take i) ++ l.drop i := h.got
  have ho : y = syncO (l.take i) := h.out
  have hle : y.length ≤ i := h.le
  have hse : setSyn (HP.at_ l i) = HP.at_ l i := by
    generalize HP.at_ l i = p at hs
    cases p
    simp only at hs
    subst hs
    rfl
  refine ⟨hi, h.len, by simp only; omega, ?_, ?_⟩
  · simp only
    rw [take_snoc hi, syncO_snoc, if_pos hs]; exact ho
  · simp only
    rw [take_snoc hi, hg, pdrop_at hi]
    show _ = List.map setSyn (l.take i ++ [HP.at_ l i]) ++ _
    rw [List.map_append, List.append_assoc]
    show _ = _ ++ ([setSyn (HP.at_ l i)] ++ _)
    rw [hse]; rfl
theorem SyncJ.step {l a y : List Pen} {i : Nat} (h : SyncJ l (i, a, y)) (hi : i < l.length) (hs : (HP.at_ l i).syn = false) : SyncJ l (i + 1, a.set i (setSyn (HP.at_ a i)), y ++ [setSyn (HP.at_ a i)]) := by
  have hg : a = syncL (l.take i) ++ l.drop i := h.got
  have ho : y = syncO (l.take i) := h.out
  have hle : y.length ≤ i := h.le
  have hat : HP.at_ a i = HP.at_ l i := h.rest i hi (Nat.le_refl _)
  have hl : (syncL (l.take i)).length = i := by rw [syncL, List.length_map, List.length_take]; omega
  rw [hat]
  refine ⟨hi, by simp only [List.length_set]; exact h.len, by simp only [List.length_append, List.length_cons, List.length_nil]; omega, ?_, ?_⟩
  · simp only
    rw [take_snoc hi, syncO_snoc, if_neg (by rw [hs]; decide), ho]
  · simp only
    rw [take_snoc hi, hg, pdrop_at hi, List.set_append, if_neg (by omega), hl, Nat.sub_self]
    show _ ++ setSyn (HP.at_ l i) :: _ = List.map setSyn (l.take i ++ [HP.at_ l i]) ++ _
    rw [List.map_append, List.append_assoc]
    rfl
theorem SyncJ.done {l a y : List Pen} {i : Nat} (h : SyncJ l (i, a, y)) (hi : ¬ i < l.length) : a = syncL l ∧ y = syncO l := by
  have hg : a = syncL (l.take i) ++ l.drop i := h.got
  have ho : y = syncO (l.take i) := h.out
  rw [List.take_of_length_le (by omega)] at hg ho
  rw [List.drop_of_length_le (by omega), List.append_nil] at hg
  exact ⟨hg, ho⟩
end VX
