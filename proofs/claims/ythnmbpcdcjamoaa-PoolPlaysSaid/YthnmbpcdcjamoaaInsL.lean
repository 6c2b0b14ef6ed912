/- Putting one into a sorted list at its place, told by lists held in arrays: plain Lean. -/
import Derived.Test.YthnmbpcdcjamoaaSrSpec
import Derived.Test.YthnmbpcdcjamoaaLsL
set_option linter.unusedSimpArgs false
set_option linter.unusedVariables false
set_option linter.unusedSectionVars false
namespace VX
open Go

variable {α : Type} [Inhabited α] {lt : α → α → Bool}

theorem ins_at (x : α) : ∀ (o : List α) (k : Nat), k ≤ o.length → (∀ q, q < k → lt x (HP.at_ o q) = false) → (k = o.length ∨ lt x (HP.at_ o k) = true) → HP.ins lt x o = o.take k ++ ([x] ++ o.drop k)
  | [], k, hk, _, _ => by
    have : k = 0 := Nat.le_zero.1 hk
    subst this
    rfl
  | y :: o, 0, _, _, h => by
    rcases h with h | h
    · cases h
    · show (if lt x y = true then x :: y :: o else y :: HP.ins lt x o) = _
      rw [if_pos (show lt x y = true from h)]
      rfl
  | y :: o, k + 1, hk, hq, h => by
    have hy : lt x y = false := hq 0 (Nat.succ_pos _)
    show (if lt x y = true then x :: y :: o else y :: HP.ins lt x o) = _
    rw [hy, if_neg (by decide), ins_at x o k (Nat.le_of_succ_le_succ hk) (fun q hq2 => hq (q + 1) (Nat.succ_lt_succ hq2)) (by
      rcases h with h | h
      · exact .inl (Nat.succ.inj h)
      · exact .inr h)]
    rfl
theorem srt_snoc (ho : HP.Ord lt) (l : List α) (x : α) : HP.srt lt (l ++ [x]) = HP.ins lt x (HP.srt lt l) := by
  symm
  refine HP.srt_of ho (HP.ins_sl ho x (HP.srt_sl ho l)) ((HP.ins_perm x _).trans (((HP.srt_perm l).cons x).trans ?_))
  exact List.perm_append_comm (l₁ := [x]) (l₂ := l)
theorem take_snoc {l : List α} {i : Nat} (hi : i < l.length) : l.take (i + 1) = l.take i ++ [HP.at_ l i] := by
  rw [List.take_add_one, List.getElem?_eq_getElem hi, HP.at_, List.getD_eq_getElem?_getD, List.getElem?_eq_getElem hi]
  rfl
/-- The place at which one is put in: those ahead are not above it. -/
theorem ins_take {l o : List α} {i k : Nat} (ho : HP.Ord lt) (h : o = HP.srt lt (l.take i)) (hi : i < l.length) (hk : k ≤ o.length) (hq : ∀ q, q < k → lt (HP.at_ l i) (HP.at_ o q) = false)
    (hs : k = o.length ∨ lt (HP.at_ l i) (HP.at_ o k) = true) : o.take k ++ ([HP.at_ l i] ++ o.drop k) = HP.srt lt (l.take (i + 1)) := by
  rw [take_snoc hi, srt_snoc ho, ← h, ins_at _ o k hk hq hs]
theorem ls_ins {f : α → A} {o : List α} {x : α} {k : Nat} (hk : k ≤ o.length) {g : Nat → A} (hg : g 0 = f x) {o2 : List α} {m : Nat} (h2 : o2 = o.take k ++ ([x] ++ o.drop k)) (hm : m ≤ k + 1 + (o.length - k)) :
    ∀ j, j < m → (catF (k + 1) (catF k (lsA f o) g) (shiftF k (lsA f o)) j).sim (lsA f o2 j) := fun j hj => A.sim.of (by
  subst h2
  unfold lsA
  by_cases c1 : j < k + 1
  · rw [catF_lt c1]
    by_cases c2 : j < k
    · rw [catF_lt c2]
      simp only [List.getD_eq_getElem?_getD]
      rw [List.getElem?_append_left (by rw [List.length_take]; omega), List.getElem?_take_of_lt c2]
    · rw [catF_ge (by omega)]
      have : j = k := by omega
      subst this
      rw [Nat.sub_self, hg]
      simp only [List.getD_eq_getElem?_getD]
      rw [List.getElem?_append_right (by rw [List.length_take]; omega), List.length_take, Nat.min_eq_left hk, Nat.sub_self]
      rfl
  · rw [catF_ge (by omega)]
    have hsh : ∀ g : Nat → A, shiftF k g (j - (k + 1)) = g (k + (j - (k + 1))) := fun g => by
      cases k with
      | zero => exact congrArg g (Nat.zero_add _).symm
      | succ k => rfl
    rw [hsh]
    simp only [List.getD_eq_getElem?_getD]
    rw [List.getElem?_append_right (by rw [List.length_take]; omega), List.length_take, Nat.min_eq_left hk, List.getElem?_append_right (by simp only [List.length_cons, List.length_nil]; omega), List.getElem?_drop]
    exact congrArg (fun q => f (o[q]?.getD default)) (by simp only [List.length_cons, List.length_nil]; omega))
end VX
