/- Logs that grow, in plain Lean: what is proved is believed, and nothing of another length. -/
import Derived.Test.YtfgpiobnmddmhaaGrSpec3
set_option linter.unusedSimpArgs false
set_option linter.unusedVariables false
namespace VX
open Go
theorem take_snoc {α : Type} (q : List α) (x : α) : (q ++ [x]).take ((q ++ [x]).length - 1) = q := by
  rw [List.length_append]; simp
theorem get_snoc {α : Type} [Inhabited α] (q : List α) (x : α) : (q ++ [x]).getD ((q ++ [x]).length - 1) default = x := by
  rw [List.length_append, List.getD_eq_getElem?_getD, List.getElem?_append_right (by simp)]; simp
theorem both_sub : ∀ (c : Nat) (l : List Hs) (m : Nat) (w : Bool) (old : Hs), l.length = c → 1 ≤ m → m ≤ c → (w = true → old = rootS (l.take m)) →
    bothS old m c w (subS l m w) = (rootS (l.take m), rootS l, true) := by
  intro c
  induction c using Nat.strongRecOn with
  | _ c IH =>
  intro l m w old hc h1 h2 ho
  by_cases hm : m = c
  · subst hm
    rw [bothS_same h1]
    have ht : l.take m = l := List.take_of_length_le (by omega)
    rw [ht] at ho ⊢
    have hs : subS l m w = if w then [] else [rootS l] := by rw [← hc]; exact subS_all (by omega) w
    rw [hs]
    cases w with
    | true => rw [if_pos rfl, if_pos rfl, ho rfl]; rfl
    | false => rfl
  · have hl : 2 ≤ l.length := by omega
    have hk := splitS_facts hl
    have e := take_lt hl
    rw [subS_part h1 (by omega), rootS_two hl]
    by_cases hik : m ≤ splitS l.length
    · rw [if_pos hik, bothS_left h1 (by omega) (by rw [← hc]; exact hik) old w (by simp), take_snoc, get_snoc]
      have htt : (l.take (splitS l.length)).take m = l.take m := by rw [List.take_take, Nat.min_eq_left hik]
      have ih := IH (splitS c) (by rw [← hc]; omega) (l.take (splitS l.length)) m w old (by rw [e.1, hc]) h1 (by rw [← hc]; exact hik) (by rw [htt]; exact ho)
      rw [ih, htt]
    · rw [if_neg hik, bothS_right (by omega) (by rw [← hc]; exact hik) old w (by simp), take_snoc, get_snoc]
      have ih := IH (c - splitS c) (by rw [← hc]; omega) (l.drop (splitS l.length)) (m - splitS l.length) false old (by rw [e.2, hc]) (by omega) (by rw [← hc]; omega) (fun h => by cases h)
      rw [hc] at ih ⊢
      rw [ih]
      obtain ⟨j, hj⟩ := splitS_pow (n := c) (by omega)
      rw [hc] at hk hik
      have hsm : splitS m = splitS c := by rw [hj]; exact splitS_uniq (by omega) (by omega) (by omega)
      have hlm : (l.take m).length = m := by rw [List.length_take]; omega
      have hr : rootS (l.take m) = nodeS (rootS (l.take (splitS c))) (rootS ((l.drop (splitS c)).take (m - splitS c))) := by
        rw [rootS_two (l := l.take m) (by omega), hlm, hsm, List.take_take, Nat.min_eq_left (by omega), List.drop_take]
      rw [hr]
theorem grown_prove {l : List Hs} {m : Nat} (h1 : 1 ≤ m) (h2 : m ≤ l.length) : grownS (rootS (l.take m)) (rootS l) m l.length (subS l m true) = true := by
  unfold grownS
  rw [if_neg (by omega), Int.toNat_natCast, Int.toNat_natCast, both_sub l.length l m true _ rfl h1 h2 (fun _ => rfl)]
  simp
theorem grown_len {old new : Hs} {m n : Nat} {p : List Hs} (h1 : 1 ≤ m) (h2 : m < n) (h : grownS old new m n p = true) : p.length + (if pow2 m then 1 else 0) = (dS m n).length + 1 := by
  unfold grownS at h
  rw [if_neg (by omega), Int.toNat_natCast, Int.toNat_natCast] at h
  have hk := (both_fold n m old true p h1 (by omega)).1
  rw [Bool.and_eq_true] at h
  rw [h.1, Bool.true_and, noL_pow _ _ h1 h2] at hk
  have hk := of_decide_eq_true hk.symm
  unfold withOld at hk
  cases hq : pow2 m <;> rw [hq] at hk <;> simpa using hk
theorem grown_other {old new old' new' : Hs} {m n : Nat} {p q : List Hs} (h1 : 1 ≤ m) (h2 : m < n) (h : grownS old new m n p = true) (hq : q.length ≠ p.length) : grownS old' new' m n q = false := by
  apply Bool.eq_false_iff.2
  intro h'
  have a := grown_len h1 h2 h
  have b := grown_len h1 h2 h'
  omega
theorem subS_pos {l : List Hs} {m : Nat} (w : Bool) (h1 : 1 ≤ m) (h2 : m < l.length) : 1 ≤ (subS l m w).length := by
  rw [subS_part h1 h2]
  split <;> simp
theorem proveA_out {l : List Hs} {m : Int} (h : m < 1 ∨ (l.length : Int) < m) : proveA l m = ([], false) := if_pos h
theorem proveA_in {l : List Hs} {m : Nat} (h1 : 1 ≤ m) (h2 : m ≤ l.length) : proveA l m = (subS l m true, true) := by
  unfold proveA
  rw [if_neg (by omega), Int.toNat_natCast]
theorem proveA_32 (l : List Hs) (m : Int) (h : ∀ x ∈ l, x.length = 32) : ∀ x ∈ (proveA l m).1, x.length = 32 := by
  unfold proveA
  split
  · intro x hx; cases hx
  · exact (subS_32 _ l _ true rfl (by omega) (by omega) h).1
theorem proveA_len (l : List Hs) (m : Int) (h : ∀ x ∈ l, x.length = 32) : (proveA l m).1.length ≤ l.length := by
  unfold proveA
  split
  · exact Nat.zero_le _
  · exact (subS_32 _ l _ true rfl (by omega) (by omega) h).2
theorem grown_same {old new : Hs} {n : Nat} (h1 : 1 ≤ n) (p : List Hs) : grownS old new n n p = (p.isEmpty && decide (old = new)) := by
  unfold grownS
  rw [if_neg (by omega), Int.toNat_natCast, bothS_same h1]
  simp
theorem grown_out {old new : Hs} {m n : Int} (h : m < 1 ∨ n < m) (p : List Hs) : grownS old new m n p = false := if_pos h
end VX
