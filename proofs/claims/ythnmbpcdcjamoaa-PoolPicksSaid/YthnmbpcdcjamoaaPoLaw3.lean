/- How many may wait: plain Lean. -/
import Derived.Test.YthnmbpcdcjamoaaPoLaw2
set_option linter.unusedSimpArgs false
set_option linter.unusedVariables false
namespace VX
open Go

def limP (c : Int) (j : Nat) : Pen := ⟨⟨nm j, 1, 1, c, 0, 0⟩, 0, (j : Nat), false⟩
def limL (c : Int) (m : Nat) : List Pen := (List.range m).map (limP c)
theorem limL_len (c : Int) (m : Nat) : (limL c m).length = m := by simp [limL]
theorem limL_snoc (c : Int) (m : Nat) : limL c (m + 1) = limL c m ++ [limP c m] := by
  unfold limL
  rw [List.range_succ, List.map_append]
  rfl
theorem limL_mem {c : Int} {m : Nat} {p : Pen} (h : p ∈ limL c m) : ∃ j, j < m ∧ p = limP c j := by
  obtain ⟨j, hj, e⟩ := List.mem_map.1 h
  exact ⟨j, List.mem_range.1 hj, e.symm⟩
theorem limL_at {c : Int} {m j : Nat} (h : j < m) : HP.at_ (limL c m) j = limP c j := by
  simp [limL, HP.at_, List.getD_eq_getElem?_getD, h]
/-- The class, and how many of it there may be. -/
structure Lim (c : Int) (mo : Nat) : Prop where
  or_ : (c = 0 ∧ mo = 24) ∨ (c = 1 ∧ mo = 32)
theorem lim_may {c : Int} {m i : Nat} (hm : m ≤ i) (hi : i < 100) : mayS (limL c m) (decide (24 ≤ m)) ⟨nm i, 1, 1, c, 0, 0⟩ = if 32 ≤ m ∨ (24 ≤ m ∧ c = 0) then 30 else 0 := by
  unfold mayS
  rw [cntN_zero, if_neg (by decide), limL_len]
  · simp only [decide_eq_true_eq]
  · intro p hp e
    obtain ⟨j, hj, rfl⟩ := limL_mem hp
    have := nm_inj (by omega) hi (show nm j = nm i from e)
    omega
theorem lim_yes {c : Int} {mo i : Nat} (h : Lim c mo) (hi : i < mo) : mayS (limL c i) (decide (24 ≤ i)) ⟨nm i, 1, 1, c, 0, 0⟩ = 0 ∧ addL (limL c i) (decide (24 ≤ i)) ⟨nm i, 1, 1, c, 0, 0⟩ 0 (i : Nat) = limL c (i + 1) ∧ addB (limL c i) (decide (24 ≤ i)) ⟨nm i, 1, 1, c, 0, 0⟩ = decide (24 ≤ i + 1) := by
  have h0 : mayS (limL c i) (decide (24 ≤ i)) ⟨nm i, 1, 1, c, 0, 0⟩ = 0 := by
    rw [lim_may (Nat.le_refl _) (by rcases h.or_ with h | h <;> omega), if_neg]
    rcases h.or_ with h | h <;> omega
  refine ⟨h0, ?_, ?_⟩
  · unfold addL
    rw [if_pos h0, limL_snoc]
    rfl
  · unfold addB
    rw [if_pos h0, limL_len]
    by_cases hc : 24 ≤ i
    · rw [decide_eq_true hc, Bool.true_or, decide_eq_true (by omega)]
    · rw [decide_eq_false hc, Bool.false_or]
theorem lim_no {c : Int} {mo i : Nat} (h : Lim c mo) (hi : mo ≤ i) (h9 : i < 100) : mayS (limL c mo) (decide (24 ≤ mo)) ⟨nm i, 1, 1, c, 0, 0⟩ = 30 ∧ addL (limL c mo) (decide (24 ≤ mo)) ⟨nm i, 1, 1, c, 0, 0⟩ 0 (i : Nat) = limL c mo ∧ addB (limL c mo) (decide (24 ≤ mo)) ⟨nm i, 1, 1, c, 0, 0⟩ = decide (24 ≤ mo) := by
  have h0 : mayS (limL c mo) (decide (24 ≤ mo)) ⟨nm i, 1, 1, c, 0, 0⟩ = 30 := by
    rw [lim_may hi h9, if_pos]
    rcases h.or_ with h | h <;> omega
  refine ⟨h0, if_neg (by rw [h0]; decide), if_neg (by rw [h0]; decide)⟩
def limB (M i : Nat) : Bool := decide (24 ≤ M) && decide (12 < M - i)
theorem lim_gone {c : Int} {M i : Nat} (hi : i < M) : idxP ((limL c M).drop i) (nm i) 1 = 0 ∧ remL ((limL c M).drop i) (nm i) 1 = (limL c M).drop (i + 1) ∧ remB ((limL c M).drop i) (limB M i) (nm i) 1 = limB M (i + 1) := by
  have hd : (limL c M).drop i = limP c i :: (limL c M).drop (i + 1) := by
    rw [pdrop_at (by rw [limL_len]; exact hi), limL_at hi]
  have h0 : idxP ((limL c M).drop i) (nm i) 1 = 0 := by
    rw [hd]
    have : isP (nm i) 1 (limP c i) = false := isP_false.2 ⟨rfl, rfl⟩
    unfold idxP idxS
    rw [this]
    rfl
  refine ⟨h0, ?_, ?_⟩
  · unfold remL
    rw [h0, if_neg (by decide), hd]
    rfl
  · unfold remB limB
    rw [h0, if_neg (by decide), List.length_drop, limL_len]
    by_cases h1 : 24 ≤ M
    · rw [decide_eq_true h1, Bool.true_and, Bool.true_and]
      by_cases h2 : 12 < M - (i + 1)
      · rw [decide_eq_true h2, decide_eq_true (by omega), decide_eq_true (by omega)]; rfl
      · rw [decide_eq_false h2, decide_eq_false (show ¬ 12 < M - i - 1 by omega), Bool.and_false]
    · rw [decide_eq_false h1, Bool.false_and, Bool.false_and, Bool.false_and]
theorem limB_zero (M : Nat) : decide (24 ≤ M) = limB M 0 := by
  unfold limB
  by_cases h : 24 ≤ M
  · rw [decide_eq_true h, decide_eq_true (show 12 < M - 0 by omega)]; rfl
  · rw [decide_eq_false h]; rfl
def oneP (j : Nat) : Pen := ⟨⟨[97], (j : Int) + 1, 1, 0, 0, 0⟩, 0, (j : Nat), false⟩
def oneL (m : Nat) : List Pen := (List.range m).map oneP
theorem oneL_len (m : Nat) : (oneL m).length = m := by simp [oneL]
theorem one_cnt (m : Nat) : cntN (oneL m) [97] = m := by
  unfold cntN
  rw [List.filter_eq_self.2, oneL_len]
  intro p hp
  obtain ⟨j, _, rfl⟩ := List.mem_map.1 hp
  rfl
theorem one_yes {i : Nat} (hi : i < 3) : mayS (oneL i) false ⟨[97], (i : Int) + 1, 1, 0, 0, 0⟩ = 0 ∧ addL (oneL i) false ⟨[97], (i : Int) + 1, 1, 0, 0, 0⟩ 0 (i : Nat) = oneL (i + 1) ∧ addB (oneL i) false ⟨[97], (i : Int) + 1, 1, 0, 0, 0⟩ = false := by
  have h0 : mayS (oneL i) false ⟨[97], (i : Int) + 1, 1, 0, 0, 0⟩ = 0 := by
    unfold mayS
    rw [one_cnt, oneL_len, if_neg (by omega), if_neg (by simp; omega)]
  refine ⟨h0, ?_, ?_⟩
  · unfold addL
    rw [if_pos h0]
    unfold oneL
    rw [List.range_succ, List.map_append]
    rfl
  · unfold addB
    rw [if_pos h0, oneL_len, decide_eq_false (by omega)]
    rfl
theorem one_no (i : Nat) : mayS (oneL 3) false ⟨[97], (i : Int) + 1, 1, 0, 0, 0⟩ = 29 ∧ addL (oneL 3) false ⟨[97], (i : Int) + 1, 1, 0, 0, 0⟩ 0 (i : Nat) = oneL 3 ∧ addB (oneL 3) false ⟨[97], (i : Int) + 1, 1, 0, 0, 0⟩ = false := by
  have h0 : mayS (oneL 3) false ⟨[97], (i : Int) + 1, 1, 0, 0, 0⟩ = 29 := by
    unfold mayS
    rw [one_cnt, if_pos (by decide)]
  exact ⟨h0, if_neg (by rw [h0]; decide), if_neg (by rw [h0]; decide)⟩
end VX
