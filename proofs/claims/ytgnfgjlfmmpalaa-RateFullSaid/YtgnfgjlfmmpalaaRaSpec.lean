/- How many requests a name may have at once: one name's state, in plain Lean. -/
import Derived.Test.YtgnfgjlfmmpalaaVxH
set_option linter.unusedSimpArgs false
set_option linter.unusedVariables false
namespace VX
open Go

structure Bk where
  hv : Int
  since : Int
  last : Int
  deriving DecidableEq, Inhabited
abbrev bkA (b : Bk) : A := .agg [.int .i64 b.hv, .int .i64 b.since, .int .i64 b.last]
def maxS (a b : Int) : Int := if a < b then b else a
def minS (a b : Int) : Int := if b < a then b else a
def moreS (b : Bk) (now : Int) : Int := (maxS b.last now - b.since) / 3
def atS (b : Bk) (now : Int) : Bk := if b.hv < 4 ∧ 0 < moreS b now then ⟨minS (b.hv + moreS b now) 4, b.since + moreS b now * 3, maxS b.last now⟩ else ⟨b.hv, b.since, maxS b.last now⟩
def tkS (b : Bk) : Bool × Bk := if b.hv = 0 then (false, b) else (true, ⟨b.hv - 1, if b.hv = 4 then b.last else b.since, b.last⟩)
def bk0 : Bk := ⟨4, 0, 0⟩
structure BkOK (b : Bk) : Prop where
  hv : 0 ≤ b.hv ∧ b.hv ≤ 4
  since : 0 ≤ b.since ∧ b.since ≤ b.last
  last : b.last ≤ 1000000
theorem maxS_ge (a b : Int) : a ≤ maxS a b ∧ b ≤ maxS a b ∧ (maxS a b = a ∨ maxS a b = b) := by
  unfold maxS
  split <;> omega
theorem BkOK.at {b : Bk} (h : BkOK b) {now : Int} (hn : 0 ≤ now ∧ now ≤ 1000000) : BkOK (atS b now) := by
  obtain ⟨⟨h1, h2⟩, ⟨h3, h4⟩, h5⟩ := h
  have hm := maxS_ge b.last now
  have hmo : moreS b now = (maxS b.last now - b.since) / 3 := rfl
  unfold atS
  generalize moreS b now = m at hmo ⊢
  generalize maxS b.last now = L at hm hmo ⊢
  split
  · rename_i h
    refine ⟨?_, ?_, ?_⟩
    · simp only [minS]; split <;> omega
    · simp only; omega
    · simp only; omega
  · exact ⟨⟨h1, h2⟩, ⟨h3, by simp only; omega⟩, by simp only; omega⟩
theorem bk0_ok : BkOK bk0 := ⟨by decide, by decide, by decide⟩
theorem BkOK.tk {b : Bk} (h : BkOK b) : BkOK (tkS b).2 := by
  obtain ⟨⟨h1, h2⟩, ⟨h3, h4⟩, h5⟩ := h
  unfold tkS
  split
  · exact ⟨⟨h1, h2⟩, ⟨h3, h4⟩, h5⟩
  · refine ⟨by simp only; omega, ?_, h5⟩
    simp only
    split <;> omega
/-- The credit of a name. -/
def crS (b : Bk) : Int := if b.hv = 4 then 12 else 3 * b.hv + (b.last - b.since)
theorem crS_nn {b : Bk} (h : BkOK b) : 0 ≤ crS b := by
  have := h.hv
  have := h.since
  unfold crS
  split <;> omega
theorem crS_at {b : Bk} (h : BkOK b) {now : Int} (hn : b.last ≤ now) : crS (atS b now) ≤ crS b + (now - b.last) ∧ crS (atS b now) ≤ 12 ∧ (atS b now).last = now := by
  obtain ⟨⟨h1, h2⟩, ⟨h3, h4⟩, h5⟩ := h
  have hm : maxS b.last now = now := by unfold maxS; split <;> omega
  have hmo : moreS b now = (maxS b.last now - b.since) / 3 := rfl
  unfold atS
  rw [hm] at hmo ⊢
  generalize moreS b now = m at hmo ⊢
  by_cases h : b.hv < 4 ∧ 0 < m
  · rw [if_pos h]
    simp only [crS, minS]
    rw [if_neg (show ¬ b.hv = 4 by omega)]
    refine ⟨?_, ?_, trivial⟩
    · split <;> split <;> omega
    · split <;> split <;> omega
  · rw [if_neg h]
    simp only [crS]
    refine ⟨?_, ?_, trivial⟩
    · split <;> omega
    · split <;> omega
theorem crS_tk {b : Bk} (h : BkOK b) (h0 : ¬ b.hv = 0) : tkS b = (true, (tkS b).2) ∧ crS (tkS b).2 ≤ crS b - 3 ∧ (tkS b).2.last = b.last := by
  obtain ⟨⟨h1, h2⟩, ⟨h3, h4⟩, h5⟩ := h
  unfold tkS
  rw [if_neg h0]
  refine ⟨rfl, ?_, rfl⟩
  simp only [crS]
  by_cases h4' : b.hv = 4
  · rw [if_pos h4', if_pos h4', if_neg (by omega)]; omega
  · rw [if_neg h4', if_neg h4', if_neg (by omega)]; omega
theorem tk_none {b : Bk} (h0 : b.hv = 0) : tkS b = (false, b) := if_pos h0
/-- What was taken, and when. -/
structure TookJ (now : Int) (b : Bk) (l : List Int) : Prop where
  ok : BkOK b
  at_ : b.last = now
  some : 0 < l.length
  bd : ∀ i, i < l.length → 0 ≤ l.getD i 0 ∧ l.getD i 0 ≤ now
  cr : ∀ i : Nat, i < l.length → crS b + 3 * ((l.length : Int) - 1 - i) ≤ 9 + (now - l.getD i 0)
  up : ∀ i j : Nat, i ≤ j → j < l.length → l.getD i 0 ≤ l.getD j 0 ∧ 3 * ((j : Int) - i) ≤ 9 + (l.getD j 0 - l.getD i 0)
theorem getD_snoc {l : List Int} {x : Int} {i : Nat} : (l ++ [x]).getD i 0 = if i < l.length then l.getD i 0 else if i = l.length then x else 0 := by
  rw [List.getD_eq_getElem?_getD, List.getD_eq_getElem?_getD]
  by_cases h : i < l.length
  · rw [if_pos h, List.getElem?_append_left h]
  · rw [if_neg h, List.getElem?_append_right (by omega)]
    by_cases h2 : i = l.length
    · rw [if_pos h2, h2, Nat.sub_self]; rfl
    · rw [if_neg h2]
      have : i - l.length = (i - l.length - 1) + 1 := by omega
      rw [this]; rfl
theorem TookJ.none {now now' : Int} {b : Bk} {l : List Int} (h : TookJ now b l) (hn : now ≤ now') (h9 : now' ≤ 1000000) (h0 : (atS b now').hv = 0) : tkS (atS b now') = (false, atS b now') ∧ TookJ now' (atS b now') l := by
  have h1 := crS_at h.ok (now := now') (by rw [h.at_]; exact hn)
  have hl := h.ok.since
  rw [h.at_] at h1 hl
  refine ⟨tk_none h0, h.ok.at ⟨by omega, h9⟩, h1.2.2, h.some, fun i hi => ?_, fun i hi => ?_, h.up⟩
  · have := h.bd i hi; omega
  · have := h.cr i hi; omega
theorem TookJ.yes {now now' : Int} {b : Bk} {l : List Int} (h : TookJ now b l) (hn : now ≤ now') (h9 : now' ≤ 1000000) (h0 : ¬ (atS b now').hv = 0) : tkS (atS b now') = (true, (tkS (atS b now')).2) ∧ TookJ now' (tkS (atS b now')).2 (l ++ [now']) := by
  have h1 := crS_at h.ok (now := now') (by rw [h.at_]; exact hn)
  have hl := h.ok.since
  rw [h.at_] at h1 hl
  have hok := h.ok.at (now := now') ⟨by omega, h9⟩
  have h2 := crS_tk hok h0
  have h3 := crS_nn hok.tk
  have hlen : (l ++ [now']).length = l.length + 1 := by rw [List.length_append]; rfl
  refine ⟨h2.1, hok.tk, h2.2.2.trans h1.2.2, by omega, fun i hi => ?_, fun i hi => ?_, fun i j hij hj => ?_⟩
  · rw [getD_snoc]
    split
    · have := h.bd i (by assumption); omega
    · split <;> omega
  · rw [getD_snoc, hlen]
    rw [hlen] at hi
    split
    · rename_i hi2
      have := h.cr i hi2
      omega
    · rw [if_pos (by omega)]
      omega
  · rw [getD_snoc, getD_snoc]
    rw [hlen] at hj
    by_cases hjl : j < l.length
    · rw [if_pos hjl, if_pos (by omega)]
      exact h.up i j hij hjl
    · rw [if_neg hjl, if_pos (show j = l.length by omega)]
      by_cases hil : i < l.length
      · rw [if_pos hil]
        have := h.cr i hil
        have := h.bd i hil
        omega
      · rw [if_neg hil, if_pos (by omega)]
        omega
theorem TookJ.first {now : Int} (hn : 0 ≤ now ∧ now ≤ 1000000) : tkS (atS bk0 now) = (true, (tkS (atS bk0 now)).2) ∧ TookJ now (tkS (atS bk0 now)).2 [now] := by
  have h1 := crS_at bk0_ok (now := now) hn.1
  have hok := bk0_ok.at hn
  have h4 : (atS bk0 now).hv = 4 := by
    unfold atS
    rw [if_neg (by rintro ⟨h, _⟩; exact absurd h (by decide))]
    rfl
  have h2 := crS_tk hok (by omega)
  have h3 := crS_nn hok.tk
  refine ⟨h2.1, hok.tk, h2.2.2.trans h1.2.2, Nat.succ_pos _, fun i hi => ?_, fun i hi => ?_, fun i j hij hj => ?_⟩
  · have : i = 0 := by simpa using hi
    subst this
    exact ⟨hn.1, Int.le_refl _⟩
  · have : i = 0 := by simpa using hi
    subst this
    show _ + 3 * ((1 : Int) - 1 - 0) ≤ 9 + (now - now)
    omega
  · have : j = 0 := by simpa using hj
    subst this
    have : i = 0 := by omega
    subst this
    exact ⟨Int.le_refl _, by omega⟩
end VX
