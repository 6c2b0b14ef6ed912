/- A journal's beginning: plain Lean. -/
import Derived.Test.YtpgjheokcdpgjaaJoSpec3
import Derived.Test.YtpgjheokcdpgjaaPoSpec2
set_option linter.unusedSimpArgs false
set_option linter.unusedVariables false
namespace VX
open Go
abbrev baseR (gen seq : Int) (n : Nat) : Rec := ⟨1, seq, gen, (n : Int), ⟨[], 0, 0, 0, 0, 0⟩, 0, 0⟩
abbrev penR (seq : Int) (i : Nat) (p : Pen) : Rec := ⟨2, seq + 1 + (i : Int), 0, 0, p.u, p.tick, 0⟩
def bsP (gen seq : Int) (l : List Pen) : Nat → List UInt8
  | 0 => (jputS (baseR gen seq l.length)).1
  | i + 1 => bsP gen seq l i ++ (jputS (penR seq i (HP.at_ l i))).1
def bsOK (gen seq : Int) (l : List Pen) (n : Nat) : Prop := rightS (baseR gen seq l.length) = true ∧ ∀ j, j < n → rightS (penR seq j (HP.at_ l j)) = true
open Classical in
noncomputable def bseS (gen seq : Int) (l : List Pen) : List UInt8 := if bsOK gen seq l l.length then bsP gen seq l l.length else []
theorem base_facts {gen seq : Int} {n : Nat} (h : rightS (baseR gen seq n) = true) : (0 ≤ seq ∧ seq ≤ 1152921504606846976) ∧ 0 ≤ gen ∧ gen ≤ 1152921504606846976 ∧ n ≤ 32 := by
  obtain ⟨h0, h1 | h1 | h1⟩ := right_facts h
  · simp only at h0 h1; refine ⟨h0, ?_, ?_, ?_⟩ <;> omega
  · exact absurd h1.1 (by show ¬ (1 : Int) = 2; decide)
  · exact absurd h1.1 (by show ¬ (1 : Int) = 3; decide)
theorem base_ok {gen seq : Int} {n : Nat} (hg : inr .i64 gen) (hs : inr .i64 seq) (hn : n ≤ 1000000) : RecOK (baseR gen seq n) :=
  ⟨inr_i64.2 ⟨show (-9223372036854775808 : Int) ≤ 1 by decide, show (1 : Int) ≤ 9223372036854775807 by decide⟩, hs, hg, inr_i64.2 ⟨by show _ ≤ (n : Int); omega, by show (n : Int) ≤ _; omega⟩, upd0_ok, i64_0, i64_0⟩
theorem pen_ok {seq : Int} {i : Nat} {p : Pen} (hs : 0 ≤ seq ∧ seq ≤ 1152921504606846976) (hi : i ≤ 1000000) (hu : UpdOK p.u) (ht : inr .i64 p.tick) : RecOK (penR seq i p) :=
  ⟨inr_i64.2 ⟨show (-9223372036854775808 : Int) ≤ 2 by decide, show (2 : Int) ≤ 9223372036854775807 by decide⟩, inr_i64.2 ⟨by show _ ≤ seq + 1 + (i : Int); omega, by show seq + 1 + (i : Int) ≤ _; omega⟩, i64_0, i64_0, hu, ht, i64_0⟩
theorem jput_len (r : Rec) : (jputS r).1.length ≤ 109 := by
  unfold jputS
  split
  · rename_i h
    have := body_len h
    rw [jput_eq h, frameB_len]
    omega
  · exact Nat.zero_le _
theorem bsP_len (gen seq : Int) (l : List Pen) : ∀ i, (bsP gen seq l i).length ≤ 109 + 109 * i
  | 0 => jput_len _
  | i + 1 => by
    have h1 := bsP_len gen seq l i
    have h2 := jput_len (penR seq i (HP.at_ l i))
    rw [bsP, List.length_append]
    omega
theorem bse_no {gen seq : Int} {l : List Pen} (h : rightS (baseR gen seq l.length) = false) : bseS gen seq l = [] := by
  unfold bseS
  rw [if_neg]
  intro h1
  rw [h1.1] at h; cases h
theorem bse_pen {gen seq : Int} {l : List Pen} {i : Nat} (hi : i < l.length) (h : rightS (penR seq i (HP.at_ l i)) = false) : bseS gen seq l = [] := by
  unfold bseS
  rw [if_neg]
  intro h1
  rw [h1.2 i hi] at h; cases h
theorem bse_yes {gen seq : Int} {l : List Pen} (h0 : rightS (baseR gen seq l.length) = true) (h : ∀ j, j < l.length → rightS (penR seq j (HP.at_ l j)) = true) : bseS gen seq l = bsP gen seq l l.length := if_pos ⟨h0, h⟩
theorem pen_step {p : Nat → Prop} {i : Nat} (h : ∀ j, j < i → p j) (hi : p i) : ∀ j, j < i + 1 → p j := fun j hj => by
  rcases Nat.lt_succ_iff_lt_or_eq.1 hj with h1 | h1
  · exact h j h1
  · rw [h1]; exact hi
end VX
