/- Records of a journal: what their parts say. -/
import Derived.Test.YtpgjheokcdpgjaaJoSpec
set_option linter.unusedSimpArgs false
set_option linter.unusedVariables false
namespace VX
open Go
theorem right1 {r : Rec} (h : tickR r.seq = true) (k : r.kind = 1) : rightS r = (tickR r.gen && (decide (0 ≤ r.count ∧ r.count ≤ 32) && decide (r.u = default ∧ r.tick = 0 ∧ r.epoch = 0))) := by
  unfold rightS; rw [h, if_pos k, Bool.true_and]
theorem right2 {r : Rec} (h : tickR r.seq = true) (k : r.kind = 2) : rightS r = (updRight r.u && (tickR r.tick && decide (r.gen = 0 ∧ r.count = 0 ∧ r.epoch = 0))) := by
  unfold rightS; rw [h, if_neg (by omega), if_pos k, Bool.true_and]
theorem right3 {r : Rec} (h : tickR r.seq = true) (k : r.kind = 3) : rightS r = (decide (1 ≤ r.epoch ∧ r.epoch ≤ 1073741824) && decide (r.gen = 0 ∧ r.count = 0 ∧ r.u = default ∧ r.tick = 0)) := by
  unfold rightS; rw [h, if_neg (by omega), if_neg (by omega), if_pos k, Bool.true_and]
theorem updD (u : Upd) : u = default ↔ u.name = [] ∧ u.ver = 0 ∧ u.key = 0 ∧ u.cls = 0 ∧ u.r = 0 ∧ u.s = 0 := by
  cases u
  constructor
  · intro h
    cases h
    exact ⟨rfl, rfl, rfl, rfl, rfl, rfl⟩
  · rintro ⟨h1, h2, h3, h4, h5, h6⟩
    simp only at h1 h2 h3 h4 h5 h6
    subst h1 h2 h3 h4 h5 h6
    rfl
theorem recZ1 (r : Rec) : (bif true then decide ((0 : Int) = 0) && (decide ((0 : Int) = 0) && (decide ((0 : Int) = 0) && (decide ((0 : Int) = 0) && (decide (r.u.name = []) && (decide (r.u.ver = 0) && (decide (r.u.key = 0) && (decide (r.u.cls = 0) && (decide (r.u.r = 0) && (decide (r.u.s = 0) && true) && true)))) && (decide (r.tick = 0) && (decide (r.epoch = 0) && true)))))) else false) = decide (r.u = default ∧ r.tick = 0 ∧ r.epoch = 0) := by
  rw [Bool.eq_iff_iff]
  simp only [updD, cond_true, Bool.and_eq_true, decide_eq_true_eq, Bool.and_true, true_and, and_assoc]
theorem recZ2 (r : Rec) : (bif true then decide ((0 : Int) = 0) && (decide ((0 : Int) = 0) && (decide (r.gen = 0) && (decide (r.count = 0) && (decide (([] : List UInt8) = []) && (decide ((0 : Int) = 0) && (decide ((0 : Int) = 0) && (decide ((0 : Int) = 0) && (decide ((0 : Int) = 0) && (decide ((0 : Int) = 0) && true) && true)))) && (decide ((0 : Int) = 0) && (decide (r.epoch = 0) && true)))))) else false) = decide (r.gen = 0 ∧ r.count = 0 ∧ r.epoch = 0) := by
  rw [Bool.eq_iff_iff]
  simp only [cond_true, Bool.and_eq_true, decide_eq_true_eq, Bool.and_true, true_and, and_assoc]
theorem recZ3 (r : Rec) : (bif true then decide ((0 : Int) = 0) && (decide ((0 : Int) = 0) && (decide (r.gen = 0) && (decide (r.count = 0) && (decide (r.u.name = []) && (decide (r.u.ver = 0) && (decide (r.u.key = 0) && (decide (r.u.cls = 0) && (decide (r.u.r = 0) && (decide (r.u.s = 0) && true) && true)))) && (decide (r.tick = 0) && (decide ((0 : Int) = 0) && true)))))) else false) = decide (r.gen = 0 ∧ r.count = 0 ∧ r.u = default ∧ r.tick = 0) := by
  rw [Bool.eq_iff_iff]
  simp only [updD, cond_true, Bool.and_eq_true, decide_eq_true_eq, Bool.and_true, true_and, and_true, and_assoc]
structure RecOK (r : Rec) : Prop where
  kind : inr .i64 r.kind
  seq : inr .i64 r.seq
  gen : inr .i64 r.gen
  count : inr .i64 r.count
  u : UpdOK r.u
  tick : inr .i64 r.tick
  epoch : inr .i64 r.epoch
theorem right_facts {r : Rec} (h : rightS r = true) : (0 ≤ r.seq ∧ r.seq ≤ 1152921504606846976) ∧ (r.kind = 1 ∧ 0 ≤ r.gen ∧ r.gen ≤ 1152921504606846976 ∧ 0 ≤ r.count ∧ r.count ≤ 32 ∨ r.kind = 2 ∧ 0 ≤ r.tick ∧ r.tick ≤ 1152921504606846976 ∧ updRight r.u = true ∨ r.kind = 3 ∧ 1 ≤ r.epoch ∧ r.epoch ≤ 1073741824) := by
  have hs : tickR r.seq = true := by
    unfold rightS at h
    rw [Bool.and_eq_true] at h
    exact h.1
  refine ⟨of_decide_eq_true hs, ?_⟩
  by_cases k1 : r.kind = 1
  · rw [right1 hs k1] at h
    simp only [tickR, Bool.and_eq_true, decide_eq_true_eq] at h
    exact .inl ⟨k1, h.1.1, h.1.2, h.2.1.1, h.2.1.2⟩
  by_cases k2 : r.kind = 2
  · rw [right2 hs k2] at h
    simp only [tickR, Bool.and_eq_true, decide_eq_true_eq] at h
    exact .inr (.inl ⟨k2, h.2.1.1, h.2.1.2, h.1⟩)
  by_cases k3 : r.kind = 3
  · rw [right3 hs k3] at h
    simp only [Bool.and_eq_true, decide_eq_true_eq] at h
    exact .inr (.inr ⟨k3, h.1.1, h.1.2⟩)
  · unfold rightS at h
    rw [if_neg k1, if_neg k2, if_neg k3, Bool.and_false] at h
    cases h
theorem body1 {r : Rec} (k : r.kind = 1) : bodyS r = numS r.gen ++ numS r.count := if_pos k
theorem body2 {r : Rec} (k : r.kind = 2) (hu : updRight r.u = true) : bodyS r = numS r.tick ++ uB r.u := by
  unfold bodyS uputS
  rw [if_neg (by omega), if_pos k, if_pos hu]
theorem body3 {r : Rec} (k : r.kind = 3) : bodyS r = numS r.epoch := by
  unfold bodyS
  rw [if_neg (by omega), if_neg (by omega)]
theorem body_len {r : Rec} (h : rightS r = true) : (bodyS r).length ≤ 88 := by
  obtain ⟨h0, h1 | h1 | h1⟩ := right_facts h
  · rw [body1 h1.1, List.length_append, numS_length, numS_length]; omega
  · have := updRight_facts h1.2.2.2
    rw [body2 h1.1 h1.2.2.2, List.length_append, numS_length, uB_len]; omega
  · rw [body3 h1.1, numS_length]; omega
theorem jput_eq {r : Rec} (h : rightS r = true) : putS r.kind r.seq (bodyS r) = (frameB (byteI r.kind) r.seq (bodyS r), 0) := by
  have hb := body_len h
  obtain ⟨h0, h1⟩ := right_facts h
  unfold putS
  rw [if_neg (by omega), if_neg (by omega)]
theorem jput_zero {r : Rec} (h : rightS r = true) : (putS r.kind r.seq (bodyS r)).2 = 0 := by rw [jput_eq h]
end VX
