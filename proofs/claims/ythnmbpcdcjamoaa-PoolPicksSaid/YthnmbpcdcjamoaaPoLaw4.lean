/- What is synced: plain Lean. -/
import Derived.Test.YthnmbpcdcjamoaaPoLaw3
set_option linter.unusedSimpArgs false
set_option linter.unusedVariables false
namespace VX
open Go

def syP (b : Bool) (l : List UInt8) (j : Nat) : Pen := ⟨⟨nm j, 1, 1, 0, 0, 0⟩, ((l.getD j 0).toNat : Nat), (j : Nat), b⟩
def syL (t : Nat) (l : List UInt8) (i : Nat) : List Pen := (List.range i).map fun j => syP (decide (t < i ∧ j ≤ t)) l j
def alL (l : List UInt8) (i : Nat) : List Pen := (List.range i).map fun j => syP true l j
def nmL (i : Nat) : List (List UInt8) := (List.range i).map nm
theorem nmL_len (i : Nat) : (nmL i).length = i := by simp [nmL]
theorem nmL_snoc (i : Nat) : nmL (i + 1) = nmL i ++ [nm i] := by
  unfold nmL
  rw [List.range_succ, List.map_append]
  rfl
theorem nmL_at {i j : Nat} (h : j < i) : HP.at_ (nmL i) j = nm j := by
  simp [nmL, HP.at_, List.getD_eq_getElem?_getD, h]
theorem syL_len (t : Nat) (l : List UInt8) (i : Nat) : (syL t l i).length = i := by simp [syL]
theorem alL_len (l : List UInt8) (i : Nat) : (alL l i).length = i := by simp [alL]
theorem alL_at {l : List UInt8} {i j : Nat} (h : j < i) : HP.at_ (alL l i) j = syP true l j := by
  simp [alL, HP.at_, List.getD_eq_getElem?_getD, h]
theorem syL_mem {t : Nat} {l : List UInt8} {i : Nat} {p : Pen} (h : p ∈ syL t l i) : ∃ j b, j < i ∧ p = syP b l j := by
  obtain ⟨j, hj, e⟩ := List.mem_map.1 h
  exact ⟨j, _, List.mem_range.1 hj, e.symm⟩
theorem sy_ticks {t : Nat} {l : List UInt8} {i : Nat} : ∀ p ∈ syL t l i, 0 ≤ p.tick ∧ p.tick ≤ 1000000000 := fun p hp => by
  obtain ⟨j, b, _, rfl⟩ := syL_mem hp
  have := (l.getD j 0).toNat_lt
  simp only [syP]
  omega
theorem al_ticks {l : List UInt8} {i : Nat} : ∀ p ∈ alL l i, 0 ≤ p.tick ∧ p.tick ≤ 1000000000 := fun p hp => by
  obtain ⟨j, hj, e⟩ := List.mem_map.1 hp
  subst e
  have := (l.getD j 0).toNat_lt
  simp only [syP]
  omega
theorem sy_add {t : Nat} {l : List UInt8} {i : Nat} (hi : i < 20) : mayS (syL t l i) false ⟨nm i, 1, 1, 0, 0, 0⟩ = 0 ∧ addL (syL t l i) false ⟨nm i, 1, 1, 0, 0, 0⟩ ((l.getD i 0).toNat : Nat) (i : Nat) = syL t l i ++ [syP false l i] ∧ addB (syL t l i) false ⟨nm i, 1, 1, 0, 0, 0⟩ = false := by
  have h0 : mayS (syL t l i) false ⟨nm i, 1, 1, 0, 0, 0⟩ = 0 := by
    refine mayS_zero (fun p hp e => ?_) (by rw [syL_len]; omega) rfl
    obtain ⟨j, b, hj, rfl⟩ := syL_mem hp
    have := nm_inj (by omega) (by omega) (show nm j = nm i from e)
    omega
  refine ⟨h0, if_pos h0, ?_⟩
  unfold addB
  rw [if_pos h0, syL_len, decide_eq_false (by omega)]
  rfl
theorem sy_ne {t : Nat} {l : List UInt8} {i : Nat} (h : i ≠ t) : syL t l i ++ [syP false l i] = syL t l (i + 1) := by
  unfold syL
  rw [List.range_succ, List.map_append]
  have e1 : (List.range i).map (fun j => syP (decide (t < i ∧ j ≤ t)) l j) = (List.range i).map fun j => syP (decide (t < i + 1 ∧ j ≤ t)) l j := by
    refine List.map_congr_left fun j hj => ?_
    rw [show decide (t < i ∧ j ≤ t) = decide (t < i + 1 ∧ j ≤ t) from decide_eq_decide.2 (by omega)]
  have e2 : decide (t < i + 1 ∧ i ≤ t) = false := decide_eq_false (by omega)
  rw [e1]
  show _ ++ [syP false l i] = _ ++ [syP (decide (t < i + 1 ∧ i ≤ t)) l i]
  rw [e2]
theorem sy_eq (t : Nat) (l : List UInt8) : syL t l t ++ [syP false l t] = (List.range (t + 1)).map (syP false l) := by
  unfold syL
  rw [List.range_succ, List.map_append]
  have e1 : (List.range t).map (fun j => syP (decide (t < t ∧ j ≤ t)) l j) = (List.range t).map (syP false l) := by
    refine List.map_congr_left fun j hj => ?_
    rw [decide_eq_false (by omega)]
  rw [e1]
  rfl
theorem sy_now (t : Nat) (l : List UInt8) : syL t l (t + 1) = alL l (t + 1) := by
  unfold syL alL
  refine List.map_congr_left fun j hj => ?_
  have := List.mem_range.1 hj
  rw [decide_eq_true (by omega)]
theorem sy_sync (t : Nat) (l : List UInt8) : syncL (syL t l t ++ [syP false l t]) = alL l (t + 1) ∧ syncO (syL t l t ++ [syP false l t]) = alL l (t + 1) := by
  rw [sy_eq]
  have h1 : syncL ((List.range (t + 1)).map (syP false l)) = alL l (t + 1) := by
    unfold syncL alL
    rw [List.map_map]
    rfl
  refine ⟨h1, ?_⟩
  unfold syncO
  rw [List.filter_eq_self.2]
  · exact h1
  · intro p hp
    obtain ⟨j, _, e⟩ := List.mem_map.1 hp
    subst e
    rfl
theorem al_nodup {l : List UInt8} {n : Nat} (hn : n ≤ 100) : ((alL l n).map (·.u.name)).Nodup := by
  have : (alL l n).map (·.u.name) = (List.range n).map nm := by
    unfold alL
    rw [List.map_map]
    rfl
  rw [this]
  exact nodup_range hn
theorem al_syn (l : List UInt8) (n : Nat) : (alL l n).filter synP = alL l n := by
  rw [List.filter_eq_self]
  intro p hp
  obtain ⟨j, _, e⟩ := List.mem_map.1 hp
  subst e
  rfl
theorem al_pick {l : List UInt8} {n : Nat} (hn : n ≤ 20) : (pickS (fun _ => 0) (alL l n) 99).length = n := by
  rw [pick_len, frs_all (al_nodup (by omega)), al_syn, alL_len]
  show min 99 n = n
  omega
/-- How many are synced by themselves. -/
def wasN (t n : Nat) : Nat := if t < n then t + 1 else 0
theorem was_le (t n : Nat) : wasN t n ≤ n := by
  unfold wasN
  split <;> omega
theorem sy_flags (t : Nat) (l : List UInt8) (n : Nat) : syL t l n = (List.range n).map fun j => syP (decide (j < wasN t n)) l j := by
  unfold syL
  refine List.map_congr_left fun j hj => ?_
  have := List.mem_range.1 hj
  rw [show decide (t < n ∧ j ≤ t) = decide (j < wasN t n) from decide_eq_decide.2 (by
    unfold wasN
    split <;> omega)]
theorem range_split {w n : Nat} (h : w ≤ n) : List.range n = List.range w ++ (List.range n).drop w := by
  conv => lhs; rw [← List.take_append_drop w (List.range n)]
  rw [List.take_range, Nat.min_eq_left h]
theorem sy_was (t : Nat) (l : List UInt8) (n : Nat) : ((syL t l n).filter synP).length = wasN t n := by
  rw [sy_flags, range_split (was_le t n), List.map_append, List.filter_append, List.filter_eq_self.2, List.filter_eq_nil_iff.2]
  · simp
  · intro p hp
    obtain ⟨j, hj, e⟩ := List.mem_map.1 hp
    subst e
    rw [List.mem_drop_iff_getElem] at hj
    obtain ⟨q, hq, e⟩ := hj
    have : j = wasN t n + q := by rw [← e]; simp
    simp [synP, syP]
    omega
  · intro p hp
    obtain ⟨j, hj, e⟩ := List.mem_map.1 hp
    subst e
    have := List.mem_range.1 hj
    simp [synP, syP]
    omega
theorem sy_rest (t : Nat) (l : List UInt8) (n : Nat) : syncL (syL t l n) = alL l n ∧ syncO (syL t l n) = (alL l n).drop (wasN t n) := by
  refine ⟨?_, ?_⟩
  · unfold syncL syL alL
    rw [List.map_map]
    rfl
  · rw [sy_flags]
    unfold syncO
    rw [range_split (was_le t n), List.map_append, List.filter_append, List.filter_eq_nil_iff.2, List.filter_eq_self.2]
    · rw [List.nil_append, List.map_map]
      unfold alL
      rw [← List.map_drop]
      rfl
    · intro p hp
      obtain ⟨j, hj, e⟩ := List.mem_map.1 hp
      subst e
      rw [List.mem_drop_iff_getElem] at hj
      obtain ⟨q, hq, e⟩ := hj
      have : j = wasN t n + q := by rw [← e]; simp
      simp [syP]
      omega
    · intro p hp
      obtain ⟨j, hj, e⟩ := List.mem_map.1 hp
      subst e
      have := List.mem_range.1 hj
      simp [syP]
      omega
theorem al_done (l : List UInt8) (n : Nat) : syncL (alL l n) = alL l n ∧ syncO (alL l n) = [] := by
  refine ⟨?_, ?_⟩
  · unfold syncL alL
    rw [List.map_map]
    rfl
  · unfold syncO
    rw [List.filter_eq_nil_iff.2]
    · rfl
    · intro p hp
      obtain ⟨j, _, e⟩ := List.mem_map.1 hp
      subst e
      simp [syP]
theorem al_near0 (l : List UInt8) : nearS (alL l 0) = (0, false) := rfl
theorem alL_snoc (l : List UInt8) (i : Nat) : alL l (i + 1) = alL l i ++ [syP true l i] := by
  unfold alL
  rw [List.range_succ, List.map_append]
  rfl
theorem minT_start (r : List Pen) (x : Pen) (c : Int) (h : x.tick < c) : minT (x :: r) c = minT r x.tick := by
  unfold minT
  rw [List.foldl_cons, if_pos h]
theorem al_near {l : List UInt8} {n : Nat} (h : 0 < n) : nearS (alL l n) = (minT (alL l n) 1048536 + 40, true) := by
  have hn : nearS (alL l n) = match (alL l n).filter synP with
    | [] => (0, false)
    | x :: r => (minT r x.tick + 40, true) := rfl
  rw [hn, al_syn]
  have hl := alL_len l n
  have ht := al_ticks (l := l) (i := n)
  have hb : ∀ p ∈ alL l n, p.tick < 1048536 := fun p hp => by
    obtain ⟨j, hj, e⟩ := List.mem_map.1 hp
    subst e
    have := (l.getD j 0).toNat_lt
    simp only [syP]
    omega
  generalize alL l n = a at hl hb
  cases a with
  | nil => simp at hl; omega
  | cons x r => rw [minT_start r x _ (hb x (List.mem_cons_self ..))]
end VX
