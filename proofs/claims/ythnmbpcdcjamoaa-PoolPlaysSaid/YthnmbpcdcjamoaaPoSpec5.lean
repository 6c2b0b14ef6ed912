/- The nearest deadline, the first of a name: one by one, plain Lean. -/
import Derived.Test.YthnmbpcdcjamoaaPoLaw2
set_option linter.unusedSimpArgs false
set_option linter.unusedVariables false
namespace VX
open Go

theorem nearS_snoc (l : List Pen) (x : Pen) : nearS (l ++ [x]) = if x.syn = true then (if (nearS l).2 = false ∨ x.tick + 40 < (nearS l).1 then (x.tick + 40, true) else nearS l) else nearS l := by
  unfold nearS
  rw [List.filter_append]
  by_cases h : x.syn = true
  · rw [if_pos h, List.filter_cons_of_pos (by exact h)]
    cases hf : l.filter synP with
    | nil => simp [minT]
    | cons y r =>
      simp only [List.cons_append]
      have e : minT (r ++ List.filter synP []) y.tick = minT r y.tick := by simp
      show (minT (r ++ [x]) y.tick + 40, true) = _
      rw [minT_snoc]
      by_cases h2 : x.tick < minT r y.tick
      · rw [if_pos h2, if_pos (.inr (by omega))]
      · rw [if_neg h2, if_neg (by rintro (h | h); cases h; omega)]
  · rw [if_neg h, List.filter_cons_of_neg (by exact h), List.filter_nil, List.append_nil]
def notN (s : List UInt8) (p : Pen) : Bool := !decide (p.u.name = s)
theorem notN_false {s : List UInt8} {p : Pen} : notN s p = false ↔ p.u.name = s := by simp [notN]
theorem notN_true {s : List UInt8} {p : Pen} : notN s p = true ↔ p.u.name ≠ s := by simp [notN]
def fstI (l : List Pen) (s : List UInt8) : Int := idxS (notN s) l 0
theorem fstI_iff {l : List Pen} {i : Nat} (hi : i < l.length) : fstI l (HP.at_ l i).u.name = (i : Nat) ↔ (HP.at_ l i).u.name ∉ (l.take i).map (·.u.name) := by
  rcases idxS_at (notN (HP.at_ l i).u.name) l 0 with ⟨_, h2⟩ | ⟨j, h1, e, h3, h4⟩
  · have := h2 _ (HP.at_mem hi)
    rw [notN_false.2 rfl] at this
    cases this
  · rw [Nat.zero_add] at e
    rw [show fstI l (HP.at_ l i).u.name = (j : Nat) from e]
    constructor
    · intro h hm
      have hji : j = i := by omega
      subst hji
      obtain ⟨p, hp, e2⟩ := List.mem_map.1 hm
      obtain ⟨q, hq, e3⟩ := HP.mem_at hp
      rw [List.length_take] at hq
      rw [HP.at_take (by omega)] at e3
      have := h4 q (by omega)
      rw [e3, notN_true] at this
      exact this e2
    · intro h
      rcases Nat.lt_trichotomy i j with q | q | q
      · have := h4 i q
        rw [notN_false.2 rfl] at this
        cases this
      · rw [q]
      · exfalso
        apply h
        refine List.mem_map.2 ⟨HP.at_ l j, ?_, notN_false.1 h3⟩
        have : HP.at_ (l.take i) j = HP.at_ l j := HP.at_take q
        rw [← this]
        exact HP.at_mem (by rw [List.length_take]; omega)
theorem fstI_at {l : List Pen} {s : List UInt8} (h : s ∈ l.map (·.u.name)) : ∃ j : Nat, j < l.length ∧ fstI l s = (j : Nat) ∧ HP.at_ l j = fnd l s := by
  rcases idxS_at (notN s) l 0 with ⟨_, h2⟩ | ⟨j, h1, e, h3, h4⟩
  · exfalso
    obtain ⟨p, hp, e⟩ := List.mem_map.1 h
    exact notN_true.1 (h2 p hp) e
  · rw [Nat.zero_add] at e
    refine ⟨j, h1, e, ?_⟩
    unfold fnd
    have : l.find? (fun x => decide (x.u.name = s)) = some (HP.at_ l j) := by
      rw [List.find?_eq_some_iff_getElem]
      refine ⟨decide_eq_true (notN_false.1 h3), j, h1, ?_, fun q hq => ?_⟩
      · rw [HP.at_, List.getD_eq_getElem?_getD, List.getElem?_eq_getElem h1]; rfl
      · have := h4 q hq
        rw [HP.at_, List.getD_eq_getElem?_getD, List.getElem?_eq_getElem (by omega), notN_true] at this
        simpa using this
    rw [this]
    rfl
theorem idxP_of {l : List Pen} {s : List UInt8} {v : Int} {i : Nat} (hi : i < l.length) (hm : isP s v (HP.at_ l i) = false) (hq : ∀ q, q < i → isP s v (HP.at_ l q) = true) : idxP l s v = (i : Nat) := by
  rcases idxS_at (isP s v) l 0 with ⟨_, h2⟩ | ⟨j, h1, e, h3, h4⟩
  · rw [h2 _ (HP.at_mem hi)] at hm; cases hm
  · rw [Nat.zero_add] at e
    rcases Nat.lt_trichotomy i j with q | q | q
    · rw [h4 i q] at hm; cases hm
    · subst q; exact e
    · rw [hq j q] at h3; cases h3
theorem idxP_none {l : List Pen} {s : List UInt8} {v : Int} (hq : ∀ q, q < l.length → isP s v (HP.at_ l q) = true) : idxP l s v = -1 := by
  rcases idxS_at (isP s v) l 0 with ⟨e, _⟩ | ⟨j, h1, e, h3, h4⟩
  · exact e
  · rw [hq j h1] at h3; cases h3
theorem ls_erase {l : List Pen} {i : Nat} (hi : i < l.length) {o' : Nat} (ho : o' = i + 1) {m : Nat} (hm : m ≤ l.length - 1) : ∀ j, j < m → (catF i (lsA penA l) (shiftF o' (lsA penA l)) j).sim (lsA penA (l.eraseIdx i) j) :=
  ls_cut hi ho (List.eraseIdx_eq_take_drop_succ ..) hm
/-- What is found may be taken out, and the others stay. -/
theorem rem_keep {l : List Pen} {s : List UInt8} {v : Int} {p : Pen} (hp : p ∈ l) (hn : p.u.name ≠ s) : p ∈ remL l s v := by
  unfold remL
  split
  · exact hp
  · rcases idxS_at (isP s v) l 0 with ⟨e, _⟩ | ⟨j, h1, e, h3, h4⟩
    · have : idxP l s v = -1 := e
      omega
    · rw [Nat.zero_add] at e
      have he : (idxP l s v).toNat = j := by rw [show idxP l s v = (j : Nat) from e]; rfl
      rw [he]
      obtain ⟨q, hq, e2⟩ := HP.mem_at hp
      have hqj : q ≠ j := by
        intro h
        subst h
        rw [e2] at h3
        exact hn (isP_false.1 h3).1
      rw [← e2]
      have hl : (l.eraseIdx j).length = l.length - 1 := by rw [List.length_eraseIdx, if_pos h1]
      by_cases hlt : q < j
      · have := at_erase l j q
        rw [if_pos hlt] at this
        rw [← this]
        exact HP.at_mem (by omega)
      · have := at_erase l j (q - 1)
        rw [if_neg (by omega), show q - 1 + 1 = q by omega] at this
        rw [← this]
        exact HP.at_mem (by omega)
theorem rem_there {l : List Pen} {p : Pen} (hp : p ∈ l) : 0 ≤ idxP l p.u.name p.u.ver := by
  rcases idxS_at (isP p.u.name p.u.ver) l 0 with ⟨_, h2⟩ | ⟨j, h1, e, h3, h4⟩
  · have := h2 p hp
    rw [isP_false.2 ⟨rfl, rfl⟩] at this
    cases this
  · have : idxP l p.u.name p.u.ver = (0 + j : Nat) := e
    omega
theorem rem_sub {l : List Pen} {s : List UInt8} {v : Int} {p : Pen} (hp : p ∈ remL l s v) : p ∈ l := by
  unfold remL at hp
  split at hp
  · exact hp
  · exact List.mem_of_mem_eraseIdx hp
theorem rem_len (l : List Pen) (s : List UInt8) (v : Int) : (remL l s v).length ≤ l.length := by
  unfold remL
  split
  · exact Nat.le_refl _
  · exact List.length_eraseIdx_le ..
end VX
