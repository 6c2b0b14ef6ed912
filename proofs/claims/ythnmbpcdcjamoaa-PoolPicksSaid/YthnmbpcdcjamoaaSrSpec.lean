/- Sorting in place: turning, merging, in plain Lean. -/
import Derived.Test.YthnmbpcdcjamoaaHpSpec
set_option linter.unusedSimpArgs false
set_option linter.unusedVariables false
set_option linter.unusedSectionVars false
namespace HP
variable {α : Type} [Inhabited α]

theorem ext_at {a b : List α} (hl : a.length = b.length) (h : ∀ k, k < a.length → at_ a k = at_ b k) : a = b := by
  apply List.ext_getElem hl
  intro i h1 h2
  have := h i h1
  simpa [at_, List.getD_eq_getElem?_getD, h1, h2] using this
/-- A list told by a function. -/
def mk (n : Nat) (f : Nat → α) : List α := (List.range n).map f
theorem mk_len (n : Nat) (f : Nat → α) : (mk n f).length = n := by simp [mk]
theorem mk_at {n : Nat} {f : Nat → α} {k : Nat} (h : k < n) : at_ (mk n f) k = f k := by
  simp [at_, List.getD_eq_getElem?_getD, mk, h]
/-- So many from a on change places with those from b on. -/
def swrF (d : List α) (a b n : Nat) : Nat → α := fun k => if a ≤ k ∧ k < a + n then at_ d (k - a + b) else if b ≤ k ∧ k < b + n then at_ d (k - b + a) else at_ d k
def swrS (d : List α) (a b n : Nat) : List α := mk d.length (swrF d a b n)
/-- Those from m to b come ahead of those from a to m. -/
def rotF (d : List α) (a m b : Nat) : Nat → α := fun k => if a ≤ k ∧ k < a + (b - m) then at_ d (k - a + m) else if a + (b - m) ≤ k ∧ k < b then at_ d (k - (b - m)) else at_ d k
def rotS (d : List α) (a m b : Nat) : List α := mk d.length (rotF d a m b)
theorem swr_len (d : List α) (a b n : Nat) : (swrS d a b n).length = d.length := mk_len _ _
theorem rot_len (d : List α) (a m b : Nat) : (rotS d a m b).length = d.length := mk_len _ _
theorem swr_zero (d : List α) (a b : Nat) : swrS d a b 0 = d := ext_at (swr_len _ _ _ _) fun k hk => by
  rw [swr_len] at hk
  rw [swrS, mk_at hk, swrF, if_neg (by omega), if_neg (by omega)]
theorem swr_step {d : List α} {a b n : Nat} (h1 : a + n < b) (h2 : b + n < d.length) : swapL (swrS d a b n) (a + n) (b + n) = swrS d a b (n + 1) := by
  have hl := swr_len d a b n
  refine ext_at (by rw [swap_len, hl, swr_len]) fun k hk => ?_
  rw [swap_len, hl] at hk
  rw [swrS, swrS, mk_at (f := swrF d a b (n + 1)) hk]
  by_cases e1 : k = a + n
  · subst e1
    rw [swap_left (by rw [mk_len]; omega) (by rw [mk_len]; omega), mk_at (by omega)]
    simp only [swrF]
    rw [if_neg (by omega), if_neg (by omega), if_pos (by omega)]
    congr 1; omega
  · by_cases e2 : k = b + n
    · subst e2
      rw [swap_right (by rw [mk_len]; omega), mk_at (by omega)]
      simp only [swrF]
      rw [if_neg (by omega), if_neg (by omega), if_neg (by omega), if_pos (by omega)]
      congr 1; omega
    · rw [swap_other e1 e2, mk_at hk]
      simp only [swrF]
      by_cases c1 : a ≤ k ∧ k < a + n
      · rw [if_pos c1, if_pos (by omega)]
      · rw [if_neg c1]
        by_cases c2 : b ≤ k ∧ k < b + n
        · rw [if_pos c2, if_neg (by omega), if_pos (by omega)]
        · rw [if_neg c2, if_neg (by omega), if_neg (by omega)]
theorem rot_id (d : List α) (a m : Nat) : rotS d a m m = d := ext_at (rot_len _ _ _ _) fun k hk => by
  rw [rot_len] at hk
  rw [rotS, mk_at hk, rotF, if_neg (by omega)]
  split
  · congr 1; omega
  · rfl
theorem rot_id2 (d : List α) (m b : Nat) : rotS d m m b = d := ext_at (rot_len _ _ _ _) fun k hk => by
  rw [rot_len] at hk
  rw [rotS, mk_at hk, rotF]
  split
  · congr 1; omega
  · rw [if_neg (by omega)]
theorem rot_more {d : List α} {m i j : Nat} (h1 : j < i) (h2 : i ≤ m) (h3 : m + j ≤ d.length) : rotS (swrS d (m - i) m j) (m - (i - j)) m (m + j) = rotS d (m - i) m (m + j) := by
  refine ext_at (by rw [rot_len, rot_len, swr_len]) fun k hk => ?_
  rw [rot_len, swr_len] at hk
  rw [rotS, rotS, mk_at (by rw [swr_len]; exact hk), mk_at hk]
  have g : ∀ q, q < d.length → at_ (swrS d (m - i) m j) q = swrF d (m - i) m j q := fun q hq => by rw [swrS, mk_at hq]
  simp only [rotF]
  by_cases c1 : m - (i - j) ≤ k ∧ k < m - (i - j) + (m + j - m)
  · rw [if_pos c1, g _ (by omega)]
    simp only [swrF]
    rw [if_neg (by omega), if_pos (by omega), if_neg (by omega), if_pos (by omega)]
    congr 1; omega
  · rw [if_neg c1]
    by_cases c2 : m - (i - j) + (m + j - m) ≤ k ∧ k < m + j
    · rw [if_pos c2, g _ (by omega)]
      simp only [swrF]
      rw [if_neg (by omega), if_neg (by omega), if_neg (by omega), if_pos (by omega)]
    · rw [if_neg c2, g _ hk]
      simp only [swrF]
      by_cases c3 : m - i ≤ k ∧ k < m - i + j
      · rw [if_pos c3, if_pos (by omega)]
      · rw [if_neg c3, if_neg (by omega), if_neg (by omega), if_neg (by omega)]
theorem rot_less {d : List α} {m i j : Nat} (h1 : i < j) (h2 : i ≤ m) (h3 : m + j ≤ d.length) : rotS (swrS d (m - i) (m + j - i) i) (m - i) m (m + (j - i)) = rotS d (m - i) m (m + j) := by
  refine ext_at (by rw [rot_len, rot_len, swr_len]) fun k hk => ?_
  rw [rot_len, swr_len] at hk
  rw [rotS, rotS, mk_at (by rw [swr_len]; exact hk), mk_at hk]
  have g : ∀ q, q < d.length → at_ (swrS d (m - i) (m + j - i) i) q = swrF d (m - i) (m + j - i) i q := fun q hq => by rw [swrS, mk_at hq]
  simp only [rotF]
  by_cases c1 : m - i ≤ k ∧ k < m - i + (m + (j - i) - m)
  · rw [if_pos c1, g _ (by omega)]
    simp only [swrF]
    rw [if_neg (by omega), if_neg (by omega), if_pos (by omega)]
  · rw [if_neg c1]
    by_cases c2 : m - i + (m + (j - i) - m) ≤ k ∧ k < m + (j - i)
    · rw [if_pos c2, g _ (by omega)]
      simp only [swrF]
      rw [if_pos (by omega), if_pos (by omega)]
      congr 1; omega
    · rw [if_neg c2, g _ hk]
      simp only [swrF]
      by_cases c3 : m + j - i ≤ k ∧ k < m + j - i + i
      · rw [if_neg (by omega), if_pos c3, if_neg (by omega), if_pos (by omega)]
        congr 1; omega
      · rw [if_neg (by omega), if_neg c3, if_neg (by omega), if_neg (by omega)]
theorem rot_same {d : List α} {m i : Nat} (h2 : i ≤ m) (h3 : m + i ≤ d.length) : swrS d (m - i) m i = rotS d (m - i) m (m + i) := by
  refine ext_at (by rw [rot_len, swr_len]) fun k hk => ?_
  rw [swr_len] at hk
  rw [rotS, swrS, mk_at hk, mk_at hk]
  simp only [rotF, swrF]
  by_cases c1 : m - i ≤ k ∧ k < m - i + i
  · rw [if_pos c1, if_pos (by omega)]
  · rw [if_neg c1]
    by_cases c2 : m ≤ k ∧ k < m + i
    · rw [if_pos c2, if_neg (by omega), if_pos (by omega)]
      congr 1; omega
    · rw [if_neg c2, if_neg (by omega), if_neg (by omega)]
/-- One goes up by one place more. -/
theorem rot_up {d : List α} {a k : Nat} (h1 : a ≤ k) (h2 : k + 1 < d.length) : swapL (rotS d a (a + 1) (k + 1)) k (k + 1) = rotS d a (a + 1) (k + 2) := by
  have hl := rot_len d a (a + 1) (k + 1)
  refine ext_at (by rw [swap_len, hl, rot_len]) fun q hq => ?_
  rw [swap_len, hl] at hq
  rw [rotS, rotS, mk_at (f := rotF d a (a + 1) (k + 2)) hq]
  by_cases e1 : q = k
  · subst e1
    rw [swap_left (by rw [mk_len]; omega) (by rw [mk_len]; omega), mk_at (by omega)]
    simp only [rotF]
    rw [if_neg (by omega), if_neg (by omega), if_pos (by omega)]
    congr 1; omega
  · by_cases e2 : q = k + 1
    · subst e2
      rw [swap_right (by rw [mk_len]; omega), mk_at (by omega)]
      simp only [rotF]
      rw [if_neg (by omega), if_pos (by omega), if_neg (by omega), if_pos (by omega)]
      congr 1; omega
    · rw [swap_other e1 e2, mk_at hq]
      simp only [rotF]
      by_cases c1 : a ≤ q ∧ q < a + (k + 1 - (a + 1))
      · rw [if_pos c1, if_pos (by omega)]
      · rw [if_neg c1, if_neg (by omega), if_neg (by omega), if_neg (by omega)]
/-- One goes down by one place more. -/
theorem rot_down {d : List α} {k m : Nat} (h0 : 0 < k) (h1 : k ≤ m) (h2 : m < d.length) : swapL (rotS d k m (m + 1)) k (k - 1) = rotS d (k - 1) m (m + 1) := by
  have hl := rot_len d k m (m + 1)
  refine ext_at (by rw [swap_len, hl, rot_len]) fun q hq => ?_
  rw [swap_len, hl] at hq
  rw [rotS, rotS, mk_at (f := rotF d (k - 1) m (m + 1)) hq]
  by_cases e1 : q = k
  · subst e1
    rw [swap_left (by rw [mk_len]; omega) (by rw [mk_len]; omega), mk_at (by omega)]
    simp only [rotF]
    rw [if_neg (by omega), if_neg (by omega), if_neg (by omega), if_pos (by omega)]
    congr 1; omega
  · by_cases e2 : q = k - 1
    · subst e2
      rw [swap_right (by rw [mk_len]; omega), mk_at (by omega)]
      simp only [rotF]
      rw [if_pos (by omega), if_pos (by omega)]
      congr 1; omega
    · rw [swap_other e1 e2, mk_at hq]
      simp only [rotF]
      by_cases c1 : k ≤ q ∧ q < k + (m + 1 - m)
      · omega
      · rw [if_neg c1]
        by_cases c2 : k + (m + 1 - m) ≤ q ∧ q < m + 1
        · rw [if_pos c2, if_neg (by omega), if_pos (by omega)]
        · rw [if_neg c2, if_neg (by omega), if_neg (by omega)]

/-! ### what stands outside stays; all are there -/
def seg (d : List α) (a b : Nat) : List α := (d.take b).drop a
theorem seg_len {d : List α} {a b : Nat} (h : b ≤ d.length) : (seg d a b).length = b - a := by rw [seg, List.length_drop, List.length_take]; omega
theorem seg_at {d : List α} {a b k : Nat} (h : a + k < b) : at_ (seg d a b) k = at_ d (a + k) := by
  simp only [at_, List.getD_eq_getElem?_getD, seg]
  rw [List.getElem?_drop, List.getElem?_take_of_lt h]
theorem seg_split {d : List α} {a b : Nat} (h : a ≤ b) : d = d.take a ++ (seg d a b ++ d.drop b) := by
  have h1 : d.take a = (d.take b).take a := by rw [List.take_take, Nat.min_eq_left h]
  rw [h1, seg, ← List.append_assoc, List.take_append_drop, List.take_append_drop]
structure Mv (a b : Nat) (d d' : List α) : Prop where
  len : d'.length = d.length
  out : ∀ k, k < a ∨ b ≤ k → at_ d' k = at_ d k
  perm : List.Perm d' d
theorem Mv.refl (a b : Nat) (d : List α) : Mv a b d d := ⟨rfl, fun _ _ => rfl, List.Perm.refl _⟩
theorem Mv.trans {a b : Nat} {d e f : List α} (h : Mv a b d e) (k : Mv a b e f) : Mv a b d f := ⟨k.len.trans h.len, fun q hq => (k.out q hq).trans (h.out q hq), k.perm.trans h.perm⟩
theorem Mv.mono {a b a' b' : Nat} {d e : List α} (h : Mv a b d e) (ha : a' ≤ a) (hb : b ≤ b') : Mv a' b' d e := ⟨h.len, fun q hq => h.out q (by omega), h.perm⟩
theorem take_eq {d d' : List α} {a : Nat} (hl : d'.length = d.length) (h : ∀ k, k < a → at_ d' k = at_ d k) : d'.take a = d.take a := by
  refine ext_at (by simp [hl]) fun k hk => ?_
  rw [List.length_take] at hk
  rw [at_take (by omega), at_take (by omega)]
  exact h k (by omega)
theorem at_drop (d : List α) (b k : Nat) : at_ (d.drop b) k = at_ d (b + k) := by
  simp only [at_, List.getD_eq_getElem?_getD]; rw [List.getElem?_drop]
theorem drop_eq {d d' : List α} {b : Nat} (hl : d'.length = d.length) (h : ∀ k, b ≤ k → at_ d' k = at_ d k) : d'.drop b = d.drop b := by
  refine ext_at (by simp [hl]) fun k hk => ?_
  rw [at_drop, at_drop]
  exact h _ (by omega)
theorem Mv.seg {a b : Nat} {d d' : List α} (h : Mv a b d d') (hab : a ≤ b) : List.Perm (HP.seg d' a b) (HP.seg d a b) := by
  have e1 := take_eq h.len fun k hk => h.out k (.inl hk)
  have e2 := drop_eq h.len fun k hk => h.out k (.inr hk)
  have p := h.perm
  rw [seg_split (d := d') hab, seg_split (d := d) hab, e1, e2] at p
  exact (List.perm_append_right_iff _).1 ((List.perm_append_left_iff _).1 p)
theorem rot_blocks {d : List α} {a m b : Nat} (h1 : a ≤ m) (h2 : m ≤ b) (h3 : b ≤ d.length) : rotS d a m b = d.take a ++ (seg d m b ++ (seg d a m ++ d.drop b)) := by
  have l1 : (d.take a).length = a := by rw [List.length_take]; omega
  have l2 := seg_len (a := m) h3
  have l3 := seg_len (d := d) (a := a) (b := m) (by omega)
  refine ext_at (by rw [rot_len]; simp only [List.length_append, l1, l2, l3, List.length_drop]; omega) fun k hk => ?_
  rw [rot_len] at hk
  rw [rotS, mk_at hk]
  have left : ∀ (x y : List α) (q : Nat), q < x.length → at_ (x ++ y) q = at_ x q := fun x y q hq => at_append_left hq
  have right : ∀ (x y : List α) (q : Nat), x.length ≤ q → at_ (x ++ y) q = at_ y (q - x.length) := fun x y q hq => by
    simp only [at_, List.getD_eq_getElem?_getD]; rw [List.getElem?_append_right hq]
  simp only [rotF]
  by_cases c0 : k < a
  · rw [if_neg (by omega), if_neg (by omega), left _ _ _ (by omega), at_take c0]
  · rw [right _ _ _ (by omega), l1]
    by_cases c1 : k < a + (b - m)
    · rw [if_pos ⟨by omega, c1⟩, left _ _ _ (by omega), seg_at (by omega)]
      congr 1; omega
    · rw [if_neg (by omega), right _ _ _ (by omega), l2]
      by_cases c2 : k < b
      · rw [if_pos ⟨by omega, c2⟩, left _ _ _ (by omega), seg_at (by omega)]
        congr 1; omega
      · rw [if_neg (by omega), right _ _ _ (by omega), l3, at_drop]
        congr 1; omega
theorem rot_mv {d : List α} {a m b : Nat} (h1 : a ≤ m) (h2 : m ≤ b) (h3 : b ≤ d.length) : Mv a b d (rotS d a m b) := by
  refine ⟨rot_len _ _ _ _, fun k hk => ?_, ?_⟩
  · by_cases hl : k < d.length
    · rw [rotS, mk_at hl, rotF, if_neg (by omega), if_neg (by omega)]
    · have e1 : at_ (rotS d a m b) k = default := by simp [at_, List.getD_eq_getElem?_getD, List.getElem?_eq_none (show (rotS d a m b).length ≤ k by rw [rot_len]; omega)]
      have e2 : at_ d k = default := by simp [at_, List.getD_eq_getElem?_getD, List.getElem?_eq_none (show d.length ≤ k by omega)]
      rw [e1, e2]
  · rw [rot_blocks h1 h2 h3]
    have e : d = d.take a ++ (seg d a m ++ (seg d m b ++ d.drop b)) := by
      have q1 := seg_split (d := d) h1
      have q2 : d.drop m = seg d m b ++ d.drop b := by
        have h : d.drop b = (d.drop m).drop (b - m) := by rw [List.drop_drop]; congr 1; omega
        have h' : seg d m b = (d.drop m).take (b - m) := by rw [seg, List.drop_take]
        rw [h, h', List.take_append_drop]
      rw [← q2]; exact q1
    conv => rhs; rw [e]
    refine List.Perm.append_left _ ?_
    rw [← List.append_assoc, ← List.append_assoc]
    exact List.Perm.append_right _ List.perm_append_comm

/-! ### order -/
variable {lt : α → α → Bool}
def Srt (lt : α → α → Bool) (d : List α) (a b : Nat) : Prop := ∀ i j, a ≤ i → i < j → j < b → lt (at_ d j) (at_ d i) = false
theorem Srt.mono {d : List α} {a b a' b' : Nat} (h : Srt lt d a b) (ha : a ≤ a') (hb : b' ≤ b) : Srt lt d a' b' := fun i j h1 h2 h3 => h i j (by omega) h2 (by omega)
theorem Srt.congr {d d' : List α} {a b : Nat} (h : Srt lt d a b) (he : ∀ k, a ≤ k → k < b → at_ d' k = at_ d k) : Srt lt d' a b := fun i j h1 h2 h3 => by
  rw [he j (by omega) h3, he i h1 (by omega)]
  exact h i j h1 h2 h3
theorem Srt.one {d : List α} {a b : Nat} (h : b ≤ a + 1) : Srt lt d a b := fun i j h1 h2 h3 => by omega
theorem Srt.le (ho : Ord lt) {d : List α} {a b : Nat} (h : Srt lt d a b) {i j : Nat} (h1 : a ≤ i) (h2 : i ≤ j) (h3 : j < b) : lt (at_ d j) (at_ d i) = false := by
  rcases Nat.lt_or_ge i j with h' | h'
  · exact h i j h1 h' h3
  · have : i = j := by omega
    subst this; exact ho.irr _
def Sl (lt : α → α → Bool) (l : List α) : Prop := List.Pairwise (fun x y => lt y x = false) l
theorem uniq (ho : Ord lt) : ∀ {l m : List α}, Sl lt l → Sl lt m → List.Perm l m → l = m
  | [], m, _, _, p => (List.Perm.nil_eq p)
  | x :: l, [], _, _, p => absurd p.length_eq (by simp)
  | x :: l, y :: m, h1, h2, p => by
    have hx := List.pairwise_cons.1 h1
    have hy := List.pairwise_cons.1 h2
    have e : x = y := by
      have m1 : x ∈ y :: m := p.subset (List.mem_cons_self ..)
      have m2 : y ∈ x :: l := p.symm.subset (List.mem_cons_self ..)
      rcases List.mem_cons.1 m1 with e | m1
      · exact e
      · rcases List.mem_cons.1 m2 with e | m2
        · exact e.symm
        · exact ho.tot x y (hy.1 x m1) (hx.1 y m2)
    subst e
    rw [uniq ho hx.2 hy.2 ((List.perm_cons x).1 p)]
/-- Sorted, one put in after the other. -/
def ins (lt : α → α → Bool) (x : α) : List α → List α
  | [] => [x]
  | y :: l => if lt x y = true then x :: y :: l else y :: ins lt x l
def srt (lt : α → α → Bool) : List α → List α
  | [] => []
  | x :: l => ins lt x (srt lt l)
theorem ins_perm (x : α) : ∀ l : List α, List.Perm (ins lt x l) (x :: l)
  | [] => List.Perm.refl _
  | y :: l => by
    unfold ins
    split
    · exact List.Perm.refl _
    · exact ((ins_perm x l).cons y).trans (List.Perm.swap _ _ _)
theorem srt_perm : ∀ l : List α, List.Perm (srt lt l) l
  | [] => List.Perm.refl _
  | x :: l => (ins_perm x _).trans ((srt_perm l).cons x)
theorem ins_sl (ho : Ord lt) (x : α) : ∀ {l : List α}, Sl lt l → Sl lt (ins lt x l)
  | [], _ => List.pairwise_singleton _ _
  | y :: l, h => by
    have hy := List.pairwise_cons.1 h
    unfold ins
    split
    · rename_i hx
      refine List.pairwise_cons.2 ⟨fun z hz => ?_, h⟩
      rcases List.mem_cons.1 hz with rfl | hz
      · exact ho.asym hx
      · exact ho.le_tr (ho.asym hx) (hy.1 z hz)
    · rename_i hx
      have hx : lt x y = false := by simpa using hx
      refine List.pairwise_cons.2 ⟨fun z hz => ?_, ins_sl ho x hy.2⟩
      rcases List.mem_cons.1 ((ins_perm x l).subset hz) with rfl | hz
      · exact hx
      · exact hy.1 z hz
theorem srt_sl (ho : Ord lt) : ∀ l : List α, Sl lt (srt lt l)
  | [] => List.Pairwise.nil
  | x :: l => ins_sl ho x (srt_sl ho l)
theorem srt_of (ho : Ord lt) {l m : List α} (h : Sl lt m) (p : List.Perm m l) : m = srt lt l := uniq ho h (srt_sl ho l) (p.trans (srt_perm l).symm)
theorem srt_len (l : List α) : (srt lt l).length = l.length := (srt_perm l).length_eq
/-- The part from a to b sorted. -/
def sortSeg (lt : α → α → Bool) (d : List α) (a b : Nat) : List α := d.take a ++ (srt lt (seg d a b) ++ d.drop b)
theorem Srt.sl {d : List α} {a b : Nat} (h : Srt lt d a b) (hb : b ≤ d.length) : Sl lt (seg d a b) := by
  have hl := seg_len (d := d) (a := a) hb
  refine List.pairwise_iff_getElem.2 fun i j hi hj hij => ?_
  have e : ∀ k (hk : k < (seg d a b).length), (seg d a b)[k] = at_ d (a + k) := fun k hk => by
    have := seg_at (d := d) (a := a) (b := b) (k := k) (by omega)
    rw [← this]
    simp [at_, List.getD_eq_getElem?_getD, hk]
  rw [e i hi, e j hj]
  exact h (a + i) (a + j) (by omega) (by omega) (by omega)
theorem sortSeg_of (ho : Ord lt) {d d' : List α} {a b : Nat} (hab : a ≤ b) (hb : b ≤ d.length) (h : Mv a b d d') (hs : Srt lt d' a b) : d' = sortSeg lt d a b := by
  have e1 := take_eq h.len fun k hk => h.out k (.inl hk)
  have e2 := drop_eq h.len fun k hk => h.out k (.inr hk)
  rw [sortSeg, ← e1, ← e2, ← srt_of ho (hs.sl (by rw [h.len]; exact hb)) (h.seg hab)]
  exact seg_split hab
theorem sortSeg_facts (ho : Ord lt) {d : List α} {a b : Nat} (hab : a ≤ b) (hb : b ≤ d.length) : Mv a b d (sortSeg lt d a b) ∧ Srt lt (sortSeg lt d a b) a b := by
  have l1 : (d.take a).length = a := by rw [List.length_take]; omega
  have l2 : (srt lt (seg d a b)).length = b - a := (srt_len _).trans (seg_len hb)
  have left : ∀ (x y : List α) (q : Nat), q < x.length → at_ (x ++ y) q = at_ x q := fun x y q hq => at_append_left hq
  have right : ∀ (x y : List α) (q : Nat), x.length ≤ q → at_ (x ++ y) q = at_ y (q - x.length) := fun x y q hq => by
    simp only [at_, List.getD_eq_getElem?_getD]; rw [List.getElem?_append_right hq]
  refine ⟨⟨by rw [sortSeg]; simp only [List.length_append, l1, l2, List.length_drop]; omega, fun k hk => ?_, ?_⟩, fun i j hi hij hj => ?_⟩
  · rw [sortSeg]
    rcases hk with hk | hk
    · rw [left _ _ _ (by omega), at_take hk]
    · rw [right _ _ _ (by omega), right _ _ _ (by omega), at_drop]
      congr 1; omega
  · rw [sortSeg]
    conv => rhs; rw [seg_split (d := d) hab]
    exact List.Perm.append_left _ (List.Perm.append_right _ (srt_perm _))
  · have hs := List.pairwise_iff_getElem.1 (srt_sl ho (seg d a b)) (i - a) (j - a) (by omega) (by omega) (by omega)
    have e : ∀ k, a ≤ k → k < b → at_ (sortSeg lt d a b) k = at_ (srt lt (seg d a b)) (k - a) := fun k h1 h2 => by
      rw [sortSeg, right _ _ _ (by omega), left _ _ _ (by omega), l1]
    rw [e i hi (by omega), e j (by omega) hj]
    simpa [at_, List.getD_eq_getElem?_getD, show i - a < (srt lt (seg d a b)).length by omega, show j - a < (srt lt (seg d a b)).length by omega] using hs

/-! ### one is put into its place -/
theorem rot_at {d : List α} {a m b k : Nat} (hk : k < d.length) : at_ (rotS d a m b) k = rotF d a m b k := by rw [rotS, mk_at hk]
/-- The one at i goes down to j. -/
theorem down_srt (ho : Ord lt) {d : List α} {a j i : Nat} (hs : Srt lt d a i) (h1 : a ≤ j) (h2 : j ≤ i) (h3 : i < d.length) (hlo : j = a ∨ lt (at_ d i) (at_ d (j - 1)) = false) (hhi : j = i ∨ lt (at_ d i) (at_ d j) = true) : Srt lt (rotS d j i (i + 1)) a (i + 1) := by
  intro p q hp hpq hq
  rw [rot_at (by omega), rot_at (by omega)]
  simp only [rotF]
  by_cases q1 : q < j
  · rw [if_neg (by omega), if_neg (by omega), if_neg (by omega), if_neg (by omega)]
    exact hs p q hp hpq (by omega)
  · by_cases q2 : q = j
    · rw [if_pos (by omega), if_neg (by omega), if_neg (by omega)]
      have e : q - j + i = i := by omega
      rw [e]
      rcases hlo with h | h
      · omega
      · exact ho.le_tr (hs.le ho hp (show p ≤ j - 1 by omega) (by omega)) h
    · rw [if_neg (by omega), if_pos (by omega)]
      by_cases p1 : p < j
      · rw [if_neg (by omega), if_neg (by omega)]
        exact hs.le ho hp (by omega) (by omega)
      · by_cases p2 : p = j
        · rw [if_pos (by omega)]
          have e : p - j + i = i := by omega
          rw [e]
          rcases hhi with h | h
          · omega
          · exact ho.le_tr (ho.asym h) (hs.le ho h1 (show j ≤ q - (i + 1 - i) by omega) (by omega))
        · rw [if_neg (by omega), if_pos (by omega)]
          exact hs _ _ (by omega) (by omega) (by omega)
/-- The one at a goes up to behind i. -/
theorem up_srt (ho : Ord lt) {d : List α} {a i b : Nat} (hs : Srt lt d (a + 1) b) (h1 : a + 1 ≤ i) (h2 : i ≤ b) (h3 : b ≤ d.length) (hlo : i = a + 1 ∨ lt (at_ d (i - 1)) (at_ d a) = true) (hhi : i = b ∨ lt (at_ d i) (at_ d a) = false) : Srt lt (rotS d a (a + 1) i) a b := by
  intro p q hp hpq hq
  rw [rot_at (by omega), rot_at (by omega)]
  simp only [rotF]
  by_cases q1 : q < i - 1
  · rw [if_pos (by omega), if_pos (by omega)]
    exact hs _ _ (by omega) (by omega) (by omega)
  · by_cases q2 : q = i - 1
    · rw [if_neg (by omega), if_pos (by omega), if_pos (by omega)]
      have e : q - (i - (a + 1)) = a := by omega
      rw [e]
      rcases hlo with h | h
      · omega
      · exact ho.le_tr (hs.le ho (by omega) (show p - a + (a + 1) ≤ i - 1 by omega) (by omega)) (ho.asym h)
    · rw [if_neg (by omega), if_neg (by omega)]
      by_cases p1 : p < i - 1
      · rw [if_pos (by omega)]
        exact hs.le ho (by omega) (by omega) (by omega)
      · by_cases p2 : p = i - 1
        · rw [if_neg (by omega), if_pos (by omega)]
          have e : p - (i - (a + 1)) = a := by omega
          rw [e]
          rcases hhi with h | h
          · omega
          · exact ho.le_tr h (hs.le ho (by omega) (show i ≤ q by omega) (by omega))
        · rw [if_neg (by omega), if_neg (by omega)]
          exact hs _ _ (by omega) hpq hq
/-- Two sorted parts, turned so that no one of the first half is above one of the second: both halves are sorted, each is of two sorted parts. -/
structure Halves (lt : α → α → Bool) (d : List α) (a s mid e b : Nat) : Prop where
  l1 : Srt lt d a s
  l2 : Srt lt d s mid
  r1 : Srt lt d mid e
  r2 : Srt lt d e b
  lr : ∀ p q, a ≤ p → p < mid → mid ≤ q → q < b → lt (at_ d q) (at_ d p) = false
theorem merge_halves (ho : Ord lt) {d : List α} {a m b s mid : Nat} (hs1 : Srt lt d a m) (hs2 : Srt lt d m b) (ham : a ≤ m) (hmb : m ≤ b) (hb : b ≤ d.length) (hmid : mid = (a + b) / 2)
    (h1 : a ≤ s) (h2 : s ≤ m) (h3 : s ≤ mid) (h4 : mid + m ≤ s + b) (hlo : s = a ∨ s + b = mid + m ∨ lt (at_ d (mid + m - s)) (at_ d (s - 1)) = false) (hhi : s = m ∨ s = mid ∨ lt (at_ d (mid + m - 1 - s)) (at_ d s) = true) :
    Halves lt (rotS d s m (mid + m - s)) a s mid (mid + m - s) b := by
  have hat : ∀ k, k < b → at_ (rotS d s m (mid + m - s)) k = rotF d s m (mid + m - s) k := fun k hk => rot_at (by omega)
  have f0 : ∀ k, k < s → at_ (rotS d s m (mid + m - s)) k = at_ d k := fun k hk => by
    rw [hat k (by omega)]; simp only [rotF]; rw [if_neg (by omega), if_neg (by omega)]
  have f1 : ∀ k, s ≤ k → k < mid → at_ (rotS d s m (mid + m - s)) k = at_ d (k - s + m) := fun k hk hk2 => by
    rw [hat k (by omega)]; simp only [rotF]; rw [if_pos (by omega)]
  have f2 : ∀ k, mid ≤ k → k < mid + m - s → at_ (rotS d s m (mid + m - s)) k = at_ d (k - (mid - s)) := fun k hk hk2 => by
    rw [hat k (by omega)]; simp only [rotF]; rw [if_neg (by omega), if_pos (by omega)]; congr 1; omega
  have f3 : ∀ k, mid + m - s ≤ k → k < b → at_ (rotS d s m (mid + m - s)) k = at_ d k := fun k hk hk2 => by
    rw [hat k hk2]; simp only [rotF]; rw [if_neg (by omega), if_neg (by omega)]
  refine ⟨fun p q hp hpq hq => ?_, fun p q hp hpq hq => ?_, fun p q hp hpq hq => ?_, fun p q hp hpq hq => ?_, fun p q hp hpm hmq hq => ?_⟩
  · rw [f0 p (by omega), f0 q hq]; exact hs1 p q hp hpq (by omega)
  · rw [f1 p hp (by omega), f1 q (by omega) hq]; exact hs2 _ _ (by omega) (by omega) (by omega)
  · rw [f2 p hp (by omega), f2 q (by omega) hq]; exact hs1 _ _ (by omega) (by omega) (by omega)
  · rw [f3 p hp (by omega), f3 q (by omega) hq]; exact hs2 _ _ (by omega) hpq hq
  · by_cases c1 : p < s <;> by_cases c2 : q < mid + m - s
    · rw [f0 p c1, f2 q hmq c2]
      exact hs1.le ho hp (by omega) (by omega)
    · rw [f0 p c1, f3 q (by omega) hq]
      rcases hlo with h | h | h
      · omega
      · omega
      · exact ho.le_tr (ho.le_tr (hs1.le ho hp (show p ≤ s - 1 by omega) (by omega)) h) (hs2.le ho (by omega) (show mid + m - s ≤ q by omega) hq)
    · rw [f1 p (by omega) hpm, f2 q hmq c2]
      rcases hhi with h | h | h
      · omega
      · omega
      · exact ho.le_tr (ho.le_tr (hs2.le ho (by omega) (show p - s + m ≤ mid + m - 1 - s by omega) (by omega)) (ho.asym h)) (hs1.le ho h1 (show s ≤ q - (mid - s) by omega) (by omega))
    · rw [f1 p (by omega) hpm, f3 q (by omega) hq]
      exact hs2.le ho (by omega) (by omega) hq
/-- Both halves sorted, none of the first above one of the second: all is sorted. -/
theorem halves_srt {d : List α} {a mid b : Nat} (h1 : Srt lt d a mid) (h2 : Srt lt d mid b) (h3 : ∀ p q, a ≤ p → p < mid → mid ≤ q → q < b → lt (at_ d q) (at_ d p) = false) : Srt lt d a b := fun p q hp hpq hq => by
  by_cases c1 : q < mid
  · exact h1 p q hp hpq c1
  · by_cases c2 : p < mid
    · exact h3 p q hp c2 (by omega) hq
    · exact h2 p q (by omega) hpq hq
/-- What holds of all of a part holds when the part is only moved. -/
theorem Mv.all {a b : Nat} {d d' : List α} (h : Mv a b d d') (hab : a ≤ b) (hb : b ≤ d.length) {P : α → Prop} (hp : ∀ k, a ≤ k → k < b → P (at_ d k)) : ∀ k, a ≤ k → k < b → P (at_ d' k) := fun k h1 h2 => by
  have hs := h.seg hab
  have hl' : (HP.seg d' a b).length = b - a := seg_len (by rw [h.len]; exact hb)
  have e : at_ d' k = at_ (HP.seg d' a b) (k - a) := by rw [seg_at (by omega)]; congr 1; omega
  have hm : at_ d' k ∈ HP.seg d' a b := by rw [e]; exact at_mem (by omega)
  obtain ⟨q, hq, he⟩ := mem_at (hs.subset hm)
  rw [seg_len hb] at hq
  rw [← he, seg_at (by omega)]
  exact hp _ (by omega) (by omega)
theorem srt_skip (ho : Ord lt) {e : List α} {a b : Nat} (hab : a ≤ b) (hb : b ≤ e.length) (h : Srt lt e a b) : sortSeg lt e a b = e := (sortSeg_of ho hab hb (Mv.refl a b e) h).symm
theorem merge_end (ho : Ord lt) {d e e2 e3 : List α} {a s mid en b : Nat} (hH : Halves lt e a s mid en b) (hm : Mv a b d e) (h2 : e2 = sortSeg lt e a mid) (h3 : e3 = sortSeg lt e2 mid b) (ha : a ≤ mid) (hb : mid ≤ b) (hl : b ≤ d.length) : e3 = sortSeg lt d a b := by
  have hle : e.length = d.length := hm.len
  obtain ⟨m2, s2⟩ := sortSeg_facts ho (d := e) ha (by omega : mid ≤ e.length)
  rw [← h2] at m2 s2
  have hl2 : e2.length = d.length := m2.len.trans hle
  obtain ⟨m3, s3⟩ := sortSeg_facts ho (d := e2) hb (by omega : b ≤ e2.length)
  rw [← h3] at m3 s3
  refine sortSeg_of ho (by omega) hl ((hm.trans (m2.mono (Nat.le_refl _) hb)).trans (m3.mono ha (Nat.le_refl _))) ?_
  have q1 : ∀ p, a ≤ p → p < mid → ∀ q, mid ≤ q → q < b → lt (at_ e q) (at_ e2 p) = false := by
    have := m2.all (P := fun x => ∀ q, mid ≤ q → q < b → lt (at_ e q) x = false) ha (by omega) (fun k h1 h2 q h3 h4 => hH.lr k q h1 h2 h3 h4)
    exact fun p h1 h2 q h3 h4 => this p h1 h2 q h3 h4
  refine halves_srt (s2.congr fun k h1 h2 => m3.out k (.inl h2)) s3 fun p q hp hpm hmq hq => ?_
  rw [m3.out p (.inl hpm)]
  exact m3.all (P := fun y => lt y (at_ e2 p) = false) hb (by omega) (fun k h1 h2 => by rw [m2.out k (.inr h1)]; exact q1 p hp hpm k h1 h2) q hmq hq
/-- What is sorted in the first half leaves the second as it was. -/
theorem srt_behind (ho : Ord lt) {e : List α} {a mid i j : Nat} (ha : a ≤ mid) (hl : mid ≤ e.length) (hi : mid ≤ i) (h : Srt lt e i j) : Srt lt (sortSeg lt e a mid) i j := h.congr fun k h1 h2 => (sortSeg_facts ho ha hl).1.out k (.inr (by omega))
theorem sortSeg_len (d : List α) {a b : Nat} (hab : a ≤ b) (hb : b ≤ d.length) : (sortSeg lt d a b).length = d.length := by
  rw [sortSeg]; simp only [List.length_append, srt_len, seg_len hb, List.length_take, List.length_drop]; omega
end HP
