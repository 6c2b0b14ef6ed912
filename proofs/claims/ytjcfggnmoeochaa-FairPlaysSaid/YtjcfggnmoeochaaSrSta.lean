/- Sorting in blocks: what stableCmpFunc holds. Plain law. -/
import Derived.Test.YtjcfggnmoeochaaSrSpec
set_option autoImplicit false
namespace HP
variable {α : Type} [Inhabited α] {lt : α → α → Bool}
inductive Frt (lt : α → α → Bool) (d : List α) (s : Nat) : Nat → Prop
  | nil : Frt lt d s 0
  | snoc {a b : Nat} : Frt lt d s a → b = a + s → Srt lt d a b → Frt lt d s b
inductive Blk (lt : α → α → Bool) (d : List α) (s n : Nat) : Nat → Prop
  | last {a : Nat} : n ≤ a + s → Srt lt d a n → Blk lt d s n a
  | more {a : Nat} : a + s < n → Srt lt d a (a + s) → Blk lt d s n (a + s) → Blk lt d s n a
theorem Frt.congr {d d' : List α} {s a : Nat} (h : Frt lt d s a) : (∀ k, k < a → at_ d' k = at_ d k) → Frt lt d' s a := by
  induction h with
  | nil => exact fun _ => .nil
  | @snoc a b _ e hs ih =>
    intro he
    exact .snoc (ih fun k hk => he k (by omega)) e (hs.congr fun k _ hk => he k hk)
theorem Blk.congr {d d' : List α} {s n a : Nat} (h : Blk lt d s n a) : (∀ k, a ≤ k → at_ d' k = at_ d k) → Blk lt d' s n a := by
  induction h with
  | last h1 hs => exact fun he => .last h1 (hs.congr fun k hk _ => he k hk)
  | more h1 hs _ ih => exact fun he => .more h1 (hs.congr fun k hk _ => he k hk) (ih fun k hk => he k (by omega))
theorem Frt.blk {d : List α} {s n a : Nat} (h : Frt lt d s a) : Blk lt d s n a → Blk lt d s n 0 := by
  induction h with
  | nil => exact id
  | @snoc a b _ e hs ih =>
    intro hb
    subst e
    refine ih ?_
    by_cases h : a + s < n
    · exact .more h hs hb
    · exact .last (by omega) (hs.mono (Nat.le_refl _) (by omega))
theorem Blk.head {d : List α} {s n a : Nat} (h : Blk lt d s n a) (h1 : a + s ≤ n) : Srt lt d a (a + s) := by
  cases h with
  | last h2 hs => rw [show a + s = n by omega]; exact hs
  | more _ hs _ => exact hs
theorem Blk.tail {d : List α} {s n a : Nat} (h : Blk lt d s n a) (h1 : a + s ≤ n) : Blk lt d s n (a + s) := by
  cases h with
  | last h2 hs => exact .last (by omega) (Srt.one (by omega))
  | more _ _ hb => exact hb
theorem Blk.rest {d : List α} {s n a : Nat} (h : Blk lt d s n a) (h1 : n ≤ a + s) : Srt lt d a n := by
  cases h with
  | last _ hs => exact hs
  | more h2 _ _ => omega
structure StaJ (lt : α → α → Bool) (d : List α) (x : List α × Nat) : Prop where
  len : x.1.length = d.length
  mv : Mv 0 d.length d x.1
  lo : x.2 ≤ d.length
  fr : Frt lt x.1 20 x.2
structure StaO (lt : α → α → Bool) (d : List α) (x : List α × Nat) : Prop where
  len : x.1.length = d.length
  mv : Mv 0 d.length d x.1
  pos : 0 < x.2
  hi : x.2 ≤ 20 + 2 * d.length
  bl : Blk lt x.1 x.2 d.length 0
structure StaP (lt : α → α → Bool) (d : List α) (s : Nat) (x : List α × Nat) : Prop where
  len : x.1.length = d.length
  mv : Mv 0 d.length d x.1
  lo : x.2 ≤ d.length
  fr : Frt lt x.1 (2 * s) x.2
  bl : Blk lt x.1 s d.length x.2
theorem StaJ.start (d : List α) : StaJ lt d (d, 0) := ⟨rfl, Mv.refl _ _ _, Nat.zero_le _, .nil⟩
theorem StaJ.step (ho : Ord lt) {d e : List α} {a : Nat} (h : StaJ lt d (e, a)) (h1 : a + 20 ≤ d.length) : StaJ lt d (sortSeg lt e a (a + 20), a + 20) := by
  have hl : e.length = d.length := h.len
  obtain ⟨m, s⟩ := sortSeg_facts ho (d := e) (show a ≤ a + 20 by omega) (by omega)
  exact ⟨m.len.trans hl, h.mv.trans (m.mono (Nat.zero_le _) h1), h1, .snoc (Frt.congr h.fr fun k hk => m.out k (.inl hk)) rfl s⟩
theorem StaJ.done (ho : Ord lt) {d e : List α} {a : Nat} (h : StaJ lt d (e, a)) (h1 : ¬ a + 20 ≤ d.length) : StaO lt d (sortSeg lt e a d.length, 20) := by
  have hl : e.length = d.length := h.len
  have hlo : a ≤ d.length := h.lo
  obtain ⟨m, s⟩ := sortSeg_facts ho (d := e) hlo (by omega)
  exact ⟨m.len.trans hl, h.mv.trans (m.mono (Nat.zero_le _) (Nat.le_refl _)), by show 0 < 20; decide, by simp only; omega, Frt.blk (Frt.congr h.fr fun k hk => m.out k (.inl hk)) (.last (by simp only; omega) s)⟩
theorem StaO.start {d e : List α} {s : Nat} (h : StaO lt d (e, s)) : StaP lt d s (e, 0) := ⟨h.len, h.mv, Nat.zero_le _, .nil, h.bl⟩
theorem StaP.halves {d e : List α} {s a : Nat} (h : StaP lt d s (e, a)) (h1 : a + 2 * s ≤ d.length) : Srt lt e a (a + s) ∧ Srt lt e (a + s) (a + 2 * s) := by
  have hb : Blk lt e s d.length a := h.bl
  refine ⟨hb.head (by omega), ?_⟩
  have := (hb.tail (by omega)).head (by omega)
  rw [show a + s + s = a + 2 * s by omega] at this
  exact this
theorem StaP.step (ho : Ord lt) {d e : List α} {s a : Nat} (h : StaP lt d s (e, a)) (h1 : a + 2 * s ≤ d.length) : StaP lt d s (sortSeg lt e a (a + 2 * s), a + 2 * s) := by
  have hl : e.length = d.length := h.len
  have hb : Blk lt e s d.length a := h.bl
  obtain ⟨m, st⟩ := sortSeg_facts ho (d := e) (show a ≤ a + 2 * s by omega) (by omega)
  have hb2 := (hb.tail (by omega)).tail (by omega)
  rw [show a + s + s = a + 2 * s by omega] at hb2
  exact ⟨m.len.trans hl, h.mv.trans (m.mono (Nat.zero_le _) h1), h1, .snoc (Frt.congr h.fr fun k hk => m.out k (.inl hk)) rfl st, hb2.congr fun k hk => m.out k (.inr hk)⟩
theorem StaP.rest {d e : List α} {s a : Nat} (h : StaP lt d s (e, a)) (h1 : ¬ a + 2 * s ≤ d.length) (h2 : a + s < d.length) : Srt lt e a (a + s) ∧ Srt lt e (a + s) d.length := by
  have hb : Blk lt e s d.length a := h.bl
  exact ⟨hb.head (by omega), (hb.tail (by omega)).rest (by omega)⟩
theorem StaP.last (ho : Ord lt) {d e : List α} {s a : Nat} (h : StaP lt d s (e, a)) (h0 : 0 < s) (hs : s < d.length) (h1 : ¬ a + 2 * s ≤ d.length) : StaO lt d (sortSeg lt e a d.length, 2 * s) := by
  have hl : e.length = d.length := h.len
  have hlo : a ≤ d.length := h.lo
  obtain ⟨m, st⟩ := sortSeg_facts ho (d := e) hlo (by omega)
  exact ⟨m.len.trans hl, h.mv.trans (m.mono (Nat.zero_le _) (Nat.le_refl _)), by simp only; omega, by simp only; omega, Frt.blk (Frt.congr h.fr fun k hk => m.out k (.inl hk)) (.last (by simp only; omega) st)⟩
theorem StaP.idle {d e : List α} {s a : Nat} (h : StaP lt d s (e, a)) (h0 : 0 < s) (hs : s < d.length) (h1 : ¬ a + 2 * s ≤ d.length) (h2 : ¬ a + s < d.length) : StaO lt d (e, 2 * s) := by
  have hb : Blk lt e s d.length a := h.bl
  have hlo : a ≤ d.length := h.lo
  exact ⟨h.len, h.mv, by simp only; omega, by simp only; omega, Frt.blk h.fr (.last (by simp only; omega) (hb.rest (by omega)))⟩
omit [Inhabited α] in
theorem sortSeg_all (d : List α) : sortSeg lt d 0 d.length = srt lt d := by
  simp [sortSeg, seg]
theorem StaO.fin (ho : Ord lt) {d e : List α} {s : Nat} (h : StaO lt d (e, s)) (h1 : ¬ s < d.length) : e = srt lt d := by
  rw [← sortSeg_all]
  exact sortSeg_of ho (Nat.zero_le _) (Nat.le_refl _) h.mv (Blk.rest (show Blk lt e s d.length 0 from h.bl) (by omega))
end HP
