/- A symbolic executor for the model's code, and its soundness (part 3 of 9): a general tool, no statement about this program. -/
import Derived.Test.YtcolghonbncpnaaVxB
import Derived.Laws.StructEq
import Derived.Laws.Cells
import Derived.Deep.AppendSrc
import Derived.Laws.Tables
set_option linter.unusedSimpArgs false
set_option linter.unusedVariables false
/- VX 11: slices' bounds, lengths, conversions of numbers, equality. -/
namespace VX
open Go

/-- A bound's value. -/
inductive BV : Option Value → Option Int → Prop
  | none : BV none none
  | some {k : IntKind} {i : Int} : BV (some (.int k i)) (some i)

theorem ints_ok {I : Imm} {ρ : Ren} : ∀ {bs : List A} {xs : List Value} {l : List Int}, RL I ρ bs xs → intO bs = some l → xs.length = l.length ∧ ∀ (j : Nat) (x : Value) (i : Int), xs[j]? = some x → l[j]? = some i → ∃ k, x = .int k i
  | [], _, l, .nil, h => by
    simp only [intO, Option.some.injEq] at h
    subst h
    exact ⟨rfl, by simp⟩
  | b :: bs, _, l, .cons h1 h2, h => by
    unfold intO at h
    split at h
    · rename_i hcons; cases hcons
    · rename_i k n l' hcons
      cases hcons
      split at h
      · rename_i r' hr
        simp only [Option.some.injEq] at h
        subst h
        cases h1.int_inv
        obtain ⟨k1, k2⟩ := ints_ok h2 hr
        refine ⟨by simp [k1], fun j x i hx hi => ?_⟩
        cases j with
        | zero => simp at hx hi; subst hx hi; exact ⟨_, rfl⟩
        | succ j => exact k2 j x i (by simpa using hx) (by simpa using hi)
      · cases h
    · cases h

theorem bnd3_ok {e : Operand → Value} {lo hi mx : Option Operand} {l : List Int} {lo' hi' mx' : Option Int} (h : bnd3 lo hi mx l = some (lo', hi', mx'))
    (hl : ∀ (j : Nat) (x : Value) (i : Int), ((lo.toList ++ hi.toList ++ mx.toList).map e)[j]? = some x → l[j]? = some i → ∃ k, x = .int k i) :
    BV (lo.map e) lo' ∧ BV (hi.map e) hi' ∧ BV (mx.map e) mx' := by
  unfold bnd3 at h
  split at h <;> (try (cases h; done)) <;> simp only [Option.some.injEq, Prod.mk.injEq] at h <;> obtain ⟨rfl, rfl, rfl⟩ := h
  · exact ⟨.none, .none, .none⟩
  · obtain ⟨k, hk⟩ := hl 0 _ _ rfl rfl
    exact ⟨by simp only [Option.map_some, hk]; exact .some, .none, .none⟩
  · obtain ⟨k, hk⟩ := hl 0 _ _ rfl rfl
    exact ⟨.none, by simp only [Option.map_some, hk]; exact .some, .none⟩
  · obtain ⟨k, hk⟩ := hl 0 _ _ rfl rfl
    obtain ⟨k1, hk1⟩ := hl 1 _ _ rfl rfl
    exact ⟨by simp only [Option.map_some, hk]; exact .some, by simp only [Option.map_some, hk1]; exact .some, .none⟩
  · obtain ⟨k, hk⟩ := hl 0 _ _ rfl rfl
    obtain ⟨k1, hk1⟩ := hl 1 _ _ rfl rfl
    exact ⟨.none, by simp only [Option.map_some, hk]; exact .some, by simp only [Option.map_some, hk1]; exact .some⟩
  · obtain ⟨k, hk⟩ := hl 0 _ _ rfl rfl
    obtain ⟨k1, hk1⟩ := hl 1 _ _ rfl rfl
    obtain ⟨k2, hk2⟩ := hl 2 _ _ rfl rfl
    exact ⟨by simp only [Option.map_some, hk]; exact .some, by simp only [Option.map_some, hk1]; exact .some, by simp only [Option.map_some, hk2]; exact .some⟩

section
variable {P : Program} {T : Tab} (hT : TabOK P T.l)
variable {Γ : Ctx} {I : Imm} {ρ : Ren} {r : List (Nat × Option Obj)} {us : List Nat} {w : World} {nm : Nat}

theorem bounds2_run {b : Bool} {n c : Nat} {lo hi : Option Value} {lo' hi' : Option Int} (h1 : BV lo lo') (h2 : BV hi hi') (hn : n ≤ c) (c1 : allP (cHi hi' n)) (c2 : allP (cLo lo' (hiN hi' n))) :
    (Instr.sliceBounds b n c lo hi none).run P w = .ok (loN lo', hiN hi' n, c) w ∧ loN lo' ≤ hiN hi' n ∧ hiN hi' n ≤ n := by
  have sbound : ∀ (k : IntKind) (i : Int) (y : Nat) (code : BoundsCode), 0 ≤ i → i ≤ (y : Int) → (Instr.sliceBound (.int k i) y code).run P w = .ok i.toNat w := fun k i y code h h' => by
    unfold Instr.sliceBound
    simp only [asIntOf, Sem.run_bind, Sem.run_pure, Result.andThen_ok]
    rw [if_pos ⟨h, h'⟩]
    rfl
  cases h2 with
  | none =>
    cases h1 with
    | none => exact ⟨by simp [Instr.sliceBounds, loN, hiN], by simp [loN], by simp [hiN]⟩
    | some =>
      rename_i k i
      obtain ⟨a1, a2, _⟩ := c2
      simp only [hiN] at a2
      refine ⟨?_, by simp only [loN, hiN]; omega, by simp [hiN]⟩
      unfold Instr.sliceBounds
      simp only [Sem.run_bind, Sem.run_pure, Result.andThen_ok, sbound k i n _ a1 a2, loN, hiN]
  | some =>
    rename_i k2 j
    obtain ⟨b1, b2, _⟩ := c1
    have hb : j ≤ (c : Int) := by omega
    cases h1 with
    | none =>
      refine ⟨?_, by simp [loN], by simp only [hiN]; omega⟩
      unfold Instr.sliceBounds
      simp only [Sem.run_bind, Sem.run_pure, Result.andThen_ok, sbound k2 j c _ b1 hb, loN, hiN]
    | some =>
      rename_i k i
      obtain ⟨a1, a2, _⟩ := c2
      simp only [hiN] at a2
      refine ⟨?_, by simp only [loN, hiN]; omega, by simp only [hiN]; omega⟩
      unfold Instr.sliceBounds
      simp only [Sem.run_bind, Sem.run_pure, Result.andThen_ok, sbound k2 j c _ b1 hb, sbound k i j.toNat _ a1 (by omega), loN, hiN]

theorem bounds3_run {n c : Nat} {lo hi mx : Option Value} {lo' : Option Int} {h m : Int} (h1 : BV lo lo') (h2 : BV hi (some h)) (h3 : BV mx (some m)) (hm : m = h) (hn : n ≤ c) (c1 : allP (cHi (some h) n)) (c2 : allP (cLo lo' (hiN (some h) n))) :
    (Instr.sliceBounds true n c lo hi mx).run P w = .ok (loN lo', h.toNat, h.toNat) w ∧ loN lo' ≤ h.toNat ∧ h.toNat ≤ n := by
  have sbound : ∀ (k : IntKind) (i : Int) (y : Nat) (code : BoundsCode), 0 ≤ i → i ≤ (y : Int) → (Instr.sliceBound (.int k i) y code).run P w = .ok i.toNat w := fun k i y code h h' => by
    unfold Instr.sliceBound
    simp only [asIntOf, Sem.run_bind, Sem.run_pure, Result.andThen_ok]
    rw [if_pos ⟨h, h'⟩]
    rfl
  subst hm
  cases h2
  cases h3
  rename_i k2 k3
  obtain ⟨b1, b2, _⟩ := c1
  cases h1 with
  | none =>
    refine ⟨?_, by simp [loN], by omega⟩
    unfold Instr.sliceBounds
    simp only [Sem.run_bind, Sem.run_pure, Result.andThen_ok, sbound k3 m c _ b1 (by omega), sbound k2 m m.toNat _ b1 (by omega), loN]
  | some =>
    rename_i k i
    obtain ⟨a1, a2, _⟩ := c2
    simp only [hiN] at a2
    refine ⟨?_, by simp only [loN]; omega, by omega⟩
    unfold Instr.sliceBounds
    simp only [Sem.run_bind, Sem.run_pure, Result.andThen_ok, sbound k3 m c _ b1 (by omega), sbound k2 m m.toNat _ b1 (by omega), sbound k i m.toNat _ a1 (by omega), loN]

theorem subO_eq (lo : Option Int) (n : Nat) : subO lo n = n - loN lo := by cases lo <;> simp [subO, loN]
theorem addO_eq (lo : Option Int) (n : Nat) : addO lo n = n + loN lo := by cases lo <;> simp [addO, loN, addI_eq]
theorem shiftO_at (lo : Option Int) (g : Nat → A) (i : Nat) : shiftO lo g i = g (loN lo + i) := by cases lo <;> simp [shiftO, loN, shiftF_at]

theorem slice_run {t e : Nat} {ie : TypeInfo} {se : Nat} (hu : P.underlying t = some (.slice e)) (hie : P.info? e = some ie) (hse : ie.size = se) {lo hi mx : Option Value} {a : Option Addr} {n c l h m : Nat}
    (hb : (Instr.sliceBounds true n c lo hi mx).run P w = .ok (l, h, m) w) :
    (Instr.sliceAt t (.slice a n c) lo hi mx).run P w = .ok (.slice (if m = l then a else a.map (·.add (l * se))) (h - l) (m - l)) w := by
  unfold Instr.sliceAt Instr.slice
  simp only [Sem.run_bind, underlying, run_program, Result.andThen_ok, hu, Sem.run_pure, hb, sizeOf_run hie, hse]

theorem ro_cut {sz n : Nat} {g : Nat → A} {v : Value} (hx : R I ρ (.ro sz n g) v) : ∃ a c, v = .slice a n c ∧ n ≤ c ∧ ∀ (lo : Option Int) (h : Nat), loN lo ≤ h → h ≤ n → R I ρ (.ro sz (h - loN lo) (shiftO lo g))
    (.slice (if c = loN lo then a else a.map (·.add (loN lo * sz))) (h - loN lo) (c - loN lo)) ∧ (∀ c', h ≤ c' → c' ≤ c → R I ρ (.ro sz (h - loN lo) (shiftO lo g)) (.slice (if c' = loN lo then a else a.map (·.add (loN lo * sz))) (h - loN lo) (c' - loN lo))) ∧
    R I ρ (.rol sz (h - loN lo) (shiftO lo g)) (.slice (if h = loN lo then a else a.map (·.add (loN lo * sz))) (h - loN lo) (h - loN lo)) := by
  cases hx with
  | agg hx _ _ => cases hx
  | ro h1 h2 h3 =>
    rename_i b o c
    refine ⟨_, c, rfl, h1, fun lo h hl hh => ?_⟩
    have hw : ∀ i, i < h - loN lo → (shiftO lo g i).wf ∧ (shiftO lo g i).size = sz ∧ (shiftO lo g i).pureP := fun i hi => by rw [shiftO_at]; exact h2 _ (by omega)
    have hr : ∀ i, i < h - loN lo → RA I nr (shiftO lo g i).cells b (o + loN lo * sz + i * sz) := fun i hi => by
      rw [shiftO_at, Nat.add_assoc, ← Nat.add_mul]; exact h3 _ (by omega)
    have gen : ∀ c', h ≤ c' → c' ≤ c → R I ρ (.ro sz (h - loN lo) (shiftO lo g)) (.slice (if c' = loN lo then some ⟨b, o, none⟩ else (some (⟨b, o, none⟩ : Addr)).map (·.add (loN lo * sz))) (h - loN lo) (c' - loN lo)) := fun c' hc1 hc2 => by
      by_cases e : c' = loN lo
      · rw [if_pos e, show h - loN lo = 0 by omega, show c' - loN lo = 0 by omega]
        exact .ro0
      · rw [if_neg e]
        simp only [Option.map_some, add_none]
        exact .ro (by omega) hw hr
    refine ⟨gen c (by omega) (Nat.le_refl _), gen, ?_⟩
    by_cases e : h = loN lo
    · rw [if_pos e, show h - loN lo = 0 by omega]
      exact .rol0
    · rw [if_neg e]
      simp only [Option.map_some, add_none]
      exact .rol hw hr
  | ro0 =>
    refine ⟨_, _, rfl, Nat.zero_le _, fun lo h hl hh => ?_⟩
    have h0 : h = 0 := by omega
    have l0 : loN lo = 0 := by omega
    subst h0
    rw [l0]
    exact ⟨.ro0, fun c' h1 h2 => .ro0, .rol0⟩

theorem rol_ro {sz n : Nat} {g : Nat → A} {v : Value} (hx : R I ρ (.rol sz n g) v) : R I ρ (.ro sz n g) v ∧ ∃ a, v = .slice a n n := by
  cases hx with
  | agg hx _ _ => cases hx
  | rol h2 h3 => exact ⟨.ro (Nat.le_refl _) h2 h3, _, rfl⟩
  | rol0 => exact ⟨.ro0, _, rfl⟩

theorem own_cut {sz id off n : Nat} {v : Value} (hx : R I ρ (.own sz id off n) v) : ∃ a c, v = .slice a n c ∧ n ≤ c ∧ ∀ (lo : Option Int) (h : Nat), loN lo ≤ h → h ≤ n → R I ρ (.own sz id (addO lo off) (h - loN lo))
    (.slice (if c = loN lo then a else a.map (·.add (loN lo * sz))) (h - loN lo) (c - loN lo)) ∧
    R I ρ (.owl sz id (addO lo off) (h - loN lo)) (.slice (if h = loN lo then a else a.map (·.add (loN lo * sz))) (h - loN lo) (h - loN lo)) := by
  cases hx with
  | agg hx _ _ => cases hx
  | own h1 h2 h3 =>
    rename_i b N c
    refine ⟨_, c, rfl, h2, fun lo h hl hh => ?_⟩
    rw [addO_eq]
    constructor
    · by_cases e : c = loN lo
      · rw [if_pos e, show h - loN lo = 0 by omega, show c - loN lo = 0 by omega]
        exact .own0
      · rw [if_neg e]
        simp only [Option.map_some, add_none, ← Nat.add_mul]
        exact .own h1 (by omega) (by rw [show off + loN lo + (c - loN lo) = off + c by omega]; exact h3)
    · by_cases e : h = loN lo
      · rw [if_pos e, show h - loN lo = 0 by omega]
        exact .owl0
      · rw [if_neg e]
        simp only [Option.map_some, add_none, ← Nat.add_mul]
        refine .owl h1 ?_
        have : (off + loN lo + (h - loN lo)) * sz ≤ (off + c) * sz := Nat.mul_le_mul_right _ (by omega)
        omega
  | own0 =>
    refine ⟨_, 0, rfl, Nat.le_refl _, fun lo h hl hh => ?_⟩
    have h0 : h = 0 := by omega
    have l0 : loN lo = 0 := by omega
    subst h0
    rw [l0]
    exact ⟨.own0, .owl0⟩

theorem vsl_cut {sz id o n : Nat} {path : List Step} {v : Value} (hx : R I ρ (.vsl sz id path o n) v) : ∃ a c, v = .slice a n c ∧ n ≤ c ∧ ∀ (lo : Option Int) (h : Nat), loN lo ≤ h → h ≤ n →
    R I ρ (.vsl sz id path (addO lo o) (h - loN lo)) (.slice (if c = loN lo then a else a.map (·.add (loN lo * sz))) (h - loN lo) (c - loN lo)) := by
  cases hx with
  | agg hx _ _ => cases hx
  | vsl h1 h2 h3 =>
    rename_i b N c
    refine ⟨_, c, rfl, h2, fun lo h hl hh => ?_⟩
    rw [addO_eq]
    by_cases e : c = loN lo
    · rw [if_pos e, show h - loN lo = 0 by omega, show c - loN lo = 0 by omega]
      exact .vsl0
    · rw [if_neg e]
      simp only [Option.map_some, add_none, Nat.add_assoc, ← Nat.add_mul]
      exact .vsl h1 (by omega) (by rw [show o + loN lo + (c - loN lo) = o + c by omega]; exact h3)
  | vsl0 =>
    refine ⟨_, 0, rfl, Nat.le_refl _, fun lo h hl hh => ?_⟩
    have h0 : h = 0 := by omega
    have l0 : loN lo = 0 := by omega
    subst h0
    rw [l0]
    exact .vsl0

theorem str_cut {l : List UInt8} {lo hi : Option Int} (h1 : loN lo ≤ hiN hi l.length) (h2 : hiN hi l.length ≤ l.length) :
    (ByteArray.mk l.toArray).extract (loN lo) (hiN hi l.length) = ⟨(dropO lo (takeO hi l)).toArray⟩ := by
  apply ByteArray.ext
  simp only [ByteArray.data_extract, List.extract_toArray]
  congr 1
  rw [List.extract_eq_take_drop]
  cases lo <;> cases hi <;> simp [dropO, takeO, loN, hiN, List.drop_take]
  rw [List.take_of_length_le (by simp)]

include hT in
theorem slice_ok {t : Nat} {lo hi mx : Option Operand} {e : Operand → Value} {vs : List A} {xs : List Value} {out : Out} {obs : List Obj} (hp : pSlice T t lo hi mx obs vs = some out) (h : RW Γ I ρ r us w) (hv : RL I ρ vs xs) (ho : looks r (idsOf vs) = some obs) (hc : allP out.c)
    {x0 : Operand} (hxs : xs = (x0 :: (lo.toList ++ hi.toList ++ mx.toList)).map e) :
    ∃ v, (Instr.sliceAt t (e x0) (lo.map e) (hi.map e) (mx.map e)).run P w = .ok v w ∧ Done Γ I ρ r us nm out (.ok (.value v) w) := by
  unfold pSlice at hp
  split at hp
  · rename_i x bs
    subst hxs
    rw [List.map_cons] at hv
    cases hv with
    | cons hx hbs =>
      split at hp
      · rename_i l hl
        have hil := ints_ok hbs hl
        split at hp
        · rename_i lo' hi' mx' hb
          obtain ⟨b1, b2, b3⟩ := bnd3_ok hb hil.2
          split at hp
          · rename_i hd
            have hu := Tab.str hT hd
            unfold sliceStr at hp
            split at hp
            · split at hp
              · rename_i l
                cases hm : mx.map e with
                | some => rw [hm] at b3; cases b3
                | none =>
                  simp only [Option.some.injEq] at hp
                  subst hp
                  obtain ⟨c1, c2⟩ := allP_append.1 hc
                  obtain ⟨hr, k1, k2⟩ := bounds2_run (P := P) (w := w) (b := false) b1 b2 (Nat.le_refl _) c1 c2
                  rw [hx.str_inv]
                  refine ⟨_, ?_, .value h .str⟩
                  unfold Instr.sliceAt Instr.slice
                  have hs : (ByteArray.mk l.toArray).size = l.length := by simp [ByteArray.size]
                  simp only [Sem.run_bind, underlying, run_program, Result.andThen_ok, hu, Sem.run_pure, Option.isSome_none, Bool.false_eq_true, if_false, hs, hr, str_cut k1 k2]
              · cases hp
            · cases hp
          · rename_i el hd
            have hu := Tab.slice hT hd
            split at hp
            · rename_i d se _ _ _ hti
              obtain ⟨_, ⟨ie, hie, hse, _, _⟩, _, _⟩ := hT el _ hti
              simp only at hse
              unfold sliceV at hp
              split at hp
              · cases hm : mx.map e with
                | some => rw [hm] at b3; cases b3
                | none =>
                  split at hp
                  · rename_i sz n g
                    cases e1 : Nat.beq sz se with
                    | false => rw [e1] at hp; cases hp
                    | true =>
                      rw [e1] at hp
                      simp only [cond_true, Option.some.injEq] at hp
                      subst hp
                      have e2 := Nat.eq_of_beq_eq_true e1
                      subst e2
                      obtain ⟨c1, c2⟩ := allP_append.1 hc
                      obtain ⟨a, c, hev, hnc, hcut⟩ := ro_cut hx
                      obtain ⟨hr, k1, k2⟩ := bounds2_run (P := P) (w := w) (b := true) b1 b2 hnc c1 c2
                      rw [hev]
                      exact ⟨_, slice_run hu hie hse hr, .value h (by rw [subO_eq]; exact (hcut lo' _ k1 k2).1)⟩
                  · rename_i sz n g
                    cases e1 : Nat.beq sz se with
                    | false => rw [e1] at hp; cases hp
                    | true =>
                      rw [e1] at hp
                      simp only [cond_true] at hp
                      have e2 := Nat.eq_of_beq_eq_true e1
                      subst e2
                      obtain ⟨hx', a0, hev0⟩ := rol_ro hx
                      obtain ⟨a, c, hev, hnc, hcut⟩ := ro_cut hx'
                      have hcn : c = n := by rw [hev0] at hev; cases hev; rfl
                      subst hcn
                      split at hp
                      · simp only [Option.some.injEq] at hp
                        subst hp
                        obtain ⟨hr, k1, k2⟩ := bounds2_run (P := P) (w := w) (b := true) b1 b2 hnc (by trivial) hc
                        rw [hev]
                        simp only [hiN] at hr k1 k2
                        exact ⟨_, slice_run hu hie hse hr, .value h (by rw [subO_eq]; exact (hcut lo' _ k1 k2).2.2)⟩
                      · rename_i hh
                        simp only [Option.some.injEq] at hp
                        subst hp
                        obtain ⟨c1, c2⟩ := allP_append.1 hc
                        obtain ⟨hr, k1, k2⟩ := bounds2_run (P := P) (w := w) (b := true) b1 b2 hnc c1 c2
                        rw [hev]
                        exact ⟨_, slice_run hu hie hse hr, .value h (by rw [subO_eq]; exact (hcut lo' _ k1 k2).1)⟩
                  · rename_i sz id off n
                    cases e1 : Nat.beq sz se with
                    | false => rw [e1] at hp; cases hp
                    | true =>
                      rw [e1] at hp
                      simp only [cond_true, Option.some.injEq] at hp
                      subst hp
                      have e2 := Nat.eq_of_beq_eq_true e1
                      subst e2
                      obtain ⟨c1, c2⟩ := allP_append.1 hc
                      obtain ⟨a, c, hev, hnc, hcut⟩ := own_cut hx
                      obtain ⟨hr, k1, k2⟩ := bounds2_run (P := P) (w := w) (b := true) b1 b2 hnc c1 c2
                      rw [hev]
                      exact ⟨_, slice_run hu hie hse hr, .value h (by rw [subO_eq]; exact (hcut lo' _ k1 k2).1)⟩
                  · rename_i sz id path o n
                    cases e1 : Nat.beq sz se with
                    | false => rw [e1] at hp; cases hp
                    | true =>
                      rw [e1] at hp
                      simp only [cond_true, Option.some.injEq] at hp
                      subst hp
                      have e2 := Nat.eq_of_beq_eq_true e1
                      subst e2
                      obtain ⟨c1, c2⟩ := allP_append.1 hc
                      obtain ⟨a, c, hev, hnc, hcut⟩ := vsl_cut hx
                      obtain ⟨hr, k1, k2⟩ := bounds2_run (P := P) (w := w) (b := true) b1 b2 hnc c1 c2
                      rw [hev]
                      exact ⟨_, slice_run hu hie hse hr, .value h (by rw [subO_eq]; exact hcut lo' _ k1 k2)⟩
                  · simp only [Option.some.injEq] at hp
                    subst hp
                    obtain ⟨c1, c2⟩ := allP_append.1 hc
                    obtain ⟨hr, k1, k2⟩ := bounds2_run (P := P) (w := w) (b := true) b1 b2 (Nat.le_refl 0) c1 c2
                    rw [hx.nils_inv]
                    refine ⟨_, slice_run hu hie hse hr, .value h ?_⟩
                    have h0 : hiN hi' 0 = 0 := by omega
                    have l0 : loN lo' = 0 := by omega
                    rw [h0, l0]
                    exact .nils
                  · cases hp
              · rename_i m
                split at hp
                · cases hp
                · rename_i hh
                  split at hp
                  · rename_i sz n g
                    cases e1 : Nat.beq sz se with
                    | false => rw [e1] at hp; cases hp
                    | true =>
                      rw [e1] at hp
                      simp only [cond_true, Option.some.injEq] at hp
                      subst hp
                      have e2 := Nat.eq_of_beq_eq_true e1
                      subst e2
                      obtain ⟨hm, hc'⟩ := hc
                      obtain ⟨c1, c2⟩ := allP_append.1 hc'
                      obtain ⟨a, c, hev, hnc, hcut⟩ := ro_cut hx
                      obtain ⟨hr, k1, k2⟩ := bounds3_run (P := P) (w := w) b1 b2 b3 hm hnc c1 c2
                      rw [hev]
                      exact ⟨_, slice_run hu hie hse hr, .value h (by rw [subO_eq]; exact (hcut lo' _ k1 k2).2.2)⟩
                  · rename_i sz n g
                    cases e1 : Nat.beq sz se with
                    | false => rw [e1] at hp; cases hp
                    | true =>
                      rw [e1] at hp
                      simp only [cond_true, Option.some.injEq] at hp
                      subst hp
                      have e2 := Nat.eq_of_beq_eq_true e1
                      subst e2
                      obtain ⟨hm, hc'⟩ := hc
                      obtain ⟨c1, c2⟩ := allP_append.1 hc'
                      obtain ⟨a, c, hev, hnc, hcut⟩ := ro_cut (rol_ro hx).1
                      obtain ⟨hr, k1, k2⟩ := bounds3_run (P := P) (w := w) b1 b2 b3 hm hnc c1 c2
                      rw [hev]
                      exact ⟨_, slice_run hu hie hse hr, .value h (by rw [subO_eq]; exact (hcut lo' _ k1 k2).2.2)⟩
                  · rename_i sz id off n
                    cases e1 : Nat.beq sz se with
                    | false => rw [e1] at hp; cases hp
                    | true =>
                      rw [e1] at hp
                      simp only [cond_true, Option.some.injEq] at hp
                      subst hp
                      have e2 := Nat.eq_of_beq_eq_true e1
                      subst e2
                      obtain ⟨hm, hc'⟩ := hc
                      obtain ⟨c1, c2⟩ := allP_append.1 hc'
                      obtain ⟨a, c, hev, hnc, hcut⟩ := own_cut hx
                      obtain ⟨hr, k1, k2⟩ := bounds3_run (P := P) (w := w) b1 b2 b3 hm hnc c1 c2
                      rw [hev]
                      exact ⟨_, slice_run hu hie hse hr, .value h (by rw [subO_eq]; exact (hcut lo' _ k1 k2).2)⟩
                  · simp only [Option.some.injEq] at hp
                    subst hp
                    obtain ⟨hm, hc'⟩ := hc
                    obtain ⟨c1, c2⟩ := allP_append.1 hc'
                    obtain ⟨hr, k1, k2⟩ := bounds3_run (P := P) (w := w) b1 b2 b3 hm (Nat.le_refl 0) c1 c2
                    rw [hx.nils_inv]
                    refine ⟨_, slice_run hu hie hse hr, .value h ?_⟩
                    have h0 : hh.toNat = 0 := by omega
                    have l0 : loN lo' = 0 := by omega
                    rw [h0, l0]
                    exact .nils
                  · cases hp
            · cases hp
          · rename_i n el hd
            have hu := Tab.array hT hd
            split at hp
            · cases hm : mx.map e with
              | some => rw [hm] at b3; cases b3
              | none =>
                split at hp
                · rename_i d se _ _ _ hti
                  obtain ⟨_, ⟨ie, hie, hse, _, _⟩, _, _⟩ := hT el _ hti
                  simp only at hse
                  have hrun : ∀ b o l h, (Instr.sliceBounds false n n (lo.map e) (hi.map e) none).run P w = .ok (l, h, n) w →
                      (Instr.sliceAt t (.pointer (some ⟨b, o, none⟩)) (lo.map e) (hi.map e) none).run P w = .ok (.slice (some (if n = l then ⟨b, o, none⟩ else ⟨b, o + l * se, none⟩)) (h - l) (n - l)) w := fun b o l h hr => by
                    unfold Instr.sliceAt
                    simp only [Sem.run_bind, underlying, run_program, Result.andThen_ok, hu, Sem.run_pure, Instr.sureAddr, hr, sizeOf_run hie, hse, add_none]
                  unfold sliceP at hp
                  split at hp
                  · rename_i id path
                    split at hp
                    · rename_i y obs'
                      split at hp
                      · rename_i sz' n' g c hg
                        cases e1 : Nat.beq n n' && Nat.beq se sz' with
                        | false => rw [e1] at hp; cases hp
                        | true =>
                          rw [e1] at hp
                          simp only [cond_true, Option.some.injEq] at hp
                          subst hp
                          rw [Bool.and_eq_true] at e1
                          have e2 := Nat.eq_of_beq_eq_true e1.1
                          have e3 := Nat.eq_of_beq_eq_true e1.2
                          subst e2 e3
                          obtain ⟨c1, c23⟩ := allP_append.1 hc
                          obtain ⟨c2, c3⟩ := allP_append.1 c23
                          obtain ⟨hr, k1, k2⟩ := bounds2_run (P := P) (w := w) (b := false) b1 b2 (Nat.le_refl n) c1 c2
                          obtain ⟨b, N, hev, hb⟩ := hx.ptr_inv
                          obtain ⟨ob1, obs1, eo, hlk, _⟩ := looks_cons (show looks r (id :: idsOf bs) = _ by simpa [idsOf, idOf] using ho)
                          cases eo
                          obtain ⟨vs, _, fz, hh, hN, _, hH, _⟩ := h.cells hlk hb (by rintro z ks g ⟨⟩)
                          obtain ⟨_, g2, _, _, _, _⟩ := getP_ok (I := I) (ρ := ρ) path y _ c hH.1 hg c3
                          have hsz := hH.2.length
                          rw [A.length_cells y hH.1] at hsz
                          simp only [A.size] at g2
                          rw [hev]
                          refine ⟨_, hrun _ _ _ _ hr, .value h ?_⟩
                          rw [subO_eq]
                          by_cases e : n = loN lo'
                          · rw [if_pos e, show hiN hi' n - loN lo' = 0 by omega, show n - loN lo' = 0 by omega]
                            exact .vsl0
                          · rw [if_neg e]
                            refine .vsl hb (by omega) ?_
                            rw [show loN lo' + (n - loN lo') = n by omega]
                            simp at hsz
                            omega
                      · cases hp
                    · cases hp
                  · rename_i sz' n' g
                    cases e1 : Nat.beq n n' && Nat.beq se sz' with
                    | false => rw [e1] at hp; cases hp
                    | true =>
                      rw [e1] at hp
                      simp only [cond_true, Option.some.injEq] at hp
                      subst hp
                      rw [Bool.and_eq_true] at e1
                      have e2 := Nat.eq_of_beq_eq_true e1.1
                      have e3 := Nat.eq_of_beq_eq_true e1.2
                      subst e2 e3
                      obtain ⟨c1, c2⟩ := allP_append.1 hc
                      obtain ⟨hr, k1, k2⟩ := bounds2_run (P := P) (w := w) (b := false) b1 b2 (Nat.le_refl n) c1 c2
                      obtain ⟨b, o, hev, hwf, hpu, hra⟩ := hx.rop_inv
                      rw [hev]
                      have hro : R I ρ (.ro se n g) (.slice (some ⟨b, o, none⟩) n n) := .ro (Nat.le_refl _) (fun i hi => hwf i hi) (fun i hi => hra.vec hwf hi)
                      obtain ⟨a, c, hev2, hnc, hcut⟩ := ro_cut hro
                      cases hev2
                      refine ⟨_, hrun _ _ _ _ hr, .value h ?_⟩
                      rw [subO_eq]
                      have := (hcut lo' _ k1 k2).1
                      by_cases e : n = loN lo'
                      · rw [if_pos e] at this ⊢; exact this
                      · rw [if_neg e] at this ⊢
                        simpa only [Option.map_some, add_none] using this
                  · cases hp
                · cases hp
            · cases hp
          · cases hp
        · cases hp
      · cases hp
  · cases hp
end
end VX

/- VX 12: elements of slices; conversions; lengths; new slices; append; copy. -/
namespace VX
open Go

section
variable {P : Program} {T : Tab} (hT : TabOK P T.l)
variable {Γ : Ctx} {I : Imm} {ρ : Ren} {r : List (Nat × Option Obj)} {us : List Nat} {w : World} {nm : Nat}

/-- The cells of n elements, one behind another. -/
structure Elems (I : Imm) (sz n : Nat) (g : Nat → A) (cs : List Value) : Prop where
  len : cs.length = n * sz
  ok : ∀ i, i < n → (g i).wf ∧ (g i).size = sz ∧ (g i).pureP
  at_ : ∀ i, i < n → RL I nr (g i).cells ((cs.drop (i * sz)).take sz)
  one : ∀ v ∈ cs, v.oneCell' = true

theorem getElem?_mul_add {cs : List Value} {sz n j : Nat} (hl : cs.length = n * sz) (hj : j < n * sz) : ∃ i k, i < n ∧ k < sz ∧ j = i * sz + k := by
  have hsz : 0 < sz := by
    rcases Nat.eq_zero_or_pos sz with h | h
    · subst h; simp at hj
    · exact h
  refine ⟨j / sz, j % sz, ?_, Nat.mod_lt _ hsz, ?_⟩
  · exact (Nat.div_lt_iff_lt_mul hsz).2 hj
  · have := Nat.div_add_mod j sz
    rw [Nat.mul_comm] at this
    exact this.symm

/-- Cells in a row, from elements' own cells. -/
theorem exists_cells {sz : Nat} {g : Nat → A} {b o : Nat} : ∀ n, (∀ i, i < n → (g i).wf ∧ (g i).size = sz ∧ (g i).pureP) → (∀ i, i < n → RA I nr (g i).cells b (o + i * sz)) →
    ∃ cs, Elems I sz n g cs ∧ ∀ j v, cs[j]? = some v → I b (o + j) = some v
  | 0, _, _ => ⟨[], ⟨by simp, by simp, by simp, by simp⟩, by simp⟩
  | n + 1, hw, hr => by
    obtain ⟨cs, hE, hI⟩ := exists_cells n (fun i hi => hw i (by omega)) (fun i hi => hr i (by omega))
    obtain ⟨vs, hl, hv⟩ := (hr n (Nat.lt_succ_self n)).get
    have hvl := hl.length
    rw [A.length_cells _ (hw n (Nat.lt_succ_self n)).1, (hw n (Nat.lt_succ_self n)).2.1] at hvl
    refine ⟨cs ++ vs, ⟨?_, hw, fun i hi => ?_, fun v hv' => ?_⟩, fun j v hj => ?_⟩
    · rw [List.length_append, hE.len, ← hvl, Nat.succ_mul]
    · by_cases h : i < n
      · have h1 := hE.at_ i h
        rw [List.drop_append_of_le_length (by rw [hE.len]; exact Nat.mul_le_mul_right _ (by omega))]
        rw [List.take_append_of_le_length (by
          rw [List.length_drop, hE.len]
          have := Nat.mul_le_mul_right sz (show i + 1 ≤ n from h)
          rw [Nat.succ_mul] at this
          omega)]
        exact h1
      · have : i = n := by omega
        subst this
        rw [← hE.len, List.drop_left, List.take_of_length_le (by omega)]
        exact hl
    · rcases List.mem_append.1 hv' with h | h
      · exact hE.one v h
      · obtain ⟨j, hj⟩ := List.mem_iff_getElem?.1 h
        exact (hv j v hj).2
    · by_cases h : j < cs.length
      · rw [List.getElem?_append_left h] at hj
        exact hI j v hj
      · rw [List.getElem?_append_right (by omega)] at hj
        have := (hv _ v hj).1
        rw [hE.len] at this h
        rwa [show o + n * sz + (j - n * sz) = o + j by omega] at this

theorem elems_imm {sz n c : Nat} {g : Nat → A} {b o : Nat} (hI : ∀ b o v, I b o = some v → w.cell? ⟨b, o, none⟩ = some v) (hw : ∀ i, i < n → (g i).wf ∧ (g i).size = sz ∧ (g i).pureP) (hr : ∀ i, i < n → RA I nr (g i).cells b (o + i * sz)) :
    ∃ cs, Elems I sz n g cs ∧ ∀ m, m ≤ n → ∀ w' : World, w'.heap = w.heap → (Builtin.firstCells sz m (.slice (some ⟨b, o, none⟩) n c)).run P w' = .ok (cs.take (m * sz)).toArray w' := by
  obtain ⟨cs, hE, hc⟩ := exists_cells n hw hr
  refine ⟨cs, hE, fun m hm w' hw' => ?_⟩
  have hlen : (cs.take (m * sz)).length = m * sz := by rw [List.length_take, hE.len]; exact Nat.min_eq_left (Nat.mul_le_mul_right _ hm)
  unfold Builtin.firstCells
  have := run_loadCells_imm (P := P) (w := w') (fun b o v h => by have := hI b o v h; simp only [World.cell?] at this ⊢; rw [hw']; exact this) (b := b) (o := o) (vs := cs.take (m * sz)) (fun j v hv => hc j v (by
    rw [List.getElem?_take] at hv
    split at hv
    · exact hv
    · cases hv))
  rw [hlen] at this
  exact this

/-- The elements that a slice or a string has, as the operations read them. -/
structure Reads (P : Program) (I : Imm) (w : World) (v : Value) (sz n : Nat) (g : Nat → A) (cs : List Value) : Prop where
  el : Elems I sz n g cs
  len : ∀ w' : World, (Builtin.lenOf v).run P w' = .ok n w'
  first : ∀ m, m ≤ n → ∀ w' : World, w'.heap = w.heap → (Builtin.firstCells sz m v).run P w' = .ok (cs.take (m * sz)).toArray w'

theorem elems_blk {sz n m c off : Nat} {g : Nat → A} {b N : Nat} {vs : Array Value} {e : TypeId} {fz : Nat × Nat} (hb : w.heap[b]? = some (.cells vs e fz)) (hN : vs.size = N) (hH : HoldsC I ρ (.arr sz m g) vs.toList)
    (h1 : ∀ v ∈ vs.toList, v.oneCell' = true) (hn : off + n ≤ m) : ∃ cs, Reads P I w (.slice (some ⟨b, off * sz, none⟩) n c) sz n (shiftF off g) cs := by
  obtain ⟨hm, hw, hr⟩ := hH
  have hle : off * sz + n * sz ≤ m * sz := by rw [← Nat.add_mul]; exact Nat.mul_le_mul_right _ hn
  refine ⟨(vs.toList.drop (off * sz)).take (n * sz), ⟨⟨?_, fun i hi => ?_, fun i hi => ?_, fun v hv => ?_⟩, ?_, fun k hk => ?_⟩⟩
  · rw [List.length_take, List.length_drop]; omega
  · rw [shiftF_at]; exact hw _ (by omega)
  · rw [shiftF_at]
    have h2 := hr (off + i) (by omega)
    rw [List.drop_take, List.take_take, List.drop_drop, ← Nat.add_mul, Nat.min_eq_left (by
      have := Nat.mul_le_mul_right sz (show i + 1 ≤ n from hi)
      rw [Nat.succ_mul] at this
      omega)]
    exact h2
  · exact h1 v (List.mem_of_mem_drop (List.mem_of_mem_take hv))
  · intro w'; simp [Builtin.lenOf]
  · intro w' hw'
    unfold Builtin.firstCells
    have hk' : k * sz ≤ n * sz := Nat.mul_le_mul_right _ hk
    rw [run_loadCells_blk (w := w') (by rw [hw']; exact hb) (by simp only [Array.length_toList] at hm; omega), List.take_take, Nat.min_eq_left hk']

theorem elems0_ok {x : A} {v : Value} {o1 o2 : List Obj} {se sz n : Nat} {g : Nat → A} {c : List Prop} (h : RW Γ I ρ r us w) (hx : R I ρ x v) (ho : looks r (idOf x) = some o1)
    (he : elems0 x (o1 ++ o2) se = some (sz, n, g, c)) (hc : allP c) : ∃ cs, Reads P I w v sz n g cs := by
  unfold elems0 at he
  cases hn : isNils x with
  | true =>
    rw [hn] at he
    simp only [Option.some.injEq, Prod.mk.injEq] at he
    obtain ⟨rfl, rfl, rfl, rfl⟩ := he
    cases x <;> simp [isNils] at hn
    rw [hx.nils_inv]
    exact ⟨[], ⟨⟨by simp, by simp, by simp, by simp⟩, fun w' => by simp [Builtin.lenOf], fun m hm w' hw' => by simp [Builtin.firstCells]⟩⟩
  | false =>
    rw [hn] at he
    simp only at he
    unfold elems at he
    split at he
    · simp only [Option.some.injEq, Prod.mk.injEq] at he
      obtain ⟨rfl, rfl, rfl, rfl⟩ := he
      cases hx with
      | agg hx _ _ => cases hx
      | ro h1 h2 h3 =>
        obtain ⟨cs, hE, hf⟩ := elems_imm (P := P) h.imm h2 h3
        exact ⟨cs, hE, fun w' => by simp [Builtin.lenOf], hf⟩
      | ro0 =>
        rename_i sz g a c
        refine ⟨[], ⟨by simp, by simp, by simp, by simp⟩, fun w' => by simp [Builtin.lenOf], fun m hm w' hw' => ?_⟩
        have : m = 0 := by omega
        subst this
        cases a <;> simp [Builtin.firstCells, loadCells, loadCellsFrom]
    · simp only [Option.some.injEq, Prod.mk.injEq] at he
      obtain ⟨rfl, rfl, rfl, rfl⟩ := he
      cases hx with
      | agg hx _ _ => cases hx
      | rol h2 h3 =>
        obtain ⟨cs, hE, hf⟩ := elems_imm (P := P) h.imm h2 h3
        exact ⟨cs, hE, fun w' => by simp [Builtin.lenOf], hf⟩
      | rol0 =>
        rename_i sz g a
        refine ⟨[], ⟨by simp, by simp, by simp, by simp⟩, fun w' => by simp [Builtin.lenOf], fun m hm w' hw' => ?_⟩
        have : m = 0 := by omega
        subst this
        cases a <;> simp [Builtin.firstCells, loadCells, loadCellsFrom]
    · rename_i l
      simp only [Option.some.injEq, Prod.mk.injEq] at he
      obtain ⟨rfl, rfl, rfl, rfl⟩ := he
      rw [hx.str_inv]
      refine ⟨l.map fun b => .int .u8 b.toNat, ⟨by simp, fun i hi => by simp [byteAt, byte, A.wf, A.size, A.pureP], fun i hi => ?_, fun v hv => ?_⟩, fun w' => by simp [Builtin.lenOf, ByteArray.size], fun m hm w' hw' => ?_⟩
      · have : ((l.map fun b => Value.int .u8 b.toNat).drop (i * 1)).take 1 = [.int .u8 (l[i].toNat)] := by
          apply List.ext_getElem?
          intro j
          rw [slice_get]
          cases j with
          | zero => simp [hi]
          | succ j => simp
        rw [this]
        simp only [byteAt, byte, List.getD_eq_getElem?_getD, List.getElem?_eq_getElem hi, Option.getD_some, A.cells]
        exact .cons .int .nil
      · simp only [List.mem_map] at hv
        obtain ⟨b, _, rfl⟩ := hv
        rfl
      · unfold Builtin.firstCells
        simp only [Sem.run_pure]
        congr 1
        apply Array.ext'
        simp [ByteArray.data_extract, List.extract_eq_take_drop]
    · rename_i sz' id off n' sz1 m g1 obs' hobs
      cases e1 : Nat.beq sz' sz1 with
      | false => rw [e1] at he; cases he
      | true =>
        rw [e1] at he
        simp only [cond_true, Option.some.injEq, Prod.mk.injEq] at he
        obtain ⟨rfl, rfl, rfl, rfl⟩ := he
        have e2 := Nat.eq_of_beq_eq_true e1
        subst e2
        obtain ⟨ob, rfl, hlk⟩ := looks_one (show looks r [id] = _ from ho)
        simp only [List.singleton_append, List.cons.injEq] at hobs
        obtain ⟨rfl, _⟩ := hobs
        cases hx with
        | agg hx _ _ => cases hx
        | own hb h2 h3 =>
          obtain ⟨vs, e, fz, hh, hN, _, hH, h1⟩ := h.cells hlk hb (by rintro z ks g ⟨⟩)
          exact elems_blk hh hN hH h1 hc.1
        | own0 =>
          rename_i a
          refine ⟨[], ⟨by simp, by simp, by simp, by simp⟩, fun w' => by simp [Builtin.lenOf], fun m hm w' hw' => ?_⟩
          have : m = 0 := by omega
          subst this
          cases a <;> simp [Builtin.firstCells, loadCells, loadCellsFrom]
    · rename_i sz' id off n' sz1 m g1 obs' hobs
      cases e1 : Nat.beq sz' sz1 with
      | false => rw [e1] at he; cases he
      | true =>
        rw [e1] at he
        simp only [cond_true, Option.some.injEq, Prod.mk.injEq] at he
        obtain ⟨rfl, rfl, rfl, rfl⟩ := he
        have e2 := Nat.eq_of_beq_eq_true e1
        subst e2
        obtain ⟨ob, rfl, hlk⟩ := looks_one (show looks r [id] = _ from ho)
        simp only [List.singleton_append, List.cons.injEq] at hobs
        obtain ⟨rfl, _⟩ := hobs
        cases hx with
        | agg hx _ _ => cases hx
        | owl hb h3 =>
          obtain ⟨vs, e, fz, hh, hN, _, hH, h1⟩ := h.cells hlk hb (by rintro z ks g ⟨⟩)
          exact elems_blk hh hN hH h1 hc.1
        | owl0 =>
          rename_i a
          refine ⟨[], ⟨by simp, by simp, by simp, by simp⟩, fun w' => by simp [Builtin.lenOf], fun m hm w' hw' => ?_⟩
          have : m = 0 := by omega
          subst this
          cases a <;> simp [Builtin.firstCells, loadCells, loadCellsFrom]
    · rename_i sz' id path o n' y obs' hobs
      split at he
      · rename_i sz1 m g1 c1 hg
        cases e1 : Nat.beq sz' sz1 with
        | false => rw [e1] at he; cases he
        | true =>
          rw [e1] at he
          simp only [cond_true, Option.some.injEq, Prod.mk.injEq] at he
          obtain ⟨rfl, rfl, rfl, rfl⟩ := he
          have e2 := Nat.eq_of_beq_eq_true e1
          subst e2
          obtain ⟨ob, rfl, hlk⟩ := looks_one (show looks r [id] = _ from ho)
          simp only [List.singleton_append, List.cons.injEq] at hobs
          obtain ⟨rfl, _⟩ := hobs
          cases hx with
          | agg hx _ _ => cases hx
          | vsl hb h2 h3 =>
            obtain ⟨vs, e, fz, hh, hN, _, hH, h1⟩ := h.cells hlk hb (by rintro z ks g ⟨⟩)
            obtain ⟨k1, k2, _, _, _, k5⟩ := getP_ok (I := I) (ρ := ρ) path y _ c1 hH.1 hg hc.2
            have hsz := hH.2.length
            rw [A.length_cells y hH.1] at hsz
            have hr := k5 _ hH.2
            simp only [A.size] at k2 hr
            have hm := hc.1
            have hlen : ∀ j, j < m → ((fun i => (g1 i).cells) j).length = sz' := fun j hj => by
              simp only []
              rw [A.length_cells _ (k1 j hj).1, (k1 j hj).2.1]
            have hcell : ∀ i, i < m → RL I nr (g1 i).cells ((vs.toList.drop (addr path + i * sz')).take sz') := fun i hi => by
              obtain ⟨l, q, hf, hl, _⟩ := flat_split (f := fun i => (g1 i).cells) hlen hi
              have hr' := hr
              simp only [A.cells] at hr'
              rw [hf] at hr'
              have := RL.middle hr'
              rw [A.length_cells _ (k1 i hi).1, (k1 i hi).2.1, hl] at this
              rw [List.drop_take, List.take_take, List.drop_drop, Nat.min_eq_left (by
                have := Nat.mul_le_mul_right sz' (show i + 1 ≤ m from hi)
                rw [Nat.succ_mul] at this
                omega)] at this
              exact RL.pure this (cells_pureP (k1 i hi).1 (k1 i hi).2.2)
            have hle : (o + n') * sz' ≤ m * sz' := Nat.mul_le_mul_right _ hm
            have hsp := Nat.add_mul o n' sz'
            refine ⟨(vs.toList.drop (addr path + o * sz')).take (n' * sz'), ⟨?_, fun i hi => ?_, fun i hi => ?_, fun v hv => ?_⟩, fun w' => by simp [Builtin.lenOf], fun k hk w' hw' => ?_⟩
            · rw [List.length_take, List.length_drop]; omega
            · rw [shiftF_at]; exact k1 _ (by omega)
            · rw [shiftF_at]
              have h2 := hcell (o + i) (by omega)
              rw [List.drop_take, List.take_take, List.drop_drop, Nat.add_assoc, ← Nat.add_mul, Nat.min_eq_left (by
                have := Nat.mul_le_mul_right sz' (show i + 1 ≤ n' from hi)
                rw [Nat.succ_mul] at this
                omega)]
              exact h2
            · exact h1 v (List.mem_of_mem_drop (List.mem_of_mem_take hv))
            · unfold Builtin.firstCells
              have hk' : k * sz' ≤ n' * sz' := Nat.mul_le_mul_right _ hk
              simp only [Array.length_toList] at hsz
              rw [run_loadCells_blk (w := w') (by rw [hw']; exact hh) (by omega), List.take_take, Nat.min_eq_left hk']
          | vsl0 =>
            rename_i a
            refine ⟨[], ⟨by simp, by simp, by simp, by simp⟩, fun w' => by simp [Builtin.lenOf], fun m hm w' hw' => ?_⟩
            have : m = 0 := by omega
            subst this
            cases a <;> simp [Builtin.firstCells, loadCells, loadCellsFrom]
      · cases he
    · cases he
end
end VX

/- VX 13: append, copy, make; what makes memory. -/
namespace VX
open Go

section
variable {P : Program} {T : Tab} (hT : TabOK P T.l)
variable {Γ : Ctx} {I : Imm} {ρ : Ren} {r : List (Nat × Option Obj)} {us : List Nat} {w : World} {nm : Nat}

theorem Elems.append {sz n m : Nat} {g h : Nat → A} {cs ds : List Value} (h1 : Elems I sz n g cs) (h2 : Elems I sz m h ds) : Elems I sz (n + m) (catF n g h) (cs ++ ds) := by
  refine ⟨by rw [List.length_append, h1.len, h2.len, Nat.add_mul], fun i hi => ?_, fun i hi => ?_, fun v hv => ?_⟩
  · rw [catF_at]
    by_cases hin : i < n
    · rw [if_pos hin]; exact h1.ok i hin
    · rw [if_neg hin]; exact h2.ok _ (by omega)
  · rw [catF_at]
    by_cases hin : i < n
    · rw [if_pos hin]
      have := h1.at_ i hin
      have hm := Nat.mul_le_mul_right sz (show i + 1 ≤ n from hin)
      rw [Nat.succ_mul] at hm
      rw [List.drop_append_of_le_length (by rw [h1.len]; omega), List.take_append_of_le_length (by rw [List.length_drop, h1.len]; omega)]
      exact this
    · rw [if_neg hin]
      have := h2.at_ (i - n) (by omega)
      have e : i * sz = cs.length + (i - n) * sz := by
        rw [h1.len, ← Nat.add_mul]; congr 1; omega
      rw [e, List.drop_append, List.drop_eq_nil_of_le (by omega), List.nil_append, Nat.add_sub_cancel_left]
      exact this
  · rcases List.mem_append.1 hv with h | h
    · exact h1.one v h
    · exact h2.one v h

/-- Elements lie at the head of a row. -/
theorem Elems.holds {sz n : Nat} {g : Nat → A} {cs : List Value} (h : Elems I sz n g cs) (rest : List Value) : HoldsC I ρ (.arr sz n g) (cs ++ rest) := by
  refine ⟨by rw [List.length_append, h.len]; omega, h.ok, fun i hi => ?_⟩
  have := h.at_ i hi
  have hm := Nat.mul_le_mul_right sz (show i + 1 ≤ n from hi)
  rw [Nat.succ_mul] at hm
  rw [List.drop_append_of_le_length (by rw [h.len]; omega), List.take_append_of_le_length (by rw [List.length_drop, h.len]; omega)]
  exact this

theorem HoldsC.elems {sz n m : Nat} {g : Nat → A} {vs : List Value} (h : HoldsC I ρ (.arr sz m g) vs) (h1 : ∀ v ∈ vs, v.oneCell' = true) (hn : n ≤ m) : Elems I sz n g (vs.take (n * sz)) := by
  obtain ⟨hl, hw, hr⟩ := h
  have hle := Nat.mul_le_mul_right sz hn
  refine ⟨by rw [List.length_take]; omega, fun i hi => hw i (by omega), fun i hi => ?_, fun v hv => h1 v (List.mem_of_mem_take hv)⟩
  have := hr i (by omega)
  have hm := Nat.mul_le_mul_right sz (show i + 1 ≤ n from hi)
  rw [Nat.succ_mul] at hm
  rw [List.drop_take, List.take_take, Nat.min_eq_left (by omega)]
  exact this

theorem RW.congr (h : RW Γ I ρ r us w) {r' : List (Nat × Option Obj)} (hr : ∀ n, look r' n = look r n) : RW Γ I ρ r' us w :=
  ⟨h.imm, fun n ob hn => h.own n ob (by rw [← hr]; exact hn), fun m n ob ob' b N N' hm hn => h.inj m n ob ob' b N N' (by rw [← hr]; exact hm) (by rw [← hr]; exact hn), h.names, h.frame, h.keep⟩

/-- One name for another one. -/
theorem RW.rename (h : RW Γ I ρ r us w) {id : Nat} {ob : Obj} (hl : look r id = some (some ob)) {l : Loc} (hρ : ρ id = some l) (hnm : usedN us nm = false) :
    RW Γ I (ρ.set nm l) ((nm, some ob) :: (id, none) :: r) (nm :: us) w := by
  have hle : ρ.le (ρ.set nm l) := Ren.le_set (h.names nm hnm)
  have hne : nm ≠ id := by
    rintro rfl
    rw [h.names nm hnm] at hρ
    cases hρ
  have mono : ∀ l' ob', Own Γ I ρ w l' ob' → Own Γ I (ρ.set nm l) w l' ob' := fun l' ob' ho => by
    cases l' with
    | nil => exact ho.nil_iff
    | blk b N => exact ⟨ho.noI, ho.mine, let ⟨o', ho', hh⟩ := ho.blk; ⟨o', ho', hh.mono (Imm.le.refl _) hle⟩⟩
  refine ⟨h.imm, fun n ob' hn => ?_, fun m n ob1 ob2 b N1 N2 hm hn hbm hbn => ?_, fun n hn => ?_, h.frame, keep_set h.keep hnm⟩
  · rw [look_cons, look_cons] at hn
    by_cases e : nm = n
    · subst e
      simp only [if_true, Option.some.injEq] at hn
      subst hn
      obtain ⟨l', hl', ho⟩ := h.own id ob hl
      rw [hρ] at hl'
      cases hl'
      exact ⟨l, by simp [Ren.set], mono _ _ ho⟩
    · rw [if_neg e] at hn
      by_cases e2 : id = n
      · rw [if_pos e2] at hn; cases hn
      · rw [if_neg e2] at hn
        obtain ⟨l', hl', ho⟩ := h.own n ob' hn
        exact ⟨l', hle _ _ hl', mono _ _ ho⟩
  · -- a name of the new state stands for one of the old
    have key : ∀ k ob1, look ((nm, some ob) :: (id, none) :: r) k = some (some ob1) → ∃ k0 ob0, look r k0 = some (some ob0) ∧ ρ k0 = (ρ.set nm l) k ∧ (k = nm ∧ k0 = id ∨ k ≠ nm ∧ k0 = k ∧ k ≠ id) := fun k ob1 hk => by
      rw [look_cons, look_cons] at hk
      by_cases e : nm = k
      · subst e
        exact ⟨id, ob, hl, by simp [Ren.set, hρ], .inl ⟨rfl, rfl⟩⟩
      · rw [if_neg e] at hk
        by_cases e2 : id = k
        · rw [if_pos e2] at hk; cases hk
        · rw [if_neg e2] at hk
          exact ⟨k, ob1, hk, by simp [Ren.set, Ne.symm e], .inr ⟨Ne.symm e, rfl, Ne.symm e2⟩⟩
    obtain ⟨m0, o1, h1, h2, h3⟩ := key m ob1 hm
    obtain ⟨n0, o2, h4, h5, h6⟩ := key n ob2 hn
    have := h.inj m0 n0 o1 o2 b N1 N2 h1 h4 (h2.trans hbm) (h5.trans hbn)
    rcases h3 with ⟨a, b'⟩ | ⟨a, b', c⟩ <;> rcases h6 with ⟨a2, b2⟩ | ⟨a2, b2, c2⟩
    · rw [a, a2]
    · subst b' b2; exact absurd this.symm c2
    · subst b' b2; exact absurd this c
    · rw [← b', ← b2, this]
  · rw [usedN_cons] at hn
    simp only [Bool.or_eq_false_iff, decide_eq_false_iff_not] at hn
    simp only [Ren.set, if_neg (Ne.symm hn.1)]
    exact h.names n hn.2


theorem toSrc {v : Value} {sz m : Nat} {h : Nat → A} {ds : List Value} {xt : Nat} (hk : (∃ e', P.underlying xt = some (.slice e')) ∨ P.underlying xt = some .string) (hR : Reads P I w v sz m h ds) :
    Src P sz xt v m ds w := by
  have hds : ds.take (m * sz) = ds := List.take_of_length_le (by rw [hR.el.len]; exact Nat.le_refl _)
  refine ⟨hk, hR.len, ?_, ?_, hR.el.len, hR.el.one⟩
  · have := hR.first m (Nat.le_refl _) w rfl
    rwa [hds] at this
  · have := hR.first m (Nat.le_refl _) w.drew rfl
    rwa [hds] at this

theorem zeroCells_mem {z : Array Value} {n : Nat} {u : Value} (h : u ∈ (Builtin.zeroCells z n).toList) : u ∈ z.toList := by
  unfold Builtin.zeroCells at h
  simp only [Array.toList_map, List.mem_map, Array.toList_range, List.mem_range] at h
  obtain ⟨i, hi, rfl⟩ := h
  have hz : 0 < z.size := by
    rcases Nat.eq_zero_or_pos z.size with h0 | h0
    · rw [h0] at hi; simp at hi
    · exact h0
  have : i % z.size < z.size := Nat.mod_lt _ hz
  rw [getElem!_pos z (i % z.size) this]
  exact Array.getElem_mem_toList _

theorem zeroCells_len {z : Array Value} {n : Nat} : (Builtin.zeroCells z n).toList.length = n * z.size := by
  simp [Builtin.zeroCells]

/-- No room: the elements lie in a new row. -/
theorem append_grow {sT xT ty e : Nat} {i : TypeInfo} {sz be : Nat} {z : A} {zv : Value} (hs : P.underlying sT = some (.slice e)) (hi : P.info? e = some i) (hse : i.size = sz) (hbe : i.bytes = be) (hz : i.zero = some zv)
    (hzR : R I ρ z zv) (hzs : z.sureP) (hzz : z.size = sz) {a : Option Addr} {n c m : Nat} {v : Value} {g h : Nat → A} {cs ds : List Value}
    (hk : (∃ e', P.underlying xT = some (.slice e')) ∨ P.underlying xT = some .string)
    (hold : (Builtin.firstCells sz n (.slice a n c)).run P w.drew = .ok cs.toArray w.drew) (hE : Elems I sz n g cs) (hR : Reads P I w v sz m h ds)
    (hb : 0 < be) (hc : c < n + m) (hfit : (n + m) * be ≤ 17592186044416) (hW : RW Γ I ρ r us w) (hnm : usedN us nm = false) {c' : List Prop} :
    ∃ u w', (Builtin.append_ #[sT, xT] ty #[.slice a n c, v]).run P w = .ok u w' ∧
      Done Γ I ρ r us nm ⟨c', .own sz nm 0 (n + m), [(nm, some (.arr sz (n + m) (catF n g h)))], true⟩ (.ok (.value u) w') := by
  have h63 : ((n + m : Nat) : Int) ≤ 9223372036854775807 := by
    have : n + m ≤ (n + m) * be := Nat.le_mul_of_pos_right _ hb
    omega
  have hfit2 : Builtin.nextslicecap (n + m) c * i.bytes ≤ 281474976710656 := growslice_fits hc (by rw [hbe]; omega)
  have hrun := run_append_grow_src (P := P) w sT xT ty e i zv hs hi hz a n c cs (by rw [hse]; exact hold) v m ds (by rw [hse]; exact toSrc hk hR) hc h63 hfit2
  have hcap : n + m ≤ grownCap w (n + m) c e := by simp [grownCap, Question.cut]
  obtain ⟨hzc, hz1⟩ := hzR.cells hzs
  have hzlen := hzc.length
  rw [A.length_cells z hzR.wf, hzz] at hzlen
  have hzsz : zv.cells.size = sz := by rw [hzlen]; simp
  have hElems := hE.append hR.el
  have hN : ((cs ++ ds).toArray ++ Builtin.zeroCells zv.cells (grownCap w (n + m) c e - (n + m))).size = grownCap w (n + m) c e * sz := by
    rw [Array.size_append, List.size_toArray, hElems.len, ← Array.length_toList (xs := Builtin.zeroCells _ _), zeroCells_len, hzsz, ← Nat.add_mul]
    congr 1
    omega
  refine ⟨_, _, hrun, _, _, _, ρ.set nm (.blk w.heap.size (grownCap w (n + m) c e * sz)), rfl, rfl, Ren.le_set (hW.names nm hnm), hW.drew.alloc hnm ⟨hN, Thawed.none _, ?_, fun u hu => ?_⟩, ?_⟩
  · simp only [Array.toList_append]
    exact hElems.holds _
  · simp only [Array.toList_append, List.mem_append] at hu
    rcases hu with hu | hu
    · exact hElems.one u (by simpa using hu)
    · exact hz1 u (zeroCells_mem hu)
  · have := R.own (I := I) (ρ := ρ.set nm (.blk w.heap.size (grownCap w (n + m) c e * sz))) (sz := sz) (id := nm) (off := 0) (n := n + m) (b := w.heap.size) (N := grownCap w (n + m) c e * sz) (c := grownCap w (n + m) c e) (by simp [Ren.set]) hcap (by simp)
    simpa using this

theorem nothing_elems {sz : Nat} {g : Nat → A} : Elems I sz 0 g [] := ⟨by simp, by simp, by simp, by simp⟩

/-- Nothing is appended to nothing. -/
theorem append_nothing {sT xT ty e : Nat} {i : TypeInfo} {sz : Nat} (hs : P.underlying sT = some (.slice e)) (hi : P.info? e = some i) (hse : i.size = sz) {a : Option Addr} {v : Value} {h g : Nat → A} {ds : List Value} {c : Nat}
    (hk : (∃ e', P.underlying xT = some (.slice e')) ∨ P.underlying xT = some .string) (hR : Reads P I w v sz 0 h ds) :
    (Builtin.append_ #[sT, xT] ty #[.slice a 0 c, v]).run P w = .ok (.slice a 0 c) w := by
  have hsrc := toSrc hk hR
  have hds : ds = [] := by
    have := hR.el.len
    simpa using this
  subst hds
  rcases hsrc.kind with ⟨e', hk⟩ | hk <;> cases a <;>
    simp [Builtin.append_, run_underlying hs, run_underlying hk, Go.sizeOf, typeInfo, hi, hse, hsrc.len, hsrc.cells, storeCells]

/-- There is room: the elements lie behind the others. -/
theorem append_room {sT xT ty e : Nat} {i : TypeInfo} {sz : Nat} (hs : P.underlying sT = some (.slice e)) (hi : P.info? e = some i) (hse : i.size = sz) {id b N n k c m : Nat} {v : Value} {g h : Nat → A} {ds : List Value}
    (hk : (∃ e', P.underlying xT = some (.slice e')) ∨ P.underlying xT = some .string) (hR : Reads P I w v sz m h ds)
    (hW : RW Γ I ρ r us w) (hnm : usedN us nm = false) (hl : look r id = some (some (.arr sz k g))) (hb : ρ id = some (.blk b N)) (hn : n ≤ k) (hroom : n + m ≤ c) (hcN : c * sz ≤ N) {c' : List Prop} :
    ∃ u w', (Builtin.append_ #[sT, xT] ty #[.slice (some ⟨b, 0, none⟩) n c, v]).run P w = .ok u w' ∧
      Done Γ I ρ r us nm ⟨c', .own sz nm 0 (n + m), [(id, none), (nm, some (.arr sz (n + m) (catF n g h)))], true⟩ (.ok (.value u) w') := by
  obtain ⟨vs, e', fz, hh, hN, hfz, hH, h1⟩ := hW.cells hl hb (by rintro z ks g ⟨⟩)
  have hsrc := toSrc hk hR
  have hdl := hR.el.len
  have hle : (n + m) * sz ≤ N := Nat.le_trans (Nat.mul_le_mul_right _ hroom) hcN
  have hsum := Nat.add_mul n m sz
  have hrun := run_append_room_src (P := P) w sT xT ty e i hs hi b 0 n c v m ds (by rw [hse]; exact hsrc) hroom
    (fun j hj => by
      simp only [World.cell?, hh, Nat.zero_add, hse]
      simp [Array.getElem?_eq_getElem (show n * sz + j < vs.size by omega)])
    (fun j hj => by
      simp only [World.frozen?, hh, Nat.zero_add, hse]
      exact hfz.2 _ (by omega))
  rw [Nat.zero_add, hse, setCells_setBlk b e' fz ds (n * sz) w vs hh (by omega)] at hrun
  have hE1 : Elems I sz n g (vs.toList.take (n * sz)) := hH.elems h1 hn
  have hElems := hE1.append hR.el
  have hsplit : spliceL vs.toList (n * sz) ds = (vs.toList.take (n * sz) ++ ds) ++ vs.toList.drop (n * sz + ds.length) := rfl
  have hput := hW.put hl hb (ob' := .arr sz (n + m) (catF n g h)) (o := .cells (spliceL vs.toList (n * sz) ds).toArray e' fz)
    ⟨by rw [List.size_toArray, spliceL_length (by simp; omega)]; simpa using hN, hfz, by
      show HoldsC I ρ _ (spliceL vs.toList (n * sz) ds)
      rw [hsplit]; exact hElems.holds _, fun u hu => by
      rcases mem_spliceL (by simpa using hu) with hu | hu
      · exact h1 u hu
      · exact hR.el.one u hu⟩
  have hren := hput.rename (id := id) (ob := .arr sz (n + m) (catF n g h)) (by rw [look_cons]; simp) hb hnm
  refine ⟨_, _, hrun, _, _, _, ρ.set nm (.blk b N), rfl, rfl, Ren.le_set (hW.names nm hnm), ?_, ?_⟩
  · refine hren.congr fun q => ?_
    simp only [addW, look_cons]
    by_cases h1 : nm = q
    · simp [h1]
    · by_cases h2 : id = q <;> simp [h1, h2]
  · have := R.own (I := I) (ρ := ρ.set nm (.blk b N)) (sz := sz) (id := nm) (off := 0) (n := n + m) (b := b) (N := N) (c := c) (by simp [Ren.set]) hroom (by simpa using hcN)
    simpa using this
end
end VX

/- VX 14: append, copy, make, conversions, literals: the operations themselves. -/
namespace VX
open Go

section
variable {P : Program} {T : Tab} (hT : TabOK P T.l)
variable {Γ : Ctx} {I : Imm} {ρ : Ren} {r : List (Nat × Option Obj)} {us : List Nat} {w : World} {nm : Nat}

theorem andb {a b : Bool} (h : (a && b) = true) : a = true ∧ b = true := by simpa using h
theorem beqn {a b : Nat} (h : Nat.beq a b = true) : a = b := Nat.eq_of_beq_eq_true h

theorem Done.addW_nil {c : List Prop} {sz : Nat} {g : Nat → A} (h : RW Γ I ρ r us w) (hnm : usedN us nm = false) {a : Option Addr} :
    Done Γ I ρ r us nm ⟨c, .own sz nm 0 0, [(nm, some (.arr sz 0 g))], true⟩ (.ok (.value (.slice a 0 0)) w) :=
  ⟨_, _, _, ρ.set nm .nil, rfl, rfl, Ren.le_set (h.names nm hnm), h.allocNil hnm, .own0⟩


/-- Append to what keeps no spare places. -/
theorem append_full {sT xT ty e : Nat} {i : TypeInfo} {sz be : Nat} {z : A} {zv : Value} (hs : P.underlying sT = some (.slice e)) (hi : P.info? e = some i) (hse : i.size = sz) (hbe : i.bytes = be) (hz : i.zero = some zv)
    (hzR : R I ρ z zv) (hzs : z.sureP) (hzz : z.size = sz) {a : Option Addr} {n c m : Nat} {v : Value} {g h : Nat → A} {cs ds : List Value}
    (hk : (∃ e', P.underlying xT = some (.slice e')) ∨ P.underlying xT = some .string) (hS : Reads P I w (.slice a n c) sz n g cs) (hR : Reads P I w v sz m h ds) (hb : 0 < be)
    (hc : c < n + m ∨ n = 0 ∧ m = 0 ∧ c = 0) (hfit : (n + m) * be ≤ 17592186044416) (hW : RW Γ I ρ r us w) (hnm : usedN us nm = false) {c' : List Prop} :
    ∃ u w', (Builtin.append_ #[sT, xT] ty #[.slice a n c, v]).run P w = .ok u w' ∧
      Done Γ I ρ r us nm ⟨c', .own sz nm 0 (n + m), [(nm, some (.arr sz (n + m) (catF n g h)))], true⟩ (.ok (.value u) w') := by
  rcases hc with hc | ⟨rfl, rfl, rfl⟩
  · have hold := hS.first n (Nat.le_refl _) w.drew rfl
    rw [List.take_of_length_le (by rw [hS.el.len]; exact Nat.le_refl _)] at hold
    exact append_grow hs hi hse hbe hz hzR hzs hzz hk hold hS.el hR hb hc hfit hW hnm
  · exact ⟨_, _, append_nothing (g := g) hs hi hse hk hR, Done.addW_nil hW hnm⟩

include hT in
theorem append_ok {sT xT ty e : Nat} {se be : Nat} {d : TD} {z : A} {q : Bool} (hs : T.d sT = .slice e) (hti : nth T.l e = some ⟨d, se, be, z, q⟩) {s x : A} {sv xv : Value} {obs : List Obj} {out : Out}
    (hk : (∃ e', P.underlying xT = some (.slice e')) ∨ P.underlying xT = some .string) (hp : appendV se be z s x obs nm = some out) (hc : allP out.c) (h : RW Γ I ρ r us w) (hnm : usedN us nm = false)
    (hsR : R I ρ s sv) (hxR : R I ρ x xv) (ho : looks r (idOf s ++ idOf x) = some obs) :
    ∃ u w', (Builtin.append_ #[sT, xT] ty #[sv, xv]).run P w = .ok u w' ∧ Done Γ I ρ r us nm out (.ok (.value u) w') := by
  obtain ⟨_, ⟨i, hi, hse, hbe, hz⟩, _, _⟩ := hT e _ hti
  simp only at hse hbe hz
  have hu := Tab.slice hT hs
  obtain ⟨o1, o2, rfl, hos, hox⟩ := looks_append ho
  unfold appendV at hp
  split at hp
  · -- own
    rename_i sz id n
    obtain ⟨ob, rfl, hlk⟩ := looks_one (show looks r [id] = _ from hos)
    split at hp
    · rename_i sz1 k g obs' heq
      simp only [List.singleton_append, List.cons.injEq] at heq
      obtain ⟨rfl, rfl⟩ := heq
      split at hp
      · rename_i sz' m h' c he
        cases e1 : Nat.beq sz se && (Nat.beq sz' se && (Nat.beq sz sz1 && Nat.blt 0 be)) with
        | false => rw [e1] at hp; cases hp
        | true =>
          rw [e1] at hp
          simp only [cond_true, Option.some.injEq] at hp
          subst hp
          obtain ⟨a1, a2⟩ := andb e1
          obtain ⟨a2, a3⟩ := andb a2
          obtain ⟨a3, a4⟩ := andb a3
          have b1 := beqn a1
          have b2 := beqn a2
          have b3 := beqn a3
          obtain rfl : sz = se := b1
          obtain rfl : sz' = sz := b2
          obtain rfl : sz' = sz1 := b3
          have hbpos : 0 < be := by simpa [Nat.blt_eq] using a4
          obtain ⟨c1, c2, c3, c4⟩ := hc
          obtain ⟨zv, hzv, hzR, hzz, _⟩ := hz c2
          obtain ⟨ds, hR⟩ := elems0_ok (P := P) h hxR hox (o2 := []) (by rw [List.append_nil]; exact he) c4
          have hdrop := h.drop id
          have conv : ∀ {c' : List Prop} {v : A} {y : Nat × Option Obj} {res : Result Next}, Done Γ I ρ ((id, none) :: r) us nm ⟨c', v, [y], true⟩ res → Done Γ I ρ r us nm ⟨c', v, [(id, none), y], true⟩ res := fun h => ⟨h.ex⟩
          cases hsR with
          | agg hx _ _ => cases hx
          | own h1 h2 h3 =>
            rename_i b N cp
            rw [Nat.zero_mul]
            by_cases hroom : n + m ≤ cp
            · exact append_room hu hi hse hk hR h hnm hlk h1 c3 hroom (by simpa using h3)
            · obtain ⟨vs, e', fz, hh, hN, hfz, hH, h1'⟩ := h.cells hlk h1 (by rintro z ks g ⟨⟩)
              have hE := hH.elems h1' c3
              have hle := Nat.mul_le_mul_right sz' c3
              have hm := hH.1
              simp only [Array.length_toList] at hm
              have hold : (Builtin.firstCells sz' n (.slice (some ⟨b, 0, none⟩) n cp)).run P w.drew = .ok (vs.toList.take (n * sz')).toArray w.drew := by
                unfold Builtin.firstCells
                rw [run_loadCells_blk (w := w.drew) hh (by omega)]
                simp
              obtain ⟨u, w', hrun, hD⟩ := append_grow (sT := sT) (xT := xT) (ty := ty) (nm := nm) (c' := ((n + m) * be ≤ 17592186044416) :: z.sureP :: (n ≤ k) :: c) hu hi hse hbe hzv (hzR I ρ) c2 hzz hk hold hE hR hbpos (by omega) c1 hdrop hnm
              exact ⟨u, w', hrun, conv hD⟩
          | own0 =>
            rename_i a
            by_cases hm : m = 0
            · subst hm
              exact ⟨_, _, append_nothing (g := g) hu hi hse hk hR, conv (Done.addW_nil hdrop hnm)⟩
            · obtain ⟨u, w', hrun, hD⟩ := append_grow (sT := sT) (xT := xT) (ty := ty) (nm := nm) (g := g) (c' := ((0 + m) * be ≤ 17592186044416) :: z.sureP :: (0 ≤ k) :: c) (cs := []) (a := a) (n := 0) (c := 0) hu hi hse hbe hzv (hzR I ρ) c2 hzz hk
                (by cases a <;> simp [Builtin.firstCells, loadCells, loadCellsFrom]) nothing_elems hR hbpos (by omega) c1 hdrop hnm
              exact ⟨u, w', hrun, conv hD⟩
      · cases hp
    · cases hp
  · -- nil
    rw [hsR.nils_inv]
    split at hp
    · rename_i sz' m h' c he
      cases e1 : Nat.beq sz' se && Nat.blt 0 be with
      | false => rw [e1] at hp; cases hp
      | true =>
        rw [e1] at hp
        simp only [cond_true, Option.some.injEq] at hp
        subst hp
        obtain ⟨a2, a4⟩ := andb e1
        have b2 := beqn a2
        subst b2
        have hbpos : 0 < be := by simpa [Nat.blt_eq] using a4
        obtain ⟨c1, c2, c4⟩ := hc
        obtain ⟨zv, hzv, hzR, hzz, _⟩ := hz c2
        have ho1 : o1 = [] := by simpa [idOf, looks] using hos.symm
        subst ho1
        obtain ⟨ds, hR⟩ := elems0_ok (P := P) h hxR hox (o2 := []) (by rw [List.append_nil]; exact he) c4
        have hS : Reads P I w (.slice none 0 0) sz' 0 (fun _ => .any) [] := ⟨nothing_elems, fun w' => rfl, fun m hm w' hw' => by simp [Builtin.firstCells]⟩
        have := append_full (sT := sT) (xT := xT) (ty := ty) (nm := nm) (c' := (m * be ≤ 17592186044416) :: z.sureP :: c) hu hi hse hbe hzv (hzR I ρ) c2 hzz hk hS hR hbpos
          (by by_cases hm : m = 0
              · exact .inr ⟨rfl, hm, rfl⟩
              · exact .inl (by omega)) (by simpa using c1) h hnm
        rw [Nat.zero_add] at this
        exact this
    · cases hp
  · -- a slice without spare places, of what never changes
    rename_i sz n g
    split at hp
    · rename_i sz' m h' c he
      cases e1 : Nat.beq sz se && (Nat.beq sz' se && Nat.blt 0 be) with
      | false => rw [e1] at hp; cases hp
      | true =>
        rw [e1] at hp
        simp only [cond_true, Option.some.injEq] at hp
        subst hp
        obtain ⟨a1, a2⟩ := andb e1
        obtain ⟨a2, a4⟩ := andb a2
        have b1 := beqn a1
        have b2 := beqn a2
        subst b1 b2
        have hbpos : 0 < be := by simpa [Nat.blt_eq] using a4
        obtain ⟨c1, c2, c3, c4⟩ := hc
        obtain ⟨zv, hzv, hzR, hzz, _⟩ := hz c2
        have ho1 : o1 = [] := by simpa [idOf, looks] using hos.symm
        subst ho1
        obtain ⟨ds, hR⟩ := elems0_ok (P := P) h hxR hox (o2 := []) (by rw [List.append_nil]; exact he) c4
        obtain ⟨_, a, hev⟩ := rol_ro hsR
        subst hev
        obtain ⟨cs, hS⟩ := elems0_ok (P := P) (se := sz') (o1 := []) (o2 := []) h hsR rfl (c := []) (n := n) (sz := sz') (g := g) rfl trivial
        exact append_full (nm := nm) hu hi hse hbe hzv (hzR I ρ) c2 hzz hk hS hR hbpos
          (by by_cases hm : m = 0
              · exact .inr ⟨by rcases c3 with c3 | c3 <;> omega, hm, by rcases c3 with c3 | c3 <;> omega⟩
              · exact .inl (by omega)) c1 h hnm
    · cases hp
  · -- one of an owned array
    rename_i sz id off n
    obtain ⟨ob, rfl, hlk⟩ := looks_one (show looks r [id] = _ from hos)
    split at hp
    · rename_i sz1 k g obs' heq
      simp only [List.singleton_append, List.cons.injEq] at heq
      obtain ⟨rfl, rfl⟩ := heq
      split at hp
      · rename_i sz' m h' c he
        cases e1 : Nat.beq sz se && (Nat.beq sz' se && (Nat.beq sz sz1 && Nat.blt 0 be)) with
        | false => rw [e1] at hp; cases hp
        | true =>
          rw [e1] at hp
          simp only [cond_true, Option.some.injEq] at hp
          subst hp
          obtain ⟨a1, a2⟩ := andb e1
          obtain ⟨a2, a3⟩ := andb a2
          obtain ⟨a3, a4⟩ := andb a3
          have b1 := beqn a1
          have b2 := beqn a2
          have b3 := beqn a3
          obtain rfl : sz = se := b1
          obtain rfl : sz' = sz := b2
          obtain rfl : sz' = sz1 := b3
          have hbpos : 0 < be := by simpa [Nat.blt_eq] using a4
          obtain ⟨c1, c2, c3, c5, c4⟩ := hc
          obtain ⟨zv, hzv, hzR, hzz, _⟩ := hz c2
          obtain ⟨ds, hR⟩ := elems0_ok (P := P) h hxR hox (o2 := []) (by rw [List.append_nil]; exact he) c4
          have hev : ∃ a, sv = .slice a n n := by
            cases hsR with
            | agg hx _ _ => cases hx
            | owl => exact ⟨_, rfl⟩
            | owl0 => exact ⟨_, rfl⟩
          obtain ⟨a, rfl⟩ := hev
          obtain ⟨cs, hS⟩ := elems0_ok (P := P) (se := sz') (o1 := [.arr sz' k g]) (o2 := []) h hsR hos (c := [off + n ≤ k]) (n := n) (sz := sz') (g := shiftF off g)
            (by simp only [elems0, isNils, elems, List.singleton_append, a3, cond_true]) ⟨c5, trivial⟩
          exact append_full (nm := nm) hu hi hse hbe hzv (hzR I ρ) c2 hzz hk hS hR hbpos
            (by by_cases hm : m = 0
                · exact .inr ⟨by rcases c3 with c3 | c3 <;> omega, hm, by rcases c3 with c3 | c3 <;> omega⟩
                · exact .inl (by omega)) c1 h hnm
      · cases hp
    · cases hp
  · cases hp
end
end VX

/- VX 15: copy, make, conversions, composite literals. -/
namespace VX
open Go

section
variable {P : Program} {T : Tab} (hT : TabOK P T.l)
variable {Γ : Ctx} {I : Imm} {ρ : Ren} {r : List (Nat × Option Obj)} {us : List Nat} {w : World} {nm : Nat}

/-- 'n' fresh elements, all z. -/
theorem elems_const {z : A} {zv : Value} (hz : ∀ I ρ, R I ρ z zv) (hs : z.sureP) (hp : z.pureP) {sz : Nat} (hzz : z.size = sz) (n : Nat) : Elems I sz n (fun _ => z) ((List.replicate n zv.cells.toList).flatten) := by
  have hR := hz I nr
  obtain ⟨hc, h1⟩ := hR.cells hs
  have hl := hc.length
  rw [A.length_cells z hR.wf, hzz] at hl
  refine ⟨by simp [← hl], fun i hi => ⟨hR.wf, hzz, hp⟩, fun i hi => ?_, fun v hv => ?_⟩
  · have : ((List.replicate n zv.cells.toList).flatten.drop (i * sz)).take sz = zv.cells.toList := by
      rw [show n = i + (1 + (n - i - 1)) by omega, ← List.replicate_append_replicate, ← List.replicate_append_replicate, List.flatten_append, List.flatten_append]
      have h2 : (List.replicate i zv.cells.toList).flatten.length = i * sz := by simp [← hl]
      rw [List.drop_append_of_le_length (by omega), List.drop_of_length_le (by omega), List.nil_append]
      simp only [List.replicate_one, List.flatten_cons, List.flatten_nil, List.append_nil]
      rw [hl]
      exact List.take_left
    rw [this]
    exact hc
  · obtain ⟨l, hl', hv⟩ := List.mem_flatten.1 hv
    rw [List.mem_replicate] at hl'
    obtain ⟨_, rfl⟩ := hl'
    exact h1 v hv

/-- The cells of noughts, as make lays them. -/
theorem noughts_eq {z : Array Value} (n : Nat) : ((Array.range (n * z.size)).map fun i => z[i % z.size]!).toList = (List.replicate n z.toList).flatten := by
  induction n with
  | zero => simp
  | succ n ih =>
    rw [List.replicate_succ', List.flatten_append, ← ih]
    simp only [Array.toList_map, Array.toList_range]
    rw [Nat.succ_mul, List.range_add, List.map_append, List.map_map]
    congr 1
    simp only [List.flatten_cons, List.flatten_nil, List.append_nil]
    apply List.ext_getElem?
    intro j
    by_cases hj : j < z.size
    · have hm : (n * z.size + j) % z.size = j := by rw [Nat.add_comm, Nat.add_mul_mod_self_right, Nat.mod_eq_of_lt hj]
      rw [List.getElem?_map, List.getElem?_range hj]
      simp only [Option.map_some, Function.comp, hm]
      rw [getElem!_pos z j hj]
      simp [hj]
    · rw [List.getElem?_eq_none (by simp; omega), List.getElem?_eq_none (by simp; omega)]

include hT in
theorem makeSlice_ok {t : Nat} {vs : List A} {xs : List Value} {out : Out} (hp : pMakeSlice T t nm vs = some out) (h : RW Γ I ρ r us w) (hv : RL I ρ vs xs) (hnm : usedN us nm = false) (hc : allP out.c) :
    ∃ x y, xs = [x, y] ∧ ∃ v w', (Instr.makeSlice t x y).run P w = .ok v w' ∧ Done Γ I ρ r us nm out (.ok (.value v) w') := by
  unfold pMakeSlice at hp
  split at hp
  · rename_i k1 l k2 c
    obtain ⟨v, u, rfl, hx, hy⟩ := hv.two_inv
    cases hx.int_inv
    cases hy.int_inv
    refine ⟨_, _, rfl, ?_⟩
    split at hp
    · rename_i e hd
      have hu := Tab.slice hT hd
      split at hp
      · rename_i d se be z q hti
        obtain ⟨_, ⟨i, hi, hse, hbe, hz⟩, _, _⟩ := hT e _ hti
        simp only at hse hbe hz
        simp only [Option.some.injEq] at hp
        subst hp
        obtain ⟨c1, c2, c3, c4, c5, _⟩ := hc
        obtain ⟨zv, hzv, hzR, hzz, hzp⟩ := hz c5
        obtain ⟨hzc, hz1⟩ := (hzR I nr).cells c5
        have hzl := hzc.length
        rw [A.length_cells z (hzR I nr).wf, hzz] at hzl
        have hzs : zv.cells.size = se := by rw [hzl]; simp
        have w1 : IntKind.i64.wrap l = l := wrap_inr ⟨by simp [IntKind.min, IntKind.signed, IntKind.bits]; omega, by simp [IntKind.max, IntKind.signed, IntKind.bits]; omega⟩
        have w2 : IntKind.i64.wrap c = c := wrap_inr ⟨by simp [IntKind.min, IntKind.signed, IntKind.bits]; omega, by simp [IntKind.max, IntKind.signed, IntKind.bits]; omega⟩
        have hcells : (if c.toNat * i.size = 0 then (#[] : Array Value) else zv.cells) = zv.cells ∨ c.toNat * i.size = 0 := by
          by_cases h0 : c.toNat * i.size = 0
          · exact .inr h0
          · exact .inl (by rw [if_neg h0])
        have hrow : ((Array.range (c.toNat * se)).map fun i => (if c.toNat * se = 0 then (#[] : Array Value) else zv.cells)[i % (if c.toNat * se = 0 then (#[] : Array Value) else zv.cells).size]!).toList = (List.replicate c.toNat zv.cells.toList).flatten := by
          by_cases h0 : c.toNat * se = 0
          · rw [h0]
            have : (List.replicate c.toNat zv.cells.toList).flatten.length = 0 := by simp [hzs, h0]
            rw [List.eq_nil_of_length_eq_zero this]
            simp
          · rw [if_neg h0, ← noughts_eq, hzs]
        have hE := elems_const hzR c5 hzp hzz c.toNat (I := I)
        have hlen : (List.replicate c.toNat zv.cells.toList).flatten.length = c.toNat * se := hE.len
        have hrun : (Instr.makeSlice t (.int k1 l) (.int k2 c)).run P w = .ok (.slice (some ⟨w.heap.size, 0, none⟩) l.toNat c.toNat)
            (w.alloc (.cells ((Array.range (c.toNat * se)).map fun i => (if c.toNat * se = 0 then (#[] : Array Value) else zv.cells)[i % (if c.toNat * se = 0 then (#[] : Array Value) else zv.cells).size]!) e)) := by
          unfold Instr.makeSlice
          simp only [Sem.run_bind, underlying, run_program, Result.andThen_ok, hu, Sem.run_pure, asInt, asIntOf, typeInfo, hi, w1, w2, hbe]
          have t1 : ¬ ((decide (c < 0) || decide ((be : Int) * c > 2 ^ 48)) = true ∨ l < 0 ∨ l > c) := by
            simp only [Bool.or_eq_true, decide_eq_true_eq]
            rw [Int.mul_comm]
            omega
          have t2 : (decide (c < 0) || decide ((be : Int) * c > 2 ^ 48) || decide (l < 0) || decide (l > c)) = false := by
            simp only [Bool.or_eq_false_iff, decide_eq_false_iff_not]
            rw [Int.mul_comm]
            omega
          simp only [t2]
          by_cases h0 : c.toNat * se = 0
          · simp [h0, Go.sizeOf, typeInfo, hi, hse, newRow, run_askRoom]
          · simp [h0, Go.sizeOf, typeInfo, hi, hse, newRow, run_askRoom, zeroValue, hzv]
        refine ⟨_, _, hrun, _, _, _, ρ.set nm (.blk w.heap.size (c.toNat * se)), rfl, rfl, Ren.le_set (h.names nm hnm), h.alloc hnm ⟨by simp, Thawed.none _, ?_, fun v hv => ?_⟩, ?_⟩
        · rw [hrow]
          have := hE.holds (I := I) (ρ := ρ) []
          rw [List.append_nil] at this
          obtain ⟨k1, k2, k3⟩ := this
          have hle : l.toNat ≤ c.toNat := by omega
          have := Nat.mul_le_mul_right se hle
          exact ⟨by omega, fun i hi => k2 i (by omega), fun i hi => k3 i (by omega)⟩
        · rw [hrow] at hv
          exact hE.one v hv
        · have := R.own (I := I) (ρ := ρ.set nm (.blk w.heap.size (c.toNat * se))) (sz := se) (id := nm) (off := 0) (n := l.toNat) (b := w.heap.size) (N := c.toNat * se) (c := c.toNat) (by simp [Ren.set]) (by omega) (by simp)
          simpa using this
      · cases hp
    · cases hp
  · cases hp
end
end VX

/- VX 16: composite literals. -/
namespace VX
open Go

theorem foldl_set (off : Nat) : ∀ (l : List Value) (k : Nat) (cs : Array Value), off + k + l.length ≤ cs.size →
    ((l.zipIdx k).foldl (fun (cs : Array Value) (p : Value × Nat) => cs.setIfInBounds (off + p.2) p.1) cs).toList = spliceL cs.toList (off + k) l
  | [], k, cs, _ => by simp [spliceL]
  | v :: l, k, cs, h => by
    simp only [List.length_cons] at h
    rw [List.zipIdx_cons, List.foldl_cons, foldl_set off l (k + 1) _ (by simp; omega)]
    have hlt : off + k < cs.toList.length := by simp; omega
    simp only [spliceL, Array.toList_setIfInBounds, List.length_cons]
    rw [show off + (k + 1) = off + k + 1 by omega, List.take_add_one, List.take_set_of_le (Nat.le_refl _), List.getElem?_set_self hlt, List.drop_set_of_lt (by omega)]
    simp only [Option.toList_some, List.append_assoc, List.cons_append, List.nil_append]
    rw [show off + k + 1 + l.length = off + k + (l.length + 1) by omega]

theorem fill_cons {place : Nat → Option (Nat × Nat)} {cs : Array Value} {i off size : Nat} {v : Value} {rest : List (Nat × Value)} (hp : place i = some (off, size)) (hs : v.cells.size = size) (hf : off + size ≤ cs.size) :
    Instr.fill place cs ((i, v) :: rest) = Instr.fill place (spliceL cs.toList off v.cells.toList).toArray rest := by
  rw [Instr.fill, hp]
  simp only
  have : ((decide (v.cells.size ≠ size)) || decide (off + v.cells.size > cs.size)) = false := by
    simp only [Bool.or_eq_false_iff, decide_eq_false_iff_not]
    exact ⟨by simp [hs], by omega⟩
  simp only [this, Bool.false_eq_true, if_false]
  have h := foldl_set off v.cells.toList 0 cs (by simp; omega)
  have hz : v.cells.zipIdx.foldl (fun cs (p : Value × Nat) => cs.setIfInBounds (off + p.2) p.1) cs = (spliceL cs.toList off v.cells.toList).toArray := by
    rw [← Array.foldl_toList, Array.toList_zipIdx]
    apply Array.ext'
    rw [h]
    simp
  rw [hz]

theorem setNth_eq : ∀ (l : List A) (i : Nat) (x y : A), nth l i = some x → l = l.take i ++ x :: l.drop (i + 1) ∧ setNth l i y = l.take i ++ y :: l.drop (i + 1)
  | [], i, x, y, h => by simp [nth] at h
  | a :: l, 0, x, y, h => by
    simp [nth] at h
    subst h
    simp [setNth]
  | a :: l, i + 1, x, y, h => by
    have e : Nat.beq (i + 1) 0 = false := rfl
    simp only [nth, e, cond_false, Nat.add_sub_cancel] at h
    obtain ⟨h1, h2⟩ := setNth_eq l i x y h
    refine ⟨by simpa using h1, ?_⟩
    simp only [setNth, e, cond_false, Nat.add_sub_cancel, h2]
    simp

/-- Values for parts. -/
inductive Parts (I : Imm) (ρ : Ren) : List (Nat × A) → List (Nat × Value) → Prop
  | nil : Parts I ρ [] []
  | cons {i : Nat} {y : A} {v : Value} {ps : List (Nat × A)} {vs : List (Nat × Value)} : R I ρ y v → y.sureP → Parts I ρ ps vs → Parts I ρ ((i, y) :: ps) ((i, v) :: vs)

/-- The places that fit a list of data. -/
def Fits (place : Nat → Option (Nat × Nat)) (zs : List A) : Prop := ∀ i x, nth zs i = some x → place i = some (A.sizeL (zs.take i), x.size)

theorem nth_append_ne {l m : List A} {x y : A} (hxy : x.size = y.size) (i : Nat) (z : A) (h : nth (l ++ y :: m) i = some z) : ∃ z', nth (l ++ x :: m) i = some z' ∧ z'.size = z.size ∧ A.sizeL ((l ++ x :: m).take i) = A.sizeL ((l ++ y :: m).take i) := by
  rw [nth_getElem?] at h
  rw [nth_getElem?]
  rcases Nat.lt_trichotomy i l.length with hi | hi | hi
  · rw [List.getElem?_append_left hi] at h ⊢
    exact ⟨z, h, rfl, by rw [List.take_append_of_le_length (by omega), List.take_append_of_le_length (by omega)]⟩
  · subst hi
    rw [List.getElem?_append_right (Nat.le_refl _)] at h ⊢
    simp at h ⊢
    subst h
    exact hxy
  · rw [List.getElem?_append_right (by omega)] at h ⊢
    obtain ⟨k, hk⟩ : ∃ k, i - l.length = k + 1 := ⟨i - l.length - 1, by omega⟩
    rw [hk] at h ⊢
    simp only [List.getElem?_cons_succ] at h ⊢
    refine ⟨z, h, rfl, ?_⟩
    have : i = l.length + (k + 1) := by omega
    rw [this, List.take_length_add_append, List.take_length_add_append]
    simp [sizeL_append, A.sizeL, hxy]

theorem fill_ok {I : Imm} {ρ : Ren} {place : Nat → Option (Nat × Nat)} : ∀ (ps : List (Nat × A)) (vs : List (Nat × Value)) (zs : List A) (cs : Array Value), Fits place zs → A.wfL zs → RL I ρ (A.cellsL zs) cs.toList →
    Parts I ρ ps vs → sizesOk zs ps = true → ∃ cs', Instr.fill place cs vs = some cs' ∧ RL I ρ (A.cellsL (fillL zs ps)) cs'.toList ∧ A.wfL (fillL zs ps) ∧ A.sizeL (fillL zs ps) = A.sizeL zs ∧ (fillL zs ps).length = zs.length ∧
      (A.surePL zs → A.surePL (fillL zs ps)) ∧ (A.purePL zs → (∀ p ∈ ps, (p.2).pureP) → A.purePL (fillL zs ps)) ∧ (∀ sz, (∀ x ∈ zs, x.size = sz) → ∀ x ∈ fillL zs ps, x.size = sz)
  | [], _, zs, cs, hf, hw, hr, .nil, _ => ⟨cs, rfl, hr, hw, rfl, rfl, fun h => h, fun h _ => h, fun _ h => h⟩
  | (i, y) :: ps, _, zs, cs, hf, hw, hr, .cons (v := v) (vs := vs) hy hs hp, ho => by
    simp only [sizesOk] at ho
    obtain ⟨h1, h2⟩ := andb ho
    cases hn : nth zs i with
    | none => rw [hn] at h1; cases h1
    | some x =>
      rw [hn] at h1
      have hsz := beqn h1
      obtain ⟨e1, e2⟩ := setNth_eq zs i x y hn
      obtain ⟨hc, hone⟩ := hy.cells hs
      have hcl := hc.length
      rw [A.length_cells y hy.wf] at hcl
      have hw' := hw
      rw [e1, wfL_append] at hw'
      have hrl := hr.length
      rw [A.length_cellsL zs hw] at hrl
      have hsum : A.sizeL zs = A.sizeL (zs.take i) + (x.size + A.sizeL (zs.drop (i + 1))) := by
        conv => lhs; rw [e1]
        rw [sizeL_append, A.sizeL]
      have hfill := fill_cons (rest := vs) (hf i x hn) (cs := cs) (v := v) (by rw [hsz, hcl]; simp) (by simp at hrl; omega)
      have hr' := hr
      rw [e1, cellsL_append, A.cellsL, ← List.append_assoc] at hr'
      have h3 := RL.splice hr' hc (by rw [A.length_cells x hw'.2.1, A.length_cells y hy.wf, hsz])
      rw [A.length_cellsL _ hw'.1] at h3
      have hnew : RL I ρ (A.cellsL (setNth zs i y)) (spliceL cs.toList (A.sizeL (zs.take i)) v.cells.toList) := by
        rw [e2, cellsL_append, A.cellsL, ← List.append_assoc]; exact h3
      have hfits : Fits place (setNth zs i y) := fun j z hz => by
        rw [e2] at hz
        obtain ⟨z', hz', hs', ht⟩ := nth_append_ne hsz j z hz
        rw [← e1] at hz'
        rw [e2, ← hs']
        rw [← ht, ← e1]
        exact hf j z' hz'
      have hwf : A.wfL (setNth zs i y) := by
        rw [e2, wfL_append]
        exact ⟨hw'.1, hy.wf, hw'.2.2⟩
      have hso : sizesOk (setNth zs i y) ps = true := by
        clear hp hfill
        have : ∀ (qs : List (Nat × A)), sizesOk zs qs = true → sizesOk (setNth zs i y) qs = true := fun qs => by
          induction qs with
          | nil => intro _; rfl
          | cons q qs ih =>
            intro hq
            obtain ⟨j, z⟩ := q
            simp only [sizesOk] at hq ⊢
            obtain ⟨q1, q2⟩ := andb hq
            rw [ih q2, Bool.and_true]
            cases hj : nth zs j with
            | none => rw [hj] at q1; cases q1
            | some a =>
              rw [hj] at q1
              rw [e1] at hj
              obtain ⟨a', ha', hs', _⟩ := nth_append_ne (x := y) (y := x) hsz.symm j a hj
              rw [e2, ha']
              simp only
              rw [hs']
              exact q1
        exact this ps h2
      obtain ⟨cs', k1, k2, k3, k4, k5, k6, k7, k8⟩ := fill_ok ps vs (setNth zs i y) (spliceL cs.toList (A.sizeL (zs.take i)) v.cells.toList).toArray hfits hwf (by simpa using hnew) hp hso
      refine ⟨cs', by rw [hfill]; exact k1, k2, k3, ?_, ?_, fun hsu => ?_, fun hpu hpp => ?_, fun sz hz => ?_⟩
      · show A.sizeL (fillL (setNth zs i y) ps) = _
        rw [k4, e2, sizeL_append, A.sizeL, hsum, hsz]
      · show (fillL (setNth zs i y) ps).length = _
        rw [k5, e2]
        conv => rhs; rw [e1]
        simp
      · refine k6 ?_
        rw [e2, surePL_append]
        rw [e1, surePL_append] at hsu
        exact ⟨hsu.1, hs, hsu.2.2⟩
      · refine k7 ?_ (fun p hp => hpp p (List.mem_cons_of_mem _ hp))
        rw [e2, purePL_append]
        rw [e1, purePL_append] at hpu
        exact ⟨hpu.1, hpp (i, y) List.mem_cons_self, hpu.2.2⟩
      · refine k8 sz (fun x' hx' => ?_)
        rw [e2, List.mem_append, List.mem_cons] at hx'
        rcases hx' with hx' | rfl | hx'
        · exact hz x' (List.mem_of_mem_take hx')
        · rw [← hsz]
          refine hz x ?_
          rw [e1]
          simp
        · exact hz x' (List.mem_of_mem_drop hx')
end VX

