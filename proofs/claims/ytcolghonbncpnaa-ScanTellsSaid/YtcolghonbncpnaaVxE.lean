/- A symbolic executor for the model's code, and its soundness (part 5 of 9): a general tool, no statement about this program. -/
import Derived.Test.YtcolghonbncpnaaVxD
set_option linter.unusedSimpArgs false
set_option linter.unusedVariables false
/- VX 22: a walk through the code of one function. -/
namespace VX
open Go

/-- The slots of the frame. -/
structure Slots (I : Imm) (ρ : Ren) (n : Nat) (τ : List (Nat × A)) (a : Act) : Prop where
  size : a.tmps.size = n
  defers : a.defers = []
  at_ : ∀ t x, look τ t = some x → t < n ∧ R I ρ x (a.tmps.getD t undef)

theorem Slots.mono {I I' : Imm} {ρ ρ' : Ren} {n : Nat} {τ : List (Nat × A)} {a : Act} (hI : I.le I') (hρ : ρ.le ρ') (h : Slots I ρ n τ a) : Slots I' ρ' n τ a :=
  ⟨h.size, h.defers, fun t x hx => ⟨(h.at_ t x hx).1, (h.at_ t x hx).2.mono hI hρ⟩⟩

theorem Slots.put {I : Imm} {ρ : Ren} {n : Nat} {τ : List (Nat × A)} {a : Act} (h : Slots I ρ n τ a) {d : Nat} (hd : d < n) {x : A} {v : Value} (hx : R I ρ x v) : Slots I ρ n ((d, x) :: τ) (a.put (some d) v) := by
  refine ⟨by simpa [Act.put] using h.size, h.defers, fun t y hy => ?_⟩
  rw [look_cons] at hy
  by_cases e : d = t
  · subst e
    simp only [if_true, Option.some.injEq] at hy
    subst hy
    refine ⟨hd, ?_⟩
    simp [Act.put, h.size, hd]
    exact hx
  · rw [if_neg e] at hy
    refine ⟨(h.at_ t y hy).1, ?_⟩
    have : (a.put (some d) v).tmps.getD t undef = a.tmps.getD t undef := by
      simp [Act.put, Array.getElem?_setIfInBounds, e]
    rw [this]
    exact (h.at_ t y hy).2

/-- What is put where no slot is told. -/
theorem Slots.skip {I : Imm} {ρ : Ren} {n : Nat} {τ : List (Nat × A)} {a : Act} (h : Slots I ρ n τ a) {v : Value} : Slots I ρ n τ (a.put none v) := h

theorem Slots.lost {I : Imm} {ρ : Ren} {n : Nat} {τ : List (Nat × A)} {a : Act} (h : Slots I ρ n τ a) {d : Nat} (hd : d < n) : Slots I ρ n ((d, .tup []) :: τ) (a.put (some d) undef) :=
  h.put hd (.tup .nil)

theorem aConst_ok {I : Imm} {ρ : Ren} {v : Value} {x : A} (h : aConst v = some x) : R I ρ x v := by
  unfold aConst at h
  split at h <;> (try (cases h; done)) <;> (try (simp only [Option.some.injEq] at h; subst h))
  · exact .int
  · exact .bool
  · rename_i s
    have : s = ⟨s.data.toList.toArray⟩ := by simp
    rw [this]
    exact .str
  · exact .nils
  · exact .nilp
  · exact .nilm
  · exact .nilf
  · exact .nili
  · rename_i fn f c
    cases e : f.toList.isEmpty && c.toList.isEmpty with
    | false => rw [e] at h; cases h
    | true =>
      rw [e] at h
      simp only [cond_true, Option.some.injEq] at h
      subst h
      simp only [Bool.and_eq_true, List.isEmpty_iff, Array.toList_eq_nil_iff] at e
      rw [e.1, e.2]
      exact .func .nil .nil

theorem ev_ok {I : Imm} {ρ : Ren} {n : Nat} {τ : List (Nat × A)} {a : Act} (h : Slots I ρ n τ a) {x : Operand} {y : A} (he : ev τ x = some y) : R I ρ y (a.eval x) := by
  unfold ev at he
  split at he
  · exact (h.at_ _ _ he).2
  · exact aConst_ok he
  · simp only [Option.some.injEq] at he
    subst he
    exact .func .nil .nil
  · cases he

theorem evs_ok {I : Imm} {ρ : Ren} {n : Nat} {τ : List (Nat × A)} {a : Act} (h : Slots I ρ n τ a) : ∀ {xs : List Operand} {ys : List A}, evs τ xs = some ys → RL I ρ ys (xs.map a.eval)
  | [], ys, he => by simp only [evs, Option.some.injEq] at he; subst he; exact .nil
  | x :: xs, ys, he => by
    unfold evs at he
    split at he
    · cases he
    · rename_i y hy
      split at he
      · cases he
      · rename_i l hl
        simp only [Option.some.injEq] at he
        subst he
        exact .cons (ev_ok h hy) (evs_ok h hl)

/-- From here the function comes to its end, in Q. -/
def WK (P : Program) (Q : Act → World → Prop) (k : List Item) (a : Act) (w : World) : Prop :=
  ∀ (b : Frame) (cs : List Frame), ∃ a' w' todo, Q a' w' ∧ Steps P (lone (b.at a k) cs w) (lone { b.at a' todo with mode := .returning } cs w')

theorem WK.step {P : Program} {Q : Act → World → Prop} {k k' : List Item} {a a' : Act} {w w' : World} (h : ∀ (b : Frame) (cs : List Frame), step P (lone (b.at a k) cs w) = .next (lone (b.at a' k') cs w')) (hk : WK P Q k' a' w') : WK P Q k a w :=
  fun b cs => let ⟨a2, w2, todo, hq, hs⟩ := hk b cs; ⟨a2, w2, todo, hq, .head (h b cs) hs⟩

/-- What is said to be known of the guards is so. -/
def GOK (g : List (Nat × Nat × Bool)) (k : List Item) (τ : List (Nat × A)) : Prop :=
  ∀ j t b, (j, t, b) ∈ g → match k with
    | .inRegion ops _ :: _ => ∃ o, ops.toList[j]? = some o ∧ o.dst = some t ∧ look τ t = some (.bool b)
    | _ => False
theorem GOK.nil {k : List Item} {τ : List (Nat × A)} : GOK [] k τ := fun j t b h => by cases h

/-- From every world and frame that fit the state, the function comes to its end, in Q. -/
structure W (Γ : Ctx) (P : Program) (Q : Act → World → Prop) (g : List (Nat × Nat × Bool)) (k : List Item) (τ : List (Nat × A)) (r : List (Nat × Option Obj)) (us : List Nat) : Prop where
  ok : ∀ a w I ρ, RW Γ I ρ r us w → Slots I ρ Γ.n τ a → GOK g k τ → WK P Q k a w

def Fin (Γ : Ctx) (P : Program) (Q : Act → World → Prop) : Res → Prop
  | ⟨c, g, k, τ, r, us⟩ => allP c ∧ W Γ P Q g k τ r us

theorem gAt_mem {g : List (Nat × Nat × Bool)} {j : Nat} {b : Bool} (h : gAt g j = some b) : ∃ t, (j, t, b) ∈ g := by
  induction g with
  | nil => simp [gAt] at h
  | cons x g ih =>
    obtain ⟨i, t, b'⟩ := x
    unfold gAt at h
    cases e : Nat.beq i j with
    | true =>
      rw [e] at h
      simp only [cond_true, Option.some.injEq] at h
      have := Nat.eq_of_beq_eq_true e
      subst this h
      exact ⟨t, List.mem_cons_self⟩
    | false =>
      rw [e] at h
      obtain ⟨t', ht⟩ := ih h
      exact ⟨t', List.mem_cons_of_mem _ ht⟩
theorem offG_mem {d : Nat} : ∀ {g : List (Nat × Nat × Bool)}, offG d g = true → ∀ {j t : Nat} {b : Bool}, (j, t, b) ∈ g → t ≠ d
  | [], _, _, _, _, h => by cases h
  | (i, t', b') :: g, ho, j, t, b, h => by
    unfold offG at ho
    cases e : Nat.beq t' d with
    | true => rw [e] at ho; cases ho
    | false =>
      rw [e] at ho
      rcases List.mem_cons.1 h with h | h
      · cases h
        rintro rfl
        rw [Nat.beq_refl] at e; cases e
      · exact offG_mem ho h

/-- The operation of a guard gave what is known of it. -/
theorem yielded_ok {I : Imm} {ρ : Ren} {n : Nat} {τ : List (Nat × A)} {a : Act} (h : Slots I ρ n τ a) {ops : Array Oper} {j : Nat} {o : Oper} (ho : ops.toList[j]? = some o) {t : Nat} (ht : o.dst = some t) {b : Bool}
    (hl : look τ t = some (.bool b)) : yielded ops a.tmps j = some b := by
  have ho : ops[j]? = some o := by simpa using ho
  obtain ⟨hlt, hr⟩ := h.at_ t _ hl
  have hv := hr.bool_inv
  have : a.tmps[t]? = some (.bool b) := by
    have hsz : t < a.tmps.size := by rw [h.size]; exact hlt
    rw [Array.getD_eq_getD_getElem?, Array.getElem?_eq_getElem hsz, Option.getD_some] at hv
    rw [Array.getElem?_eq_getElem hsz, hv]
  simp [yielded, ho, ht, this]

theorem guardOf_ok {I : Imm} {ρ : Ren} {n : Nat} {τ : List (Nat × A)} {a : Act} (hS : Slots I ρ n τ a) {g : List (Nat × Nat × Bool)} {ops : Array Oper} {l : List Nat} {k : List Item} (hG : GOK g (.inRegion ops l :: k) τ) {o : Oper} {b : Bool}
    (h : guardOf o g = some b) : Region.wanted o (yielded ops a.tmps) = b := by
  unfold guardOf at h
  cases hgd : o.guard with
  | none =>
    rw [hgd] at h
    simp only [Option.some.injEq] at h
    simp [Region.wanted, hgd, ← h]
  | some q =>
    obtain ⟨j, want⟩ := q
    rw [hgd] at h
    simp only at h
    split at h
    · cases h
    · rename_i b' hb
      simp only [Option.some.injEq] at h
      obtain ⟨t, ht⟩ := gAt_mem hb
      obtain ⟨o', h1, h2, h3⟩ := hG j t b' ht
      have hy := yielded_ok hS h1 h2 h3
      simp only [Region.wanted, hgd, hy, ← h]
      cases b' <;> cases want <;> rfl

theorem GOK.next {g : List (Nat × Nat × Bool)} {ops : Array Oper} {l l' : List Nat} {k : List Item} {τ : List (Nat × A)} (h : GOK g (.inRegion ops l :: k) τ) : GOK g (.inRegion ops l' :: k) τ := h
theorem GOK.put {g : List (Nat × Nat × Bool)} {ops : Array Oper} {l l' : List Nat} {k : List Item} {τ : List (Nat × A)} (h : GOK g (.inRegion ops l :: k) τ) {d : Nat} (hd : offG d g = true) {x : A} : GOK g (.inRegion ops l' :: k) ((d, x) :: τ) :=
  fun j t b hm => by
    obtain ⟨o, h1, h2, h3⟩ := h j t b hm
    refine ⟨o, h1, h2, ?_⟩
    rw [look_cons, if_neg (offG_mem hd hm).symm]
    exact h3

theorem blt_lt {a b : Nat} (h : Nat.blt a b = true) : a < b := by
  have : a + 1 ≤ b := by simpa [Nat.blt] using h
  omega
theorem dstOk_some {nt : Nat} {g : List (Nat × Nat × Bool)} {d : Nat} (h : dstOk nt g (some d) = true) : d < nt ∧ offG d g = true := by
  simp only [dstOk] at h
  cases e : Nat.blt d nt with
  | false => rw [e] at h; cases h
  | true => rw [e] at h; exact ⟨blt_lt e, h⟩

theorem step_scope {P : Program} {b : Frame} {a : Act} {k : List Item} {cs : List Frame} {w : World} {c : Code} :
    step P (lone (b.at a (.code (.scope c) :: k)) cs w) = .next (lone (b.at a (.code c :: .inScope c :: k)) cs w) :=
  step_lone_go (by simp [stepG, stepG.exec, Frame.at])
theorem step_inScope {P : Program} {b : Frame} {a : Act} {k : List Item} {cs : List Frame} {w : World} {c : Code} :
    step P (lone (b.at a (.inScope c :: k)) cs w) = .next (lone (b.at a k) cs w) :=
  step_lone_go (by simp [stepG, stepG.exec, Frame.at])

theorem step_op {P : Program} {b : Frame} {a : Act} {k : List Item} {cs : List Frame} {w w' : World} {ops : Array Oper} {i : Nat} {l : List Nat} {o : Oper} (ho : ops[i]? = some o)
    (hw : Region.wanted o (yielded ops a.tmps) = true) {nx : Next} {v : Value} (hx : (execOp a.eval o).run P w = .ok nx w') (hv : nxV nx = some v) :
    step P (lone (b.at a (.inRegion ops (i :: l) :: k)) cs w) = .next (lone (b.at (a.put o.dst v) (.inRegion ops l :: k)) cs w') := by
  have hg := stepG_op (P := P) (b := b) (k := k) (cs := cs) (w := w) (rest := l) ho hw
  have hfin : ∀ v, (b.at a (.inRegion ops (i :: l) :: k)).finish v = b.at (a.put o.dst v) (.inRegion ops l :: k) := by
    intro v; rw [Frame.finish_at, ho]; rfl
  refine step_lone_go ?_
  rw [hg, ← hfin]
  cases nx with
  | value u => simp only [nxV, Option.some.injEq] at hv; subst hv; simp [stepG.apply, hx]
  | skip => simp only [nxV, Option.some.injEq] at hv; subst hv; simp [stepG.apply, hx]
  | _ => simp [nxV] at hv

section
variable {P : Program} {T : Tab} (hT : TabOK P T.l) {Γ : Ctx} {Q : Act → World → Prop}

theorem RA.of {I : Imm} {ρ : Ren} {b : Nat} : ∀ {xs : List A} {us : List Value} {o : Nat}, RL I ρ xs us → (∀ j u, us[j]? = some u → I b (o + j) = some u ∧ u.oneCell' = true) → RA I ρ xs b o
  | _, _, _, .nil, _ => .nil
  | _, _, o, .cons a t, h => .cons (by simpa using (h 0 _ rfl).1) (h 0 _ rfl).2 a (RA.of t fun j u hu => by
      have := h (j + 1) u (by simpa using hu)
      rwa [show o + (j + 1) = o + 1 + j by omega] at this)

/-- A new slice that does not change any more. -/
theorem RW.frz {Γ : Ctx} {I : Imm} {ρ : Ren} {r : List (Nat × Option Obj)} {us : List Nat} {w : World} {nm sz n m : Nat} {g : Nat → A} {v : Value} (h : RW Γ I ρ ((nm, some (.arr sz m g)) :: r) us w) (hv : R I ρ (.own sz nm 0 n) v) (hn : n ≤ m) :
    ∃ I', I.le I' ∧ RW Γ I' ρ ((nm, none) :: r) us w ∧ R I' ρ (.ro sz n g) v := by
  have old : ∀ {n' : Nat} {ob : Obj}, look ((nm, none) :: r) n' = some (some ob) → nm ≠ n' ∧ look ((nm, some (.arr sz m g)) :: r) n' = some (some ob) := fun {n' ob} hl => by
    rw [look_cons] at hl
    by_cases e : nm = n'
    · rw [if_pos e] at hl; cases hl
    · rw [if_neg e] at hl
      exact ⟨e, by rw [look_cons, if_neg e]; exact hl⟩
  cases hv with
  | agg hv _ _ => cases hv
  | own0 =>
    refine ⟨I, Imm.le.refl I, ⟨h.imm, fun n' ob hl => h.own n' ob (old hl).2, fun m1 m2 o1 o2 b N N' h1 h2 => h.inj m1 m2 o1 o2 b N N' (old h1).2 (old h2).2, h.names, h.frame, h.keep⟩, .ro0⟩
  | own hb hc hN =>
    rename_i b N c
    have hself : look ((nm, some (.arr sz m g)) :: r) nm = some (some (.arr sz m g)) := by rw [look_cons, if_pos rfl]
    have hO := h.lt_of_own hself hb
    obtain ⟨o, hbo, hh⟩ := hO.blk
    cases o with
    | cells vs e fz =>
      let I' : Imm := fun b' o => if b' = b then w.cell? ⟨b, o, none⟩ else I b' o
      have hle : I.le I' := fun b' o v hv => by
        show (if b' = b then _ else _) = _
        by_cases e : b' = b
        · subst e; rw [hO.noI] at hv; cases hv
        · rw [if_neg e]; exact hv
      refine ⟨I', hle, ⟨fun b' o v hv => ?_, fun n' ob hl => ?_, fun m1 m2 o1 o2 b N N' h1 h2 => h.inj m1 m2 o1 o2 b N N' (old h1).2 (old h2).2, h.names, ?_, h.keep⟩, ?_⟩
      · have hv : (if b' = b then w.cell? ⟨b, o, none⟩ else I b' o) = some v := hv
        by_cases e : b' = b
        · subst e; rw [if_pos rfl] at hv; exact hv
        · rw [if_neg e] at hv; exact h.imm _ _ _ hv
      · obtain ⟨hne, hl'⟩ := old hl
        obtain ⟨l, hρ, ho⟩ := h.own n' ob hl'
        refine ⟨l, hρ, ?_⟩
        cases l with
        | nil => exact ho.nil_iff
        | blk b2 N2 =>
          have hb2 : b2 ≠ b := by
            rintro rfl
            exact hne (h.inj nm n' _ _ b2 N N2 hself hl' hb hρ)
          obtain ⟨o2, k1, k2⟩ := ho.blk
          refine ⟨fun o => ?_, ho.mine, o2, k1, k2.mono hle (Ren.le.refl _)⟩
          show (if b2 = b then _ else _) = _
          rw [if_neg hb2]; exact ho.noI o
      · have hF := h.frame
        refine ⟨hF.size, hF.blocks, fun b' hb' hf o => ?_, hF.le.trans hle, hF.os, hF.tape, hF.output⟩
        show (if b' = b then _ else _) = _
        rw [if_neg, hF.imm b' hb' hf o]
        rintro rfl
        rcases hO.mine with h1 | h1
        · exact hf h1
        · omega
      · obtain ⟨hNs, hfz, hH, h1⟩ := hh
        refine .ro hc (fun i hi => hH.2.1 i (by omega)) fun i hi => ?_
        have hr := (hH.2.2 i (by omega)).mono hle (Ren.le.refl nr)
        rw [Nat.zero_mul, Nat.zero_add]
        refine RA.of hr fun j u hu => ?_
        rw [slice_get] at hu
        split at hu
        · refine ⟨?_, h1 u (List.mem_of_getElem? hu)⟩
          show (if b = b then _ else _) = _
          rw [if_pos rfl]
          simp only [World.cell?, hbo]
          simpa using hu
        · cases hu
    | map es c => exact absurd hh.2 (by simp)
    | _ => simp [BlkHolds] at hh
theorem frz_ok {Γ : Ctx} {I : Imm} {ρ : Ren} {r : List (Nat × Option Obj)} {us : List Nat} {w : World} {nm : Nat} {out : Out} {v : Value} (b : Bool) (hc : allP (frzO b out).c) (h : RW Γ I ρ (addW r out.w) (addU us nm out.al) w) (hv : R I ρ out.v v) :
    ∃ I', I.le I' ∧ RW Γ I' ρ (addW r (frzO b out).w) (addU us nm (frzO b out).al) w ∧ R I' ρ (frzO b out).v v := by
  cases b with
  | false => exact ⟨I, Imm.le.refl I, h, hv⟩
  | true =>
    unfold frzO at hc ⊢
    simp only at hc ⊢
    split at hc
    · rename_i c sz nm1 n nm2 sz' m g
      cases e : Nat.beq nm1 nm2 && Nat.beq sz sz' with
      | false => exact ⟨I, Imm.le.refl I, h, hv⟩
      | true =>
        rw [e] at hc
        obtain ⟨a1, a2⟩ := andb e
        have a1 := beqn a1; have a2 := beqn a2
        subst a1 a2
        exact RW.frz h hv hc.1
    · rename_i c sz nm1 n x nm2 sz' m g
      cases e : Nat.beq nm1 nm2 && Nat.beq sz sz' with
      | false => exact ⟨I, Imm.le.refl I, h, hv⟩
      | true =>
        rw [e] at hc
        obtain ⟨a1, a2⟩ := andb e
        have a1 := beqn a1; have a2 := beqn a2
        subst a1 a2
        exact RW.frz h hv hc.1
    · exact ⟨I, Imm.le.refl I, h, hv⟩
theorem frz_c {b : Bool} {out : Out} (hc : allP (frzO b out).c) : allP out.c := by
  unfold frzO at hc
  cases b with
  | false => exact hc
  | true =>
    simp only at hc
    split at hc
    · rename_i c sz nm1 n nm2 sz' m g
      cases e : Nat.beq nm1 nm2 && Nat.beq sz sz' with
      | false => rw [e] at hc; exact hc
      | true => rw [e] at hc; exact hc.2
    · rename_i c sz nm1 n x nm2 sz' m g
      cases e : Nat.beq nm1 nm2 && Nat.beq sz sz' with
      | false => rw [e] at hc; exact hc
      | true => rw [e] at hc; exact hc.2
    · exact hc
theorem frz_al {b : Bool} {out : Out} : (frzO b out).al = out.al := by
  unfold frzO
  cases b with
  | false => rfl
  | true =>
    simp only
    split
    · rename_i c sz nm1 n nm2 sz' m g
      cases Nat.beq nm1 nm2 && Nat.beq sz sz' <;> rfl
    · rename_i c sz nm1 n x nm2 sz' m g
      cases Nat.beq nm1 nm2 && Nat.beq sz sz' <;> rfl
    · rfl

/-- One operation of a region. -/
theorem W.op (hT : TabOK P T.l) {nt : Nat} (hnt : nt = Γ.n) {ops : Array Oper} {i : Nat} {l : List Nat} {k : List Item} {o : Oper} (ho : ops[i]? = some o) {g : List (Nat × Nat × Bool)} (hd : dstOk nt g o.dst = true) (hg : guardOf o g = some true)
    {τ : List (Nat × A)} {r : List (Nat × Option Obj)} {us : List Nat} {out : Out} (h1 : step1 T o τ r = some out) (hc : allP out.c) (hal : out.al = true → ∃ d, o.dst = some d ∧ usedN us d = false)
    {τ' : List (Nat × A)} (hτ : τ' = match o.dst with | some d => (d, out.v) :: τ | none => τ)
    {r' : List (Nat × Option Obj)} (hr : r' = addW r out.w) {us' : List Nat} (hus : us' = addU us (nameOf o.dst) out.al)
    (h : W Γ P Q g (.inRegion ops l :: k) τ' r' us') : W Γ P Q g (.inRegion ops (i :: l) :: k) τ r us := by
  subst hτ hr hus
  refine ⟨fun a w I ρ hR hS hG => ?_⟩
  have hw := guardOf_ok hS hG hg
  unfold step1 at h1
  split at h1
  · cases h1
  · rename_i vs hvs
    split at h1
    · cases h1
    · rename_i obs hobs
      unfold primF at h1
      cases hp0 : prim T o.op vs obs (nameOf o.dst) with
      | none => rw [hp0] at h1; cases h1
      | some out0 =>
      rw [hp0] at h1
      simp only [Option.some.injEq] at h1
      subst h1
      obtain ⟨nx, v, w', ρ', hx, hv, hle, hR0, hv0⟩ := (prim_ok (P := P) (e := a.eval) hT hp0 hR (fun ha => by
        obtain ⟨d, hd1, hd2⟩ := hal (frz_al.trans ha)
        rw [hd1]; exact hd2) (evs_ok hS hvs) hobs (frz_c hc)).ex
      obtain ⟨I', hI, hR', hv'⟩ := frz_ok _ hc hR0 hv0
      have hS' := hS.mono hI hle
      cases hdst : o.dst with
      | none =>
        rw [hdst] at h
        refine WK.step (a' := a.put o.dst v) (w' := w') (fun b cs => step_op ho hw hx hv) (h.ok _ _ I' ρ' (by simpa [hdst] using hR') (by rw [hdst]; exact hS'.skip) hG.next)
      | some d =>
        rw [hdst] at h hd
        obtain ⟨hlt, hoff⟩ := dstOk_some hd
        refine WK.step (a' := a.put o.dst v) (w' := w') (fun b cs => step_op ho hw hx hv) (h.ok _ _ I' ρ' (by simpa [hdst] using hR') (by rw [hdst]; simpa [hdst] using hS'.put (hnt ▸ hlt) hv') (hG.put hoff))

theorem W.skip0 {nt : Nat} (hnt : nt = Γ.n) {ops : Array Oper} {i : Nat} {l : List Nat} {k : List Item} {o : Oper} (ho : ops[i]? = some o) {g : List (Nat × Nat × Bool)} (hd : dstOk nt g o.dst = true) {τ : List (Nat × A)} (hg : ∀ a I ρ, Slots I ρ Γ.n τ a → GOK g (.inRegion ops (i :: l) :: k) τ → Region.wanted o (yielded ops a.tmps) = false)
    {r : List (Nat × Option Obj)} {us : List Nat} {τ' : List (Nat × A)} (hτ : τ' = match o.dst with | some d => (d, .tup []) :: τ | none => τ)
    (h : W Γ P Q g (.inRegion ops l :: k) τ' r us) : W Γ P Q g (.inRegion ops (i :: l) :: k) τ r us := by
  subst hτ
  refine ⟨fun a w I ρ hR hS hG => ?_⟩
  have hw := hg a I ρ hS hG
  have hs : ∀ (b : Frame) (cs : List Frame), step P (lone (b.at a (.inRegion ops (i :: l) :: k)) cs w) = .next (lone (b.at (a.put o.dst undef) (.inRegion ops l :: k)) cs w) := fun b cs => by
    have := step_op_skip (P := P) (b := b) (a := a) (k := k) (cs := cs) (w := w) (ops := ops) (i := i) (rest := l) (by
      simp only [ho, Option.map_some, Option.getD_some]
      exact hw)
    simpa only [ho, Option.bind_some] using this
  refine WK.step hs ?_
  cases hdst : o.dst with
  | none =>
    rw [hdst] at h
    exact h.ok _ _ I ρ hR hS.skip hG.next
  | some d =>
    rw [hdst] at h hd
    obtain ⟨hlt, hoff⟩ := dstOk_some hd
    exact h.ok _ _ I ρ hR (hS.lost (hnt ▸ hlt)) (hG.put hoff)

theorem W.skip {nt : Nat} (hnt : nt = Γ.n) {ops : Array Oper} {i : Nat} {l : List Nat} {k : List Item} {o : Oper} (ho : ops[i]? = some o) {g : List (Nat × Nat × Bool)} (hd : dstOk nt g o.dst = true) (hg : guardOf o g = some false)
    {τ : List (Nat × A)} {r : List (Nat × Option Obj)} {us : List Nat} {τ' : List (Nat × A)} (hτ : τ' = match o.dst with | some d => (d, .tup []) :: τ | none => τ)
    (h : W Γ P Q g (.inRegion ops l :: k) τ' r us) : W Γ P Q g (.inRegion ops (i :: l) :: k) τ r us :=
  W.skip0 hnt ho hd (fun a I ρ hS hG => guardOf_ok hS hG hg) (by rw [hτ]) h
theorem undefG_ok {I : Imm} {ρ : Ren} {n : Nat} {τ : List (Nat × A)} {a : Act} (hS : Slots I ρ n τ a) {ops : Array Oper} {o : Oper} (h : undefG ops o τ = true) : Region.wanted o (yielded ops a.tmps) = false := by
  unfold undefG at h
  cases hg : o.guard with
  | none => rw [hg] at h; cases h
  | some q =>
    obtain ⟨j, want⟩ := q
    rw [hg] at h
    simp only at h
    split at h
    · rename_i o' ho'
      split at h
      · rename_i t ht
        split at h
        · rename_i hl
          have ho : ops[j]? = some o' := by simpa using ho'
          obtain ⟨hlt, hr⟩ := hS.at_ t _ hl
          obtain ⟨vs, hv, hvs⟩ := hr.tup_inv
          cases hvs
          have : a.tmps[t]? = some (.tuple #[]) := by
            have hsz : t < a.tmps.size := by rw [hS.size]; exact hlt
            rw [Array.getD_eq_getD_getElem?, Array.getElem?_eq_getElem hsz, Option.getD_some] at hv
            rw [Array.getElem?_eq_getElem hsz, hv]
          have hy : yielded ops a.tmps j = none := by simp [yielded, ho, ht, this]
          simp [Region.wanted, hg, hy]
        · cases h
      · cases h
    · cases h
theorem W.skipU {nt : Nat} (hnt : nt = Γ.n) {ops : Array Oper} {i : Nat} {l : List Nat} {k : List Item} {o : Oper} (ho : ops[i]? = some o) {g : List (Nat × Nat × Bool)} (hd : dstOk nt g o.dst = true)
    {τ : List (Nat × A)} (hg : undefG ops o τ = true) {r : List (Nat × Option Obj)} {us : List Nat} {τ' : List (Nat × A)} (hτ : τ' = match o.dst with | some d => (d, .tup []) :: τ | none => τ)
    (h : W Γ P Q g (.inRegion ops l :: k) τ' r us) : W Γ P Q g (.inRegion ops (i :: l) :: k) τ r us :=
  W.skip0 hnt ho hd (fun a I ρ hS _ => undefG_ok hS hg) (by rw [hτ]) h

theorem Fin.run (hT : TabOK P T.l) {nt : Nat} (hnt : nt = Γ.n) : ∀ (n : Nat) (g : List (Nat × Nat × Bool)) (k : List Item) (τ : List (Nat × A)) (r : List (Nat × Option Obj)) (us : List Nat) (c : List Prop),
    Fin Γ P Q (run T nt n g k τ r us c) → allP c ∧ W Γ P Q g k τ r us
  | 0, g, k, τ, r, us, c, h => h
  | n + 1, g, k, τ, r, us, c, h => by
    have ih := Fin.run hT hnt n
    unfold VX.run at h
    split at h
    · rename_i x k'
      split at h
      · have h := ih _ _ _ _ _ _ h
        exact ⟨h.1, ⟨fun a w I ρ hR hS _ => WK.step (fun b cs => step_skip) (h.2.ok a w I ρ hR hS .nil)⟩⟩
      · have h := ih _ _ _ _ _ _ h
        exact ⟨h.1, ⟨fun a w I ρ hR hS _ => WK.step (fun b cs => step_label) (h.2.ok a w I ρ hR hS .nil)⟩⟩
      · have h := ih _ _ _ _ _ _ h
        exact ⟨h.1, ⟨fun a w I ρ hR hS _ => WK.step (fun b cs => step_seq) (h.2.ok a w I ρ hR hS .nil)⟩⟩
      · have h := ih _ _ _ _ _ _ h
        exact ⟨h.1, ⟨fun a w I ρ hR hS _ => WK.step (fun b cs => step_block) (h.2.ok a w I ρ hR hS .nil)⟩⟩
      · have h := ih _ _ _ _ _ _ h
        exact ⟨h.1, ⟨fun a w I ρ hR hS _ => WK.step (fun b cs => step_scope) (h.2.ok a w I ρ hR hS .nil)⟩⟩
      · split at h
        · rename_i k'' hk
          have h := ih _ _ _ _ _ _ h
          exact ⟨h.1, ⟨fun a w I ρ hR hS _ => WK.step (fun b cs => step_exit hk) (h.2.ok a w I ρ hR hS .nil)⟩⟩
        · exact h
      · rename_i id ops d
        split at h
        · rename_i hd
          have hd : d = false := by
            cases e : hasN T.stop id with
            | true => rw [e] at hd; cases hd
            | false => rw [e] at hd; exact hd
          subst hd
          have h := ih _ _ _ _ _ _ h
          exact ⟨h.1, ⟨fun a w I ρ hR hS _ => WK.step (fun b cs => step_region) (h.2.ok a w I ρ hR hS .nil)⟩⟩
        · exact h
      · exact h
    · have h := ih _ _ _ _ _ _ h
      exact ⟨h.1, ⟨fun a w I ρ hR hS _ => WK.step (fun b cs => step_inBlock) (h.2.ok a w I ρ hR hS .nil)⟩⟩
    · have h := ih _ _ _ _ _ _ h
      exact ⟨h.1, ⟨fun a w I ρ hR hS _ => WK.step (fun b cs => step_inScope) (h.2.ok a w I ρ hR hS .nil)⟩⟩
    · rename_i ops l k'
      split at h
      · have h := ih _ _ _ _ _ _ h
        exact ⟨h.1, ⟨fun a w I ρ hR hS _ => WK.step (fun b cs => step_region_end) (h.2.ok a w I ρ hR hS .nil)⟩⟩
      · rename_i i l'
        split at h
        · rename_i o ho
          have ho : ops[i]? = some o := by simpa using ho
          split at h
          · rename_i hd
            split at h
            · rename_i hg
              split at h
              · rename_i c' v w al h1
                split at h
                · rename_i hdst
                  split at h
                  · have h := ih _ _ _ _ _ _ h
                    obtain ⟨hc1, hc2⟩ := allP_append.1 h.1
                    exact ⟨hc2, W.op hT hnt ho hd hg h1 hc1 (by simp) (by simp [hdst]) rfl rfl h.2⟩
                  · have h := ih _ _ _ _ _ _ h
                    obtain ⟨hc1, hc2⟩ := allP_append.1 h.1
                    exact ⟨hc2, W.op hT hnt ho hd hg h1 hc1 (by simp) (by simp [hdst]) rfl rfl h.2⟩
                  · exact h
                · rename_i d hdst
                  split at h
                  · have h := ih _ _ _ _ _ _ h
                    obtain ⟨hc1, hc2⟩ := allP_append.1 h.1
                    exact ⟨hc2, W.op hT hnt ho hd hg h1 hc1 (by simp) (by simp [hdst]) rfl rfl h.2⟩
                  · have h := ih _ _ _ _ _ _ h
                    obtain ⟨hc1, hc2⟩ := allP_append.1 h.1
                    exact ⟨hc2, W.op hT hnt ho hd hg h1 hc1 (by simp) (by simp [hdst]) rfl rfl h.2⟩
                  · split at h
                    · rename_i hus
                      have h := ih _ _ _ _ _ _ h
                      obtain ⟨hc1, hc2⟩ := allP_append.1 h.1
                      exact ⟨hc2, W.op hT hnt ho hd hg h1 hc1 (fun _ => ⟨d, hdst, hus⟩) (by simp [hdst]) rfl (by simp [hdst, addU, nameOf]) h.2⟩
                    · exact h
                  · split at h
                    · rename_i hus
                      have h := ih _ _ _ _ _ _ h
                      obtain ⟨hc1, hc2⟩ := allP_append.1 h.1
                      exact ⟨hc2, W.op hT hnt ho hd hg h1 hc1 (fun _ => ⟨d, hdst, hus⟩) (by simp [hdst]) rfl (by simp [hdst, addU, nameOf]) h.2⟩
                    · exact h
                  · exact h
              · exact h
            · rename_i hg
              split at h
              · rename_i hdst
                have h := ih _ _ _ _ _ _ h
                exact ⟨h.1, W.skip hnt ho hd hg (by simp [hdst]) h.2⟩
              · rename_i d hdst
                have h := ih _ _ _ _ _ _ h
                exact ⟨h.1, W.skip hnt ho hd hg (by simp [hdst]) h.2⟩
            · split at h
              · rename_i hu
                split at h
                · rename_i hdst
                  have h := ih _ _ _ _ _ _ h
                  exact ⟨h.1, W.skipU hnt ho hd hu (by simp [hdst]) h.2⟩
                · rename_i d hdst
                  have h := ih _ _ _ _ _ _ h
                  exact ⟨h.1, W.skipU hnt ho hd hu (by simp [hdst]) h.2⟩
              · exact h
          · exact h
        · exact h
    · exact h

/-- Walk on as far as it goes. -/
theorem W.run (hT : TabOK P T.l) (nt : Nat) (hnt : nt = Γ.n) (n : Nat) {g : List (Nat × Nat × Bool)} {k : List Item} {τ : List (Nat × A)} {r : List (Nat × Option Obj)} {us : List Nat} (h : Fin Γ P Q (VX.run T nt n g k τ r us [])) : W Γ P Q g k τ r us :=
  (Fin.run hT hnt n g k τ r us [] h).2

/-- May it make something? -/
def alOk (us : List Nat) : Bool → Option Tmp → Bool
  | false, _ => true
  | true, some d => !usedN us d
  | true, none => false
/-- Can it walk on? -/
def canGo (T : Tab) (g : List (Nat × Nat × Bool)) (k : List Item) (τ : List (Nat × A)) (r : List (Nat × Option Obj)) (us : List Nat) : Bool :=
  match k with
  | .code x :: _ => (match x with
    | .skip => true
    | .label _ => true
    | .seq .. => true
    | .block .. => true
    | .scope _ => true
    | .exit _ => true
    | .region id _ d => (match bif hasN T.stop id then true else d with
      | true => false
      | false => true)
    | _ => false)
  | .inBlock _ :: _ => true
  | .inScope _ :: _ => true
  | .inRegion _ [] :: _ => true
  | .inRegion ops (i :: _) :: _ => (match ops.toList[i]? with
    | some o => (match guardOf o g with
      | some true => (match step1 T o τ r with
        | some ⟨_, _, _, al⟩ => alOk us al o.dst
        | none => false)
      | some false => true
      | none => undefG ops o τ)
    | none => false)
  | _ => false
theorem W.go (hT : TabOK P T.l) (nt : Nat) (hnt : nt = Γ.n) (n : Nat) {g : List (Nat × Nat × Bool)} {k : List Item} {τ : List (Nat × A)} {r : List (Nat × Option Obj)} {us : List Nat} (_ : canGo T g k τ r us = true) (h : Fin Γ P Q (VX.run T nt n g k τ r us [])) : W Γ P Q g k τ r us :=
  W.run hT nt hnt n h
end
end VX

/- VX 23: tests. -/
namespace VX
open Go

section
variable {P : Program} {Γ : Ctx} {Q : Act → World → Prop}

/-- A test. -/
theorem W.branch {g : List (Nat × Nat × Bool)} {k : List Item} {τ : List (Nat × A)} {r : List (Nat × Option Obj)} {us : List Nat} {b : Bool} {g1 g2 : List (Nat × Nat × Bool)} {k1 k2 : List Item} {τ1 τ2 : List (Nat × A)}
    (he : VX.branch g τ k = some (b, ⟨g1, k1, τ1⟩, ⟨g2, k2, τ2⟩)) (h1 : b = true → W Γ P Q g1 k1 τ1 r us) (h2 : b = false → W Γ P Q g2 k2 τ2 r us) : W Γ P Q g k τ r us := by
  refine ⟨fun a w I ρ hR hS hG => ?_⟩
  unfold VX.branch at he
  split at he
  · rename_i c x y k'
    split at he
    · rename_i b' hb
      simp only [Option.some.injEq, Prod.mk.injEq, Way.mk.injEq] at he
      obtain ⟨rfl, ⟨rfl, rfl, rfl⟩, ⟨rfl, rfl, rfl⟩⟩ := he
      have hc := (ev_ok hS hb).bool_inv
      refine WK.step (fun _ _ => step_cond hc) ?_
      cases b' with
      | true => exact (h1 rfl).ok a w I ρ hR hS .nil
      | false => exact (h2 rfl).ok a w I ρ hR hS .nil
    · cases he
  · rename_i ops i l' k'
    split at he
    · rename_i o ho
      split at he
      · rename_i j want hgd
        split at he
        · rename_i o' ho'
          split at he
          · rename_i t ht
            split at he
            · rename_i b' hb
              split at he
              rotate_left
              · cases he
              simp only [Option.some.injEq, Prod.mk.injEq, Way.mk.injEq] at he
              obtain ⟨rfl, ⟨rfl, rfl, rfl⟩, ⟨rfl, rfl, rfl⟩⟩ := he
              have hS' : Slots I ρ Γ.n ((t, .bool b') :: τ) a := by
                refine ⟨hS.size, hS.defers, fun s x hx => ?_⟩
                rw [look_cons] at hx
                by_cases e : t = s
                · rw [if_pos e] at hx
                  cases hx
                  subst e
                  exact hS.at_ _ _ hb
                · rw [if_neg e] at hx
                  exact hS.at_ _ _ hx
              have hG' : GOK ((j, t, b') :: g) (.inRegion ops (i :: l') :: k') ((t, .bool b') :: τ) := fun j2 t2 b2 hm => by
                rcases List.mem_cons.1 hm with hm | hm
                · cases hm
                  exact ⟨o', ho', ht, by rw [look_cons, if_pos rfl]⟩
                · obtain ⟨o2, q1, q2, q3⟩ := hG j2 t2 b2 hm
                  refine ⟨o2, q1, q2, ?_⟩
                  rw [look_cons]
                  by_cases e : t = t2
                  · subst e
                    rw [hb] at q3
                    simp only [Option.some.injEq, A.bool.injEq] at q3
                    rw [if_pos rfl, q3]
                  · rw [if_neg e]; exact q3
              cases b' with
              | true => exact (h1 rfl).ok a w I ρ hR hS' hG'
              | false => exact (h2 rfl).ok a w I ρ hR hS' hG'
            · cases he
          · cases he
        · cases he
      · cases he
    · cases he
  · cases he
end
end VX

/- VX 24: a state seen as another; loops. -/
namespace VX
open Go

/-- y may stand where x stands. -/
structure A.Sim (x y : A) : Prop where
  agg : isAgg y = isAgg x
  size : y.size = x.size
  ok : x.wf → x.pureP → y.wf ∧ y.pureP
  cells : x.wf → x.pureP → ∀ I vs, RL I nr x.cells vs → RL I nr y.cells vs
def A.sim (x y : A) : Prop := A.Sim x y
theorem A.sim.refl (x : A) : x.sim x := ⟨rfl, rfl, fun a b => ⟨a, b⟩, fun _ _ _ _ h => h⟩
theorem A.sim.of {x y : A} (h : x = y) : x.sim y := h ▸ A.sim.refl x
theorem A.sim.trans {x y z : A} (h : x.sim y) (k : y.sim z) : x.sim z :=
  ⟨(Sim.agg k).trans (Sim.agg h), (Sim.size k).trans (Sim.size h), fun a b => Sim.ok k (Sim.ok h a b).1 (Sim.ok h a b).2, fun a b I vs q => Sim.cells k (Sim.ok h a b).1 (Sim.ok h a b).2 I vs (Sim.cells h a b I vs q)⟩
theorem A.sim.three {x y : A} {sz : Nat} (h : x.sim y) (hx : x.wf ∧ x.size = sz ∧ x.pureP) : y.wf ∧ y.size = sz ∧ y.pureP :=
  ⟨(Sim.ok h hx.1 hx.2.2).1, (Sim.size h).trans hx.2.1, (Sim.ok h hx.1 hx.2.2).2⟩
theorem A.sim.RL {x y : A} (h : x.sim y) (hw : x.wf) (hp : x.pureP) {I : Imm} {ρ ρ' : Ren} {vs : List Value} (hr : RL I ρ x.cells vs) : RL I ρ' y.cells vs :=
  (Sim.cells h hw hp I vs (hr.pure (cells_pureP hw hp))).mono (Imm.le.refl I) (Ren.le.nr ρ')
theorem A.sim.RA {x y : A} (h : x.sim y) (hw : x.wf) (hp : x.pureP) {I : Imm} {b o : Nat} (hr : RA I nr x.cells b o) : RA I nr y.cells b o :=
  let ⟨_, h1, h2⟩ := hr.get
  RA.of (Sim.cells h hw hp I _ h1) h2
theorem A.sim.R {x y : A} (h : x.sim y) (hp : x.pureP) {I : Imm} {ρ : Ren} {v : Value} (hr : R I ρ x v) : R I ρ y v := by
  cases hx : isAgg x with
  | true =>
    obtain ⟨vs, rfl, hw, hc⟩ := hr.agg_inv hx
    exact .agg ((Sim.agg h).trans hx) (Sim.ok h hw hp).1 (A.sim.RL h hw hp hc)
  | false =>
    have h1 := A.sim.RL (ρ' := ρ) h hr.wf hp (by rw [cells_of_one hx]; exact RL.cons hr .nil)
    rw [cells_of_one ((Sim.agg h).trans hx)] at h1
    obtain ⟨u, hu, h2⟩ := h1.one_inv
    cases hu
    exact h2
theorem A.sim.ro {sz n : Nat} {g g' : Nat → A} (h : ∀ i, i < n → (g i).sim (g' i)) : (A.ro sz n g).sim (.ro sz n g') := by
  refine ⟨rfl, rfl, fun _ _ => ⟨trivial, trivial⟩, fun _ _ I vs hr => ?_⟩
  simp only [A.cells] at hr ⊢
  obtain ⟨u, rfl, h1⟩ := hr.one_inv
  refine .cons ?_ .nil
  cases h1 with
  | agg h1 _ _ => cases h1
  | ro a b c => exact .ro a (fun i hi => (h i hi).three (b i hi)) (fun i hi => (h i hi).RA (b i hi).1 (b i hi).2.2 (c i hi))
  | ro0 => exact .ro0
theorem vec_sim {sz : Nat} {g g' : Nat → A} {I : Imm} : ∀ (n : Nat) (vs : List Value), (∀ i, i < n → (g i).sim (g' i)) → (∀ i, i < n → (g i).wf ∧ (g i).size = sz ∧ (g i).pureP) →
    RL I nr ((List.range n).flatMap fun i => (g i).cells) vs → RL I nr ((List.range n).flatMap fun i => (g' i).cells) vs
  | 0, _, _, _, hr => hr
  | n + 1, vs, h, hw, hr => by
    rw [List.range_succ, List.flatMap_append] at hr ⊢
    obtain ⟨k1, k2⟩ := RL.split hr
    have q1 := vec_sim n _ (fun i hi => h i (by omega)) (fun i hi => hw i (by omega)) k1
    simp only [List.flatMap_cons, List.flatMap_nil, List.append_nil] at k2 ⊢
    have q2 := (h n (by omega)).RL (ρ' := nr) (hw n (by omega)).1 (hw n (by omega)).2.2 k2
    have := RL.append q1 q2
    rwa [List.take_append_drop] at this
/-- Arrays. -/
theorem A.sim.vec {sz n : Nat} {g g' : Nat → A} (h : ∀ i, i < n → (g i).sim (g' i)) : (A.vec sz n g).sim (.vec sz n g') :=
  ⟨rfl, rfl, fun hw hp => ⟨fun i hi => (h i hi).three (hw i hi), fun i hi => ((h i hi).three (hw i hi)).2.2⟩, fun hw hp I vs hr => vec_sim n vs h hw hr⟩
def simL : List A → List A → Prop
  | [], [] => True
  | x :: xs, y :: ys => x.sim y ∧ simL xs ys
  | _, _ => False
theorem simL_ok : ∀ {xs ys : List A}, simL xs ys → A.sizeL ys = A.sizeL xs ∧ (A.wfL xs → A.purePL xs → A.wfL ys ∧ A.purePL ys) ∧ (A.wfL xs → A.purePL xs → ∀ I vs, RL I nr (A.cellsL xs) vs → RL I nr (A.cellsL ys) vs)
  | [], [], _ => ⟨rfl, fun a b => ⟨a, b⟩, fun _ _ _ _ h => h⟩
  | x :: xs, y :: ys, h => by
    have ih := simL_ok h.2
    refine ⟨by simp only [A.sizeL, ih.1, A.Sim.size h.1], fun a b => ⟨⟨(A.Sim.ok h.1 a.1 b.1).1, (ih.2.1 a.2 b.2).1⟩, ⟨(A.Sim.ok h.1 a.1 b.1).2, (ih.2.1 a.2 b.2).2⟩⟩, fun a b I vs hr => ?_⟩
    simp only [A.cellsL] at hr ⊢
    obtain ⟨k1, k2⟩ := RL.split hr
    have := RL.append (A.Sim.cells h.1 a.1 b.1 I _ k1) (ih.2.2 a.2 b.2 I _ k2)
    rwa [List.take_append_drop] at this
  | [], _ :: _, h => h.elim
  | _ :: _, [], h => h.elim
theorem A.sim.aggL {xs ys : List A} (h : simL xs ys) : (A.agg xs).sim (.agg ys) := by
  have k := simL_ok h
  exact ⟨rfl, k.1, fun a b => k.2.1 a b, fun a b I vs hr => k.2.2 a b I vs hr⟩
mutual
/-- x can be seen as y, where π tells which of the old names a new one is. -/
def A.le (π : List (Nat × Nat)) : A → A → Prop
  | .int k n, .int k' n' => k = k' ∧ n = n'
  | .bool b, .bool b' => b = b'
  | .str l, .str l' => l = l'
  | .vec sz n g, .vec sz' n' g' => sz = sz' ∧ n = n' ∧ ∀ i, i < n → (g i).sim (g' i)
  | .agg ps, .agg qs => A.leL π ps qs
  | .ro sz n g, .ro sz' n' g' => sz = sz' ∧ n = n' ∧ ∀ i, i < n → (g i).sim (g' i)
  | .rol sz n g, .ro sz' n' g' => sz = sz' ∧ n = n' ∧ ∀ i, i < n → (g i).sim (g' i)
  | .rol sz n g, .rol sz' n' g' => sz = sz' ∧ n = n' ∧ ∀ i, i < n → (g i).sim (g' i)
  | .nils, .ro _ n' _ => n' = 0
  | .nils, .rol _ n' _ => n' = 0
  | .nils, .nils => True
  | .nils, .own _ _ _ n' => n' = 0
  | .nils, .owl _ _ _ n' => n' = 0
  | .own sz id off n, .own sz' id' off' n' => look π id' = some id ∧ sz = sz' ∧ off = off' ∧ n = n'
  | .owl sz id off n, .owl sz' id' off' n' => look π id' = some id ∧ sz = sz' ∧ off = off' ∧ n = n'
  | .owk sz id off n K, .owk sz' id' off' n' K' => look π id' = some id ∧ sz = sz' ∧ off = off' ∧ n = n' ∧ K = K'
  | .own sz id off n, .owk sz' id' off' n' K' => look π id' = some id ∧ sz = sz' ∧ off = off' ∧ n = n' ∧ n = K'
  | .owk sz id off n _, .own sz' id' off' n' => look π id' = some id ∧ sz = sz' ∧ off = off' ∧ n = n'
  | .vsl sz id p i n, .vsl sz' id' p' i' n' => look π id' = some id ∧ sz = sz' ∧ p = p' ∧ i = i' ∧ n = n'
  | .ptr id p, .ptr id' p' => look π id' = some id ∧ p = p'
  | .map id, .map id' => look π id' = some id
  | .rop x, .rop y => x.sim y ∧ y.pureP
  | .nilp, .nilp => True
  | .nilm, .nilm => True
  | .nilf, .nilf => True
  | .nili, .nili => True
  | .func f a c, .func f' a' c' => f = f' ∧ A.leL π a a' ∧ A.leL π c c'
  | .iface t x, .iface t' x' => t = t' ∧ A.le π x x'
  | .tup l, .tup l' => A.leL π l l'
  | _, _ => False
def A.leL (π : List (Nat × Nat)) : List A → List A → Prop
  | [], [] => True
  | x :: xs, y :: ys => A.le π x y ∧ A.leL π xs ys
  | _, _ => False
end

/-- In a slot: what it holds may be forgotten. -/
def A.leT (π : List (Nat × Nat)) (x : A) : A → Prop
  | .any => True
  | y => A.le π x y
def Obj.le (π : List (Nat × Nat)) : Obj → Obj → Prop
  | .var x, .var y => A.le π x y
  | .arr sz n g, .arr sz' n' g' => sz = sz' ∧ n' ≤ n ∧ ∀ i, i < n' → (g i).sim (g' i)
  | .smap z ks g, .smap z' ks' g' => z = z' ∧ ks = ks' ∧ g = g'
  | .pmap ks xs, .pmap ks' xs' => ks = ks' ∧ A.leL π xs xs'
  | _, _ => False

def Via (π : List (Nat × Nat)) (ρ ρ' : Ren) : Prop := ∀ m n l, look π m = some n → ρ n = some l → ρ' m = some l

section
variable {I : Imm} {ρ ρ' : Ren} {π : List (Nat × Nat)}

mutual
theorem A.le_wf : ∀ {x y : A}, A.le π x y → x.wf → y.wf ∧ y.size = x.size ∧ isAgg y = isAgg x
  | .vec .., .vec .., h, hw => by
    simp only [A.le] at h
    obtain ⟨rfl, rfl, h⟩ := h
    exact ⟨fun i hi => (h i hi).three (hw i hi), rfl, rfl⟩
  | .agg ps, .agg qs, h, hw => by
    simp only [A.le] at h
    have := A.leL_wf h hw
    exact ⟨this.1, by simp [A.size, this.2], rfl⟩
  | .int .., y, h, _ | .bool _, y, h, _ | .str _, y, h, _ | .ro .., y, h, _ | .rol .., y, h, _ | .own .., y, h, _ | .owl .., y, h, _ | .owk .., y, h, _ | .ptr .., y, h, _ | .vsl .., y, h, _ | .rop _, y, h, _ | .nils, y, h, _ | .nilp, y, h, _
  | .nilm, y, h, _ | .nilf, y, h, _ | .nili, y, h, _ | .map _, y, h, _ | .func .., y, h, _ | .iface .., y, h, _ | .tup _, y, h, _ | .any, y, h, _ => by
    cases y <;> first | (simp [A.le] at h; done) | simp [A.wf, A.size, isAgg]
  | .vec .., .int .., h, _ | .vec .., .bool _, h, _ | .vec .., .str _, h, _ | .vec .., .ro .., h, _ | .vec .., .rol .., h, _ | .vec .., .own .., h, _ | .vec .., .owl .., h, _ | .vec .., .owk .., h, _ | .vec .., .ptr .., h, _ | .vec .., .vsl .., h, _
  | .vec .., .rop _, h, _ | .vec .., .nils, h, _ | .vec .., .nilp, h, _ | .vec .., .nilm, h, _ | .vec .., .nilf, h, _ | .vec .., .nili, h, _ | .vec .., .map _, h, _ | .vec .., .func .., h, _ | .vec .., .iface .., h, _
  | .vec .., .tup _, h, _ | .vec .., .any, h, _ | .vec .., .agg _, h, _ => by simp [A.le] at h
  | .agg _, .int .., h, _ | .agg _, .bool _, h, _ | .agg _, .str _, h, _ | .agg _, .ro .., h, _ | .agg _, .rol .., h, _ | .agg _, .own .., h, _ | .agg _, .owl .., h, _ | .agg _, .owk .., h, _ | .agg _, .ptr .., h, _ | .agg _, .vsl .., h, _
  | .agg _, .rop _, h, _ | .agg _, .nils, h, _ | .agg _, .nilp, h, _ | .agg _, .nilm, h, _ | .agg _, .nilf, h, _ | .agg _, .nili, h, _ | .agg _, .map _, h, _ | .agg _, .func .., h, _ | .agg _, .iface .., h, _
  | .agg _, .tup _, h, _ | .agg _, .any, h, _ | .agg _, .vec .., h, _ => by simp [A.le] at h
theorem A.leL_wf : ∀ {x y : List A}, A.leL π x y → A.wfL x → A.wfL y ∧ A.sizeL y = A.sizeL x
  | [], [], _, _ => ⟨trivial, rfl⟩
  | x :: xs, y :: ys, h, hw => by
    simp only [A.leL] at h
    have h1 := A.le_wf h.1 hw.1
    have h2 := A.leL_wf h.2 hw.2
    exact ⟨⟨h1.1, h2.1⟩, by simp [A.sizeL, h1.2.1, h2.2]⟩
  | [], _ :: _, h, _ => by simp [A.leL] at h
  | _ :: _, [], h, _ => by simp [A.leL] at h
end

/-- x seen as y keeps what it means; so do its cells. -/
def LeOK (I : Imm) (ρ ρ' : Ren) (π : List (Nat × Nat)) (x : A) : Prop :=
  (∀ y v, A.le π x y → R I ρ x v → R I ρ' y v) ∧ (∀ y vs, A.le π x y → x.wf → RL I ρ x.cells vs → RL I ρ' y.cells vs)

theorem LeOK.one {x : A} (hx : isAgg x = false) (h : ∀ y v, A.le π x y → R I ρ x v → R I ρ' y v) : LeOK I ρ ρ' π x := by
  refine ⟨h, fun y vs hl hw hr => ?_⟩
  rw [cells_of_one hx] at hr
  obtain ⟨v, rfl, hv⟩ := hr.one_inv
  have hy : isAgg y = false := (A.le_wf hl hw).2.2.trans hx
  rw [cells_of_one hy]
  exact .cons (h y v hl hv) .nil

theorem LeOK.agg {x : A} (hx : isAgg x = true) (h : ∀ y vs, A.le π x y → x.wf → RL I ρ x.cells vs → RL I ρ' y.cells vs) : LeOK I ρ ρ' π x := by
  refine ⟨fun y v hl hr => ?_, h⟩
  obtain ⟨vs, rfl, hw, hr⟩ := hr.agg_inv hx
  have hwy := A.le_wf hl hw
  exact .agg (hwy.2.2.trans hx) hwy.1 (h y vs hl hw hr)

mutual
theorem A.le_both (hv : Via π ρ ρ') : ∀ (x : A), LeOK I ρ ρ' π x
  | .vec sz n g => by
    refine .agg rfl fun y vs h hw hr => ?_
    cases y <;> simp [A.le] at h
    rename_i g'
    obtain ⟨rfl, rfl, h⟩ := h
    exact (A.sim.vec h).RL hw (by simp only [A.pureP]; exact fun i hi => (hw i hi).2.2) hr
  | .agg ps => by
    refine .agg rfl fun y vs h hw hr => ?_
    cases y <;> simp [A.le] at h
    exact (A.leL_both hv ps).2 _ _ h hw hr
  | .int .. => .one rfl fun y v h hr => by cases hr.int_inv; cases y <;> simp [A.le] at h; obtain ⟨rfl, rfl⟩ := h; exact .int
  | .bool _ => .one rfl fun y v h hr => by cases hr.bool_inv; cases y <;> simp [A.le] at h; cases h; exact .bool
  | .str _ => .one rfl fun y v h hr => by cases hr.str_inv; cases y <;> simp [A.le] at h; cases h; exact .str
  | .ro .. => .one rfl fun y v h hr => by
    cases y <;> simp [A.le] at h
    obtain ⟨rfl, rfl, h⟩ := h
    cases hr with
    | agg hr _ _ => cases hr
    | ro a b c => exact .ro a (fun i hi => (h i hi).three (b i hi)) (fun i hi => (h i hi).RA (b i hi).1 (b i hi).2.2 (c i hi))
    | ro0 => exact .ro0
  | .rol .. => .one rfl fun y v h hr => by
    cases y <;> simp [A.le] at h
    · obtain ⟨rfl, rfl, h⟩ := h
      cases hr with
      | agg hr _ _ => cases hr
      | rol b c => exact .ro (Nat.le_refl _) (fun i hi => (h i hi).three (b i hi)) (fun i hi => (h i hi).RA (b i hi).1 (b i hi).2.2 (c i hi))
      | rol0 => exact .ro0
    · obtain ⟨rfl, rfl, h⟩ := h
      cases hr with
      | agg hr _ _ => cases hr
      | rol b c => exact .rol (fun i hi => (h i hi).three (b i hi)) (fun i hi => (h i hi).RA (b i hi).1 (b i hi).2.2 (c i hi))
      | rol0 => exact .rol0
  | .own .. => .one rfl fun y v h hr => by
    cases y <;> simp [A.le] at h
    · obtain ⟨hp, rfl, rfl, rfl⟩ := h
      cases hr with
      | agg hr _ _ => cases hr
      | own a b c => exact .own (hv _ _ _ hp a) b c
      | own0 => exact .own0
    · obtain ⟨hp, rfl, rfl, rfl, rfl⟩ := h
      cases hr with
      | agg hr _ _ => cases hr
      | own a b c => exact .owk (hv _ _ _ hp a) (Nat.le_refl _) b c
      | own0 => exact .owk0
  | .owk .. => .one rfl fun y v h hr => by
    cases y <;> simp [A.le] at h
    · obtain ⟨hp, rfl, rfl, rfl⟩ := h
      cases hr with
      | agg hr _ _ => cases hr
      | owk a b c d => exact .own (hv _ _ _ hp a) (Nat.le_trans b c) d
      | owk0 => exact .own0
    · obtain ⟨hp, rfl, rfl, rfl, rfl⟩ := h
      cases hr with
      | agg hr _ _ => cases hr
      | owk a b c d => exact .owk (hv _ _ _ hp a) b c d
      | owk0 => exact .owk0
  | .owl .. => .one rfl fun y v h hr => by
    cases y <;> simp [A.le] at h
    obtain ⟨hp, rfl, rfl, rfl⟩ := h
    cases hr with
    | agg hr _ _ => cases hr
    | owl a b => exact .owl (hv _ _ _ hp a) b
    | owl0 => exact .owl0
  | .vsl .. => .one rfl fun y v h hr => by
    cases y <;> simp [A.le] at h
    obtain ⟨hp, rfl, rfl, rfl, rfl⟩ := h
    cases hr with
    | agg hr _ _ => cases hr
    | vsl a b c => exact .vsl (hv _ _ _ hp a) b c
    | vsl0 => exact .vsl0
  | .ptr .. => .one rfl fun y v h hr => by
    cases y <;> simp [A.le] at h
    obtain ⟨hp, rfl⟩ := h
    cases hr with
    | agg hr _ _ => cases hr
    | ptr a => exact .ptr (hv _ _ _ hp a)
  | .rop _ => .one rfl fun y v h hr => by
    cases y <;> simp [A.le] at h
    cases hr with
    | agg hr _ _ => cases hr
    | rop a b c => exact .rop (h.1.three ⟨a, rfl, b⟩).1 h.2 (h.1.RA a b c)
  | .nils => .one rfl fun y v h hr => by
    cases hr.nils_inv
    cases y <;> simp [A.le] at h
    · cases h; exact .ro0
    · cases h; exact .rol0
    · cases h; exact .own0
    · cases h; exact .owl0
    · exact .nils
  | .nilp => .one rfl fun y v h hr => by cases hr.nilp_inv; cases y <;> simp [A.le] at h; exact .nilp
  | .nilm => .one rfl fun y v h hr => by cases hr.nilm_inv; cases y <;> simp [A.le] at h; exact .nilm
  | .nilf => .one rfl fun y v h hr => by cases hr.nilf_inv; cases y <;> simp [A.le] at h; exact .nilf
  | .nili => .one rfl fun y v h hr => by cases hr.nili_inv; cases y <;> simp [A.le] at h; exact .nili
  | .map _ => .one rfl fun y v h hr => by
    obtain ⟨b, rfl, hb⟩ := hr.map_inv
    cases y <;> simp [A.le] at h
    exact .map (hv _ _ _ h hb)
  | .func fn f c => .one rfl fun y v h hr => by
    obtain ⟨fs, cs, rfl, h1, h2⟩ := hr.func_inv
    cases y <;> simp [A.le] at h
    obtain ⟨rfl, k1, k2⟩ := h
    exact .func ((A.leL_both hv f).1 _ _ k1 h1) ((A.leL_both hv c).1 _ _ k2 h2)
  | .iface t x => .one rfl fun y v h hr => by
    obtain ⟨u, rfl, h1⟩ := hr.iface_inv
    cases y <;> simp [A.le] at h
    obtain ⟨rfl, k1⟩ := h
    exact .iface ((A.le_both hv x).1 _ _ k1 h1)
  | .tup l => .one rfl fun y v h hr => by
    obtain ⟨vs, rfl, h1⟩ := hr.tup_inv
    cases y <;> simp [A.le] at h
    exact .tup ((A.leL_both hv l).1 _ _ h h1)
  | .any => .one rfl fun y v h hr => by cases y <;> simp [A.le] at h
theorem A.leL_both (hv : Via π ρ ρ') : ∀ (x : List A), (∀ y vs, A.leL π x y → RL I ρ x vs → RL I ρ' y vs) ∧ (∀ y vs, A.leL π x y → A.wfL x → RL I ρ (A.cellsL x) vs → RL I ρ' (A.cellsL y) vs)
  | [] => by
    refine ⟨fun y vs h hr => ?_, fun y vs h hw hr => ?_⟩ <;> cases y <;> simp [A.leL] at h
    · cases hr; exact .nil
    · exact by simpa [A.cellsL] using (by cases hr; exact RL.nil)
  | x :: xs => by
    refine ⟨fun y vs h hr => ?_, fun y vs h hw hr => ?_⟩ <;> cases y <;> simp [A.leL] at h
    · cases hr with
      | cons a b => exact .cons ((A.le_both hv x).1 _ _ h.1 a) ((A.leL_both hv xs).1 _ _ h.2 b)
    · obtain ⟨k1, k2⟩ := RL.split (xs := x.cells) (ys := A.cellsL xs) hr
      have e := RL.append ((A.le_both hv x).2 _ _ h.1 hw.1 k1) ((A.leL_both hv xs).2 _ _ h.2 hw.2 k2)
      rw [List.take_append_drop] at e
      exact e
end

theorem A.le_ok (hv : Via π ρ ρ') {x y : A} {v : Value} (h : A.le π x y) (hr : R I ρ x v) : R I ρ' y v := (A.le_both hv x).1 y v h hr
theorem A.leT_ok (hv : Via π ρ ρ') {x y : A} {v : Value} (h : A.leT π x y) (hr : R I ρ x v) : R I ρ' y v := by
  cases y <;> first | exact .any | exact A.le_ok hv h hr

theorem Obj.le_ok (hv : Via π ρ ρ') : ∀ {ob ob' : Obj} {vs : List Value}, Obj.le π ob ob' → HoldsC I ρ ob vs → HoldsC I ρ' ob' vs
  | .var x, .var y, vs, h, hr => ⟨(A.le_wf h hr.1).1, (A.le_both hv x).2 _ _ h hr.1 hr.2⟩
  | .arr sz n g, .arr sz' n' g', vs, h, hr => by
    simp only [Obj.le] at h
    obtain ⟨rfl, hn, h⟩ := h
    exact ⟨Nat.le_trans (Nat.mul_le_mul_right _ hn) hr.1, fun i hi => (h i hi).three (hr.2.1 i (by omega)), fun i hi => (h i hi).RL (hr.2.1 i (by omega)).1 (hr.2.1 i (by omega)).2.2 (hr.2.2 i (by omega))⟩
  | .var _, .arr .., _, h, _ | .var _, .smap .., _, h, _ | .arr .., .var _, _, h, _ | .arr .., .smap .., _, h, _ | .smap .., .var _, _, h, _ | .smap .., .arr .., _, h, _ => by simp [Obj.le] at h
  | .smap .., .smap .., _, _, hr => hr.elim
  | .pmap .., .var _, _, h, _ | .pmap .., .arr .., _, h, _ | .pmap .., .smap .., _, h, _ | .var _, .pmap .., _, h, _ | .arr .., .pmap .., _, h, _ | .smap .., .pmap .., _, h, _ => by simp [Obj.le] at h
  | .pmap .., .pmap .., _, _, hr => hr.elim
end

/-- The slots told are among the old ones. -/
def subT (π : List (Nat × Nat)) (τ : List (Nat × A)) : List (Nat × A) → Prop
  | [] => True
  | (t, y) :: l => (match look τ t with | some x => A.leT π x y | none => False) ∧ subT π τ l
/-- The objects told are among the old ones. -/
def subR (π : List (Nat × Nat)) (r : List (Nat × Option Obj)) : List (Nat × Option Obj) → Prop
  | [] => True
  | (m, ob') :: l => (match ob' with
    | none => True
    | some ob' => match look π m with
      | some n => (match look r n with
        | some (some ob) => Obj.le π ob ob'
        | _ => False)
      | none => False) ∧ subR π r l
def keys {α : Type} : List (Nat × α) → List Nat
  | [] => []
  | (k, _) :: l => k :: keys l
def vals : List (Nat × Nat) → List Nat
  | [] => []
  | (_, v) :: l => v :: vals l
def nodupN : List Nat → Bool
  | [] => true
  | n :: l => !hasN l n && nodupN l

/-- The names of what was handed over stay. -/
def keepN : List (Nat × Nat) → Bool
  | [] => true
  | (m, n) :: l => (Nat.blt m 1000 || Nat.beq m n) && keepN l
theorem keepN_ok : ∀ {π : List (Nat × Nat)}, keepN π = true → ∀ {m n : Nat}, look π m = some n → 1000 ≤ m → m = n
  | [], _, _, _, h, _ => by simp [look] at h
  | (k, v) :: l, hk, m, n, h, hm => by
    rw [keepN, Bool.and_eq_true, Bool.or_eq_true] at hk
    rw [look_cons] at h
    by_cases e : k = m
    · subst e
      simp only [if_true, Option.some.injEq] at h
      subst h
      rcases hk.1 with h | h
      · have := blt_lt h; omega
      · exact Nat.eq_of_beq_eq_true h
    · rw [if_neg e] at h
      exact keepN_ok hk.2 h hm

theorem subT_look {π : List (Nat × Nat)} {τ : List (Nat × A)} : ∀ {τ' : List (Nat × A)}, subT π τ τ' → ∀ {t : Nat} {y : A}, look τ' t = some y → ∃ x, look τ t = some x ∧ A.leT π x y
  | [], _, t, y, h => by simp [look] at h
  | (t', y') :: l, hs, t, y, h => by
    rw [look_cons] at h
    by_cases e : t' = t
    · subst e
      simp only [if_true, Option.some.injEq] at h
      subst h
      have h1 := hs.1
      split at h1
      · exact ⟨_, ‹_›, h1⟩
      · exact h1.elim
    · rw [if_neg e] at h
      exact subT_look hs.2 h
theorem subR_look {π : List (Nat × Nat)} {r : List (Nat × Option Obj)} : ∀ {r' : List (Nat × Option Obj)}, subR π r r' → ∀ {m : Nat} {ob' : Obj}, look r' m = some (some ob') → ∃ n ob, look π m = some n ∧ look r n = some (some ob) ∧ Obj.le π ob ob'
  | [], _, t, y, h => by simp [look] at h
  | (t', y') :: l, hs, t, y, h => by
    rw [look_cons] at h
    by_cases e : t' = t
    · subst e
      simp only [if_true, Option.some.injEq] at h
      subst h
      have h1 := hs.1
      simp only at h1
      split at h1
      · split at h1
        · exact ⟨_, _, ‹_›, ‹_›, h1⟩
        · exact h1.elim
      · exact h1.elim
    · rw [if_neg e] at h
      exact subR_look hs.2 h
theorem look_keys {α : Type} : ∀ {l : List (Nat × α)} {m : Nat} {n : α}, look l m = some n → hasN (keys l) m = true
  | [], _, _, h => by simp [look] at h
  | (k, v) :: l, m, n, h => by
    rw [look_cons] at h
    rw [keys, hasN_cons]
    by_cases e : k = m
    · simp [e]
    · rw [if_neg e] at h
      simp [look_keys h]
theorem look_vals : ∀ {l : List (Nat × Nat)} {m n : Nat}, look l m = some n → hasN (vals l) n = true
  | [], _, _, h => by simp [look] at h
  | (k, v) :: l, m, n, h => by
    rw [look_cons] at h
    rw [vals, hasN_cons]
    by_cases e : k = m
    · rw [if_pos e] at h; cases h; simp
    · rw [if_neg e] at h
      simp [look_vals h]
theorem nodup_inj : ∀ {l : List (Nat × Nat)}, nodupN (vals l) = true → ∀ {m m' n : Nat}, look l m = some n → look l m' = some n → m = m'
  | [], _, _, _, _, h, _ => by simp [look] at h
  | (k, v) :: l, hn, m, m', n, h, h' => by
    rw [vals, nodupN, Bool.and_eq_true, Bool.not_eq_true'] at hn
    rw [look_cons] at h h'
    by_cases e : k = m <;> by_cases e' : k = m'
    · exact e.symm.trans e'
    · rw [if_pos e] at h; rw [if_neg e'] at h'
      cases h
      rw [look_vals h'] at hn
      cases hn.1
    · rw [if_neg e] at h; rw [if_pos e'] at h'
      cases h'
      rw [look_vals h] at hn
      cases hn.1
    · rw [if_neg e] at h; rw [if_neg e'] at h'
      exact nodup_inj hn.2 h h'

def viaRen (π : List (Nat × Nat)) (ρ : Ren) : Ren := fun m => (look π m).bind ρ
theorem viaRen_via (π : List (Nat × Nat)) (ρ : Ren) : Via π ρ (viaRen π ρ) := fun m n l h h' => by simp [viaRen, h, h']

/-- Every world and frame that fit the one state fit the other. -/
def Weak (τ : List (Nat × A)) (r : List (Nat × Option Obj)) (us : List Nat) (τ' : List (Nat × A)) (r' : List (Nat × Option Obj)) (us' : List Nat) : Prop :=
  ∀ Γ I ρ w n a, RW Γ I ρ r us w → Slots I ρ n τ a → ∃ I' ρ', RW Γ I' ρ' r' us' w ∧ Slots I' ρ' n τ' a

theorem RW.via {Γ : Ctx} {I : Imm} {ρ : Ren} {r r' : List (Nat × Option Obj)} {us us' : List Nat} {w : World} {π : List (Nat × Nat)} (h : RW Γ I ρ r us w) (hn : nodupN (vals π) = true) (hk : keepN π = true) (hu : keys π = us') (hr : subR π r r') :
    RW Γ I (viaRen π ρ) r' us' w := by
  have hv := viaRen_via π ρ
  refine ⟨h.imm, fun m ob' hm => ?_, fun m m' ob ob' b N N' hm hm' hb hb' => ?_, fun m hm => ?_, h.frame, fun m l hm hl => ?_⟩
  · obtain ⟨n, ob, h1, h2, h3⟩ := subR_look hr hm
    obtain ⟨l, hl, ho⟩ := h.own n ob h2
    refine ⟨l, hv _ _ _ h1 hl, ?_⟩
    cases l with
    | nil =>
      cases ob <;> cases ob' <;> simp_all [Own, Obj.le]
    | blk b N =>
      obtain ⟨o, hb, hh⟩ := ho.blk
      refine ⟨ho.noI, ho.mine, o, hb, ?_⟩
      cases o with
      | cells vs e fz => exact ⟨hh.1, hh.2.1, Obj.le_ok hv h3 hh.2.2.1, hh.2.2.2⟩
      | map es c =>
        obtain ⟨h0, hh⟩ := hh
        cases ob <;> simp only at hh
        · cases ob' <;> simp [Obj.le] at h3
          obtain ⟨rfl, rfl, rfl⟩ := h3
          exact ⟨h0, hh⟩
        · cases ob' <;> simp [Obj.le] at h3
          obtain ⟨rfl, h3⟩ := h3
          exact ⟨h0, hh.1, hh.2.1, hh.2.2.1, (A.leL_both hv _).1 _ _ h3 hh.2.2.2⟩
      | _ => simp [BlkHolds] at hh
  · obtain ⟨n, o1, h1, h2, _⟩ := subR_look hr hm
    obtain ⟨n', o1', h1', h2', _⟩ := subR_look hr hm'
    simp only [viaRen, h1, h1', Option.bind_some] at hb hb'
    have := h.inj n n' o1 o1' b N N' h2 h2' hb hb'
    subst this
    exact nodup_inj hn h1 h1'
  · cases e : look π m with
    | none => simp [viaRen, e]
    | some n =>
      have := look_keys e
      rw [hu, usedN_hasN hm] at this
      cases this
  · cases e : look π m with
    | none => simp [viaRen, e] at hl
    | some n =>
      have := keepN_ok hk e hm
      subst this
      simp only [viaRen, e, Option.bind_some] at hl
      exact h.keep _ _ hm hl

theorem Slots.via {I : Imm} {ρ : Ren} {n : Nat} {τ τ' : List (Nat × A)} {a : Act} {π : List (Nat × Nat)} (h : Slots I ρ n τ a) (ht : subT π τ τ') : Slots I (viaRen π ρ) n τ' a :=
  ⟨h.size, h.defers, fun t y hy => let ⟨x, hx, hle⟩ := subT_look ht hy; ⟨(h.at_ t x hx).1, A.leT_ok (viaRen_via π ρ) hle (h.at_ t x hx).2⟩⟩

/-- With new names: the pairs of new and old ones. -/
theorem Weak.via (π : List (Nat × Nat)) {τ τ' : List (Nat × A)} {r r' : List (Nat × Option Obj)} {us us' : List Nat} (hn : nodupN (vals π) = true) (hk : keepN π = true) (hu : keys π = us') (ht : subT π τ τ') (hr : subR π r r') : Weak τ r us τ' r' us' :=
  fun _ I ρ _ _ _ hR hS => ⟨I, viaRen π ρ, hR.via hn hk hu hr, hS.via ht⟩

theorem W.weak {Γ : Ctx} {P : Program} {Q : Act → World → Prop} {k : List Item} {τ τ' : List (Nat × A)} {r r' : List (Nat × Option Obj)} {us us' : List Nat} (h : Weak τ r us τ' r' us') (hw : W Γ P Q [] k τ' r' us') : W Γ P Q [] k τ r us :=
  ⟨fun a w I ρ hR hS _ => let ⟨I', ρ', hR', hS'⟩ := h Γ I ρ w Γ.n a hR hS; hw.ok a w I' ρ' hR' hS' .nil⟩

structure St where
  τ : List (Nat × A)
  r : List (Nat × Option Obj)
  us : List Nat

/-- A loop, its states told by x. -/
theorem W.loop {Γ : Ctx} {P : Program} {Q : Act → World → Prop} {c : Code} {k : List Item} {τ : List (Nat × A)} {r : List (Nat × Option Obj)} {us : List Nat} {X : Type} (J : X → Prop) (μ : X → Nat) (S : X → St) (x0 : X) (hj : J x0)
    (h0 : Weak τ r us (S x0).τ (S x0).r (S x0).us)
    (h : ∀ x, J x → (∀ x', J x' → μ x' < μ x → W Γ P Q [] (.inLoop c :: k) (S x').τ (S x').r (S x').us) → W Γ P Q [] (.code c :: .inLoop c :: k) (S x).τ (S x).r (S x).us) :
    W Γ P Q [] (.code (.loop c) :: k) τ r us := by
  refine W.weak h0 ?_
  have key : ∀ n x, J x → μ x = n → W Γ P Q [] (.code c :: .inLoop c :: k) (S x).τ (S x).r (S x).us := by
    intro n
    induction n using Nat.strongRecOn with
    | _ n ih =>
      intro x hx hn
      exact h x hx fun x' hx' hlt => ⟨fun a w I ρ hR hS _ => WK.step (fun _ _ => step_inLoop) ((ih (μ x') (hn ▸ hlt) x' hx' rfl).ok a w I ρ hR hS .nil)⟩
  exact ⟨fun a w I ρ hR hS _ => WK.step (fun _ _ => step_loop) ((key _ x0 hj rfl).ok a w I ρ hR hS .nil)⟩

/-- A loop, its next round. -/
theorem W.enter {Γ : Ctx} {P : Program} {Q : Act → World → Prop} {g : List (Nat × Nat × Bool)} {c : Code} {k : List Item} {τ : List (Nat × A)} {r : List (Nat × Option Obj)} {us : List Nat} (h : W Γ P Q [] (.code c :: .inLoop c :: k) τ r us) :
    W Γ P Q g (.code (.loop c) :: k) τ r us :=
  ⟨fun a w I ρ hR hS _ => WK.step (fun _ _ => step_loop) (h.ok a w I ρ hR hS .nil)⟩
theorem W.again {Γ : Ctx} {P : Program} {Q : Act → World → Prop} {g : List (Nat × Nat × Bool)} {c : Code} {k : List Item} {τ : List (Nat × A)} {r : List (Nat × Option Obj)} {us : List Nat} (h : W Γ P Q [] (.code c :: .inLoop c :: k) τ r us) :
    W Γ P Q g (.inLoop c :: k) τ r us :=
  ⟨fun a w I ρ hR hS _ => WK.step (fun _ _ => step_inLoop) (h.ok a w I ρ hR hS .nil)⟩
end VX

/- VX 25: other names; data in which nothing that never changes is pointed at. -/
namespace VX
open Go

mutual
/-- The names of owned objects, changed. -/
def A.ren (f : Nat → Nat) : A → A
  | .own sz id off n => .own sz (f id) off n
  | .owl sz id off n => .owl sz (f id) off n
  | .owk sz id off n K => .owk sz (f id) off n K
  | .ptr id p => .ptr (f id) p
  | .vsl sz id p i n => .vsl sz (f id) p i n
  | .map id => .map (f id)
  | .agg ps => .agg (A.renL f ps)
  | .func fn a c => .func fn (A.renL f a) (A.renL f c)
  | .iface t x => .iface t (A.ren f x)
  | .tup l => .tup (A.renL f l)
  | .int k n => .int k n
  | .bool b => .bool b
  | .str l => .str l
  | .vec sz n g => .vec sz n g
  | .ro sz n g => .ro sz n g
  | .rol sz n g => .rol sz n g
  | .rop x => .rop x
  | .nils => .nils
  | .nilp => .nilp
  | .nilm => .nilm
  | .nilf => .nilf
  | .nili => .nili
  | .any => .any
def A.renL (f : Nat → Nat) : List A → List A
  | [] => []
  | x :: xs => A.ren f x :: A.renL f xs
end
def Obj.ren (f : Nat → Nat) : Obj → Obj
  | .var x => .var (x.ren f)
  | .arr sz n g => .arr sz n g
  | .smap z ks g => .smap z ks g
  | .pmap ks xs => .pmap ks (A.renL f xs)

mutual
/-- Nothing that never changes is pointed at. -/
def A.flat : A → Prop
  | .ro .. | .rol .. | .rop _ => False
  | .vec _ n g => ∀ i, i < n → (g i).flat
  | .agg ps => A.flatL ps
  | .func _ a c => A.flatL a ∧ A.flatL c
  | .iface _ x => x.flat
  | .tup l => A.flatL l
  | _ => True
def A.flatL : List A → Prop
  | [] => True
  | x :: xs => x.flat ∧ A.flatL xs
end
def Obj.flat : Obj → Prop
  | .var x => x.flat
  | .arr _ n g => ∀ i, i < n → (g i).flat
  | .smap _ ks g => ∀ s, s ∈ ks → (g s).flat
  | .pmap _ xs => A.flatL xs

section
variable {I I' : Imm} {ρ ρ' : Ren} {f : Nat → Nat}

mutual
theorem A.ren_size : ∀ (x : A), (x.ren f).size = x.size ∧ isAgg (x.ren f) = isAgg x ∧ (x.wf → (x.ren f).wf)
  | .agg ps => by
    have := A.ren_sizeL ps
    exact ⟨by simp [A.ren, A.size, this.1], rfl, this.2⟩
  | .vec .. => ⟨rfl, rfl, fun h => h⟩
  | .int .. | .bool _ | .str _ | .ro .. | .rol .. | .own .. | .owl .. | .owk .. | .ptr .. | .vsl .. | .rop _ | .nils | .nilp | .nilm | .nilf | .nili | .map _ | .func .. | .iface .. | .tup _ | .any => ⟨rfl, rfl, fun h => trivial⟩
theorem A.ren_sizeL : ∀ (x : List A), A.sizeL (A.renL f x) = A.sizeL x ∧ (A.wfL x → A.wfL (A.renL f x))
  | [] => ⟨rfl, fun h => h⟩
  | x :: xs => by
    have h1 := A.ren_size x
    have h2 := A.ren_sizeL xs
    exact ⟨by simp [A.renL, A.sizeL, h1.1, h2.1], fun h => ⟨h1.2.2 h.1, h2.2 h.2⟩⟩
end

def RenOK (I : Imm) (ρ ρ' : Ren) (f : Nat → Nat) (x : A) : Prop :=
  (∀ v, R I ρ x v → R I ρ' (x.ren f) v) ∧ (∀ vs, x.wf → RL I ρ x.cells vs → RL I ρ' (x.ren f).cells vs)
theorem RenOK.one {x : A} (hx : isAgg x = false) (h : ∀ v, R I ρ x v → R I ρ' (x.ren f) v) : RenOK I ρ ρ' f x := by
  refine ⟨h, fun vs hw hr => ?_⟩
  rw [cells_of_one hx] at hr
  obtain ⟨v, rfl, hv⟩ := hr.one_inv
  rw [cells_of_one ((A.ren_size x).2.1.trans hx)]
  exact .cons (h v hv) .nil
theorem RenOK.agg {x : A} (hx : isAgg x = true) (h : ∀ vs, x.wf → RL I ρ x.cells vs → RL I ρ' (x.ren f).cells vs) : RenOK I ρ ρ' f x := by
  refine ⟨fun v hr => ?_, h⟩
  obtain ⟨vs, rfl, hw, hr⟩ := hr.agg_inv hx
  exact .agg ((A.ren_size x).2.1.trans hx) ((A.ren_size x).2.2 hw) (h vs hw hr)

mutual
theorem A.ren_both (hv : ∀ n l, ρ n = some l → ρ' (f n) = some l) : ∀ (x : A), RenOK I ρ ρ' f x
  | .vec .. => .agg rfl fun vs hw hr => hr.pure (cells_pureP hw (by simp only [A.pureP]; exact fun i hi => (hw i hi).2.2))
  | .agg ps => .agg rfl fun vs hw hr => (A.ren_bothL hv ps).2 vs hw hr
  | .int .. => .one rfl fun v hr => by cases hr.int_inv; exact .int
  | .bool _ => .one rfl fun v hr => by cases hr.bool_inv; exact .bool
  | .str _ => .one rfl fun v hr => by cases hr.str_inv; exact .str
  | .ro .. => .one rfl fun v hr => hr.pure trivial
  | .rol .. => .one rfl fun v hr => hr.pure trivial
  | .rop _ => .one rfl fun v hr => hr.pure trivial
  | .nils => .one rfl fun v hr => hr.pure trivial
  | .nilp => .one rfl fun v hr => hr.pure trivial
  | .nilm => .one rfl fun v hr => hr.pure trivial
  | .nilf => .one rfl fun v hr => hr.pure trivial
  | .nili => .one rfl fun v hr => hr.pure trivial
  | .any => .one rfl fun v hr => .any
  | .own .. => .one rfl fun v hr => by
    cases hr with
    | agg hr _ _ => cases hr
    | own a b c => exact .own (hv _ _ a) b c
    | own0 => exact .own0
  | .owl .. => .one rfl fun v hr => by
    cases hr with
    | agg hr _ _ => cases hr
    | owl a b => exact .owl (hv _ _ a) b
    | owl0 => exact .owl0
  | .owk .. => .one rfl fun v hr => by
    cases hr with
    | agg hr _ _ => cases hr
    | owk a b c d => exact .owk (hv _ _ a) b c d
    | owk0 => exact .owk0
  | .vsl .. => .one rfl fun v hr => by
    cases hr with
    | agg hr _ _ => cases hr
    | vsl a b c => exact .vsl (hv _ _ a) b c
    | vsl0 => exact .vsl0
  | .ptr .. => .one rfl fun v hr => by
    cases hr with
    | agg hr _ _ => cases hr
    | ptr a => exact .ptr (hv _ _ a)
  | .map _ => .one rfl fun v hr => by
    obtain ⟨b, rfl, hb⟩ := hr.map_inv
    exact .map (hv _ _ hb)
  | .func fn a c => .one rfl fun v hr => by
    obtain ⟨fs, cs, rfl, h1, h2⟩ := hr.func_inv
    exact .func ((A.ren_bothL hv a).1 _ h1) ((A.ren_bothL hv c).1 _ h2)
  | .iface t x => .one rfl fun v hr => by
    obtain ⟨u, rfl, h1⟩ := hr.iface_inv
    exact .iface ((A.ren_both hv x).1 _ h1)
  | .tup l => .one rfl fun v hr => by
    obtain ⟨vs, rfl, h1⟩ := hr.tup_inv
    exact .tup ((A.ren_bothL hv l).1 _ h1)
theorem A.ren_bothL (hv : ∀ n l, ρ n = some l → ρ' (f n) = some l) : ∀ (x : List A), (∀ vs, RL I ρ x vs → RL I ρ' (A.renL f x) vs) ∧ (∀ vs, A.wfL x → RL I ρ (A.cellsL x) vs → RL I ρ' (A.cellsL (A.renL f x)) vs)
  | [] => ⟨fun vs h => by cases h; exact .nil, fun vs _ h => by
    simp only [A.cellsL] at h
    cases h; exact RL.nil⟩
  | x :: xs => by
    refine ⟨fun vs h => ?_, fun vs hw hr => ?_⟩
    · cases h with
      | cons a b => exact .cons ((A.ren_both hv x).1 _ a) ((A.ren_bothL hv xs).1 _ b)
    · obtain ⟨k1, k2⟩ := RL.split (xs := x.cells) (ys := A.cellsL xs) hr
      have e := RL.append ((A.ren_both hv x).2 _ hw.1 k1) ((A.ren_bothL hv xs).2 _ hw.2 k2)
      rw [List.take_append_drop] at e
      exact e
end

theorem Obj.ren_ok (hv : ∀ n l, ρ n = some l → ρ' (f n) = some l) : ∀ {ob : Obj} {vs : List Value}, HoldsC I ρ ob vs → HoldsC I ρ' (ob.ren f) vs
  | .var x, vs, h => ⟨(A.ren_size x).2.2 h.1, (A.ren_both hv x).2 _ h.1 h.2⟩
  | .arr .., vs, h => h
  | .smap .., vs, h => h
  | .pmap .., vs, h => h

/-! ### flat data -/
def FlatOK (I I' : Imm) (ρ : Ren) (x : A) : Prop :=
  (∀ v, x.flat → R I ρ x v → R I' ρ x v) ∧ (∀ vs, x.flat → x.wf → RL I ρ x.cells vs → RL I' ρ x.cells vs)
theorem FlatOK.one {x : A} (hx : isAgg x = false) (h : ∀ v, x.flat → R I ρ x v → R I' ρ x v) : FlatOK I I' ρ x := by
  refine ⟨h, fun vs hf hw hr => ?_⟩
  rw [cells_of_one hx] at hr ⊢
  obtain ⟨v, rfl, hv⟩ := hr.one_inv
  exact .cons (h v hf hv) .nil
theorem FlatOK.agg {x : A} (hx : isAgg x = true) (h : ∀ vs, x.flat → x.wf → RL I ρ x.cells vs → RL I' ρ x.cells vs) : FlatOK I I' ρ x := by
  refine ⟨fun v hf hr => ?_, h⟩
  obtain ⟨vs, rfl, hw, hr⟩ := hr.agg_inv hx
  exact .agg hx hw (h vs hf hw hr)

theorem RL.flatMap {g : Nat → A} : ∀ (l : List Nat) {vs : List Value}, (∀ i ∈ l, ∀ vs, RL I ρ (g i).cells vs → RL I' ρ (g i).cells vs) → RL I ρ (l.flatMap fun i => (g i).cells) vs → RL I' ρ (l.flatMap fun i => (g i).cells) vs
  | [], vs, _, h => by
    simp only [List.flatMap_nil] at h ⊢
    cases h; exact .nil
  | i :: l, vs, hg, h => by
    rw [List.flatMap_cons] at h ⊢
    obtain ⟨k1, k2⟩ := RL.split h
    have e := RL.append (hg i List.mem_cons_self _ k1) (RL.flatMap l (fun j hj => hg j (List.mem_cons_of_mem _ hj)) k2)
    rw [List.take_append_drop] at e
    exact e

mutual
theorem A.flat_both : ∀ (x : A), FlatOK I I' ρ x
  | .vec sz n g => .agg rfl fun vs hf hw hr => by
    simp only [A.flat] at hf
    simp only [A.cells] at hr ⊢
    exact RL.flatMap (List.range n) (fun i hi vs h => (A.flat_both (g i)).2 vs (hf i (List.mem_range.1 hi)) (hw i (List.mem_range.1 hi)).1 h) hr
  | .agg ps => .agg rfl fun vs hf hw hr => (A.flat_bothL ps).2 vs hf hw hr
  | .int .. => .one rfl fun v _ hr => by cases hr.int_inv; exact .int
  | .bool _ => .one rfl fun v _ hr => by cases hr.bool_inv; exact .bool
  | .str _ => .one rfl fun v _ hr => by cases hr.str_inv; exact .str
  | .ro .. => .one rfl fun v h hr => by simp [A.flat] at h
  | .rol .. => .one rfl fun v h hr => by simp [A.flat] at h
  | .rop _ => .one rfl fun v h hr => by simp [A.flat] at h
  | .nils => .one rfl fun v _ hr => by cases hr.nils_inv; exact .nils
  | .nilp => .one rfl fun v _ hr => by cases hr.nilp_inv; exact .nilp
  | .nilm => .one rfl fun v _ hr => by cases hr.nilm_inv; exact .nilm
  | .nilf => .one rfl fun v _ hr => by cases hr.nilf_inv; exact .nilf
  | .nili => .one rfl fun v _ hr => by cases hr.nili_inv; exact .nili
  | .any => .one rfl fun v _ hr => .any
  | .own .. => .one rfl fun v _ hr => by
    cases hr with
    | agg hr _ _ => cases hr
    | own a b c => exact .own a b c
    | own0 => exact .own0
  | .owl .. => .one rfl fun v _ hr => by
    cases hr with
    | agg hr _ _ => cases hr
    | owl a b => exact .owl a b
    | owl0 => exact .owl0
  | .owk .. => .one rfl fun v _ hr => by
    cases hr with
    | agg hr _ _ => cases hr
    | owk a b c d => exact .owk a b c d
    | owk0 => exact .owk0
  | .vsl .. => .one rfl fun v _ hr => by
    cases hr with
    | agg hr _ _ => cases hr
    | vsl a b c => exact .vsl a b c
    | vsl0 => exact .vsl0
  | .ptr .. => .one rfl fun v _ hr => by
    cases hr with
    | agg hr _ _ => cases hr
    | ptr a => exact .ptr a
  | .map _ => .one rfl fun v _ hr => by
    obtain ⟨b, rfl, hb⟩ := hr.map_inv
    exact .map hb
  | .func fn a c => .one rfl fun v hf hr => by
    obtain ⟨fs, cs, rfl, h1, h2⟩ := hr.func_inv
    simp only [A.flat] at hf
    exact .func ((A.flat_bothL a).1 _ hf.1 h1) ((A.flat_bothL c).1 _ hf.2 h2)
  | .iface t x => .one rfl fun v hf hr => by
    obtain ⟨u, rfl, h1⟩ := hr.iface_inv
    simp only [A.flat] at hf
    exact .iface ((A.flat_both x).1 _ hf h1)
  | .tup l => .one rfl fun v hf hr => by
    obtain ⟨vs, rfl, h1⟩ := hr.tup_inv
    simp only [A.flat] at hf
    exact .tup ((A.flat_bothL l).1 _ hf h1)
theorem A.flat_bothL : ∀ (x : List A), (∀ vs, A.flatL x → RL I ρ x vs → RL I' ρ x vs) ∧ (∀ vs, A.flatL x → A.wfL x → RL I ρ (A.cellsL x) vs → RL I' ρ (A.cellsL x) vs)
  | [] => ⟨fun vs _ h => by cases h; exact .nil, fun vs _ _ h => by
    simp only [A.cellsL] at h ⊢
    cases h; exact RL.nil⟩
  | x :: xs => by
    refine ⟨fun vs hf h => ?_, fun vs hf hw hr => ?_⟩
    · cases h with
      | cons a b => exact .cons ((A.flat_both x).1 _ hf.1 a) ((A.flat_bothL xs).1 _ hf.2 b)
    · obtain ⟨k1, k2⟩ := RL.split (xs := x.cells) (ys := A.cellsL xs) hr
      have e := RL.append ((A.flat_both x).2 _ hf.1 hw.1 k1) ((A.flat_bothL xs).2 _ hf.2 hw.2 k2)
      rw [List.take_append_drop] at e
      exact e
end

theorem Obj.flat_ok : ∀ {ob : Obj} {vs : List Value}, ob.flat → HoldsC I ρ ob vs → HoldsC I' ρ ob vs
  | .var x, vs, hf, h => ⟨h.1, (A.flat_both x).2 _ hf h.1 h.2⟩
  | .arr _ n g, vs, hf, h => ⟨h.1, h.2.1, fun i hi => (A.flat_both (g i)).2 _ (hf i hi) (h.2.1 i hi).1 (h.2.2 i hi)⟩
  | .smap .., vs, hf, h => h
  | .pmap .., vs, hf, h => h
end
end VX

/- VX 26: what is said of a function; its begin and its end. -/
namespace VX
open Go

/-- The blocks of what is handed over. -/
def Fp (ρ : Ren) (us : List Nat) (b : Nat) : Prop := ∃ n N, hasN us n = true ∧ ρ n = some (.blk b N)
def nOf (P : Program) (f : FuncId) : Nat := match P.funcs[f]? with | some fn => fn.ntmps | none => 0
def entry (w : World) (I : Imm) (ρ : Ren) (us : List Nat) (n : Nat) : Ctx := ⟨w, I, Fp ρ us, n, ρ⟩

/-- What a call comes back with. -/
def Back (Γ : Ctx) (us : List Nat) (Y : A → List (Nat × Option Obj) → Prop) (v : Value) (w : World) : Prop :=
  ∃ y r I ρ, Y y r ∧ R I ρ y v ∧ RW Γ I ρ r us w

/-- The function f, called with xs while r is owned, comes back; with what, Y tells; new: the names of what it makes. -/
def Does (P : Program) (f : FuncId) (xs : List A) (r : List (Nat × Option Obj)) (new : List Nat) (Y : A → List (Nat × Option Obj) → Prop) : Prop :=
  ∀ I ρ w args, RL I ρ xs args → RW (entry w I ρ (keys r) (nOf P f)) I ρ r (keys r) w →
    Calls P f args.toArray w fun
      | .returned v, w' => Back (entry w I ρ (keys r) (nOf P f)) (new ++ keys r) Y v w'
      | _, _ => False

/-- At the end of the function. -/
def Ret (Γ : Ctx) (P : Program) (fn : Func) (us : List Nat) (Y : A → List (Nat × Option Obj) → Prop) (a : Act) (w : World) : Prop :=
  a.defers = [] ∧ ∃ v, (results fn a.tmps).run P w = .ok v w ∧ Back Γ us Y v w

def slots : Nat → List A → List (Nat × A)
  | _, [] => []
  | k, x :: xs => (k, x) :: slots (k + 1) xs

theorem slots_look : ∀ {xs : List A} {k t : Nat} {x : A}, look (slots k xs) t = some x → k ≤ t ∧ xs[t - k]? = some x
  | [], k, t, x, h => by simp [slots, look] at h
  | y :: ys, k, t, x, h => by
    rw [slots, look_cons] at h
    by_cases e : k = t
    · subst e
      simp only [if_true, Option.some.injEq] at h
      subst h
      simp
    · rw [if_neg e] at h
      obtain ⟨h1, h2⟩ := slots_look h
      refine ⟨by omega, ?_⟩
      rw [show t - k = (t - (k + 1)) + 1 by omega]
      simpa using h2

theorem calls_of_WK {P : Program} {f : FuncId} {fn : Func} {c : Code} {args : Array Value} {w : World} {R : Ending → World → Prop} (hf : P.funcs[f]? = some fn) (hb : fn.body = some c)
    (h : WK P (fun a w => a.defers = [] ∧ ∃ v, (results fn a.tmps).run P w = .ok v w ∧ R (.returned v) w) [.code c] { tmps := args ++ Array.replicate (fn.ntmps - args.size) undef, defers := [] } w) :
    Calls P f args w R := by
  intro cs
  let b : Frame := { (default : Frame) with fn := f, kind := .normal }
  have henter : Frame.enter P f args .normal =
      b.at { tmps := args ++ Array.replicate (fn.ntmps - args.size) undef, defers := [] } [.code c] := by
    simp [Frame.enter, Frame.at, hf, hb, b]
  obtain ⟨a', w', todo, ⟨hd, v, hr, hR⟩, hs⟩ := h b cs
  rw [← henter] at hs
  exact ⟨.returned v, w', _, hR, hs, rfl, rfl, hd, rfl, fn, hf, hr⟩

theorem Does.intro {P : Program} {f : FuncId} {fn : Func} {c : Code} {xs : List A} {r : List (Nat × Option Obj)} {new : List Nat} {Y : A → List (Nat × Option Obj) → Prop} (hf : P.funcs[f]? = some fn) (hb : fn.body = some c)
    (hn : Nat.ble xs.length fn.ntmps = true) (h : ∀ Γ : Ctx, fn.ntmps = Γ.n → W Γ P (Ret Γ P fn (new ++ keys r) Y) [] [.code c] (slots 0 xs) r (keys r)) : Does P f xs r new Y := by
  intro I ρ w args ha hR
  refine calls_of_WK hf hb ?_
  have hnn : fn.ntmps = nOf P f := by simp [nOf, hf]
  have hl := ha.length
  have hn := Nat.le_of_ble_eq_true hn
  refine (h (entry w I ρ (keys r) (nOf P f)) hnn).ok _ w I ρ hR ⟨?_, rfl, fun t x hx => ?_⟩ .nil
  · simp
    show args.length + (fn.ntmps - args.length) = nOf P f
    omega
  · obtain ⟨_, hx⟩ := slots_look hx
    obtain ⟨v, hv, hr⟩ := ha.get hx
    rw [Nat.sub_zero] at hv
    have hlt : t < args.length := by
      rcases Nat.lt_or_ge t args.length with h | h
      · exact h
      · rw [List.getElem?_eq_none h] at hv; cases hv
    refine ⟨?_, ?_⟩
    · show t < nOf P f
      omega
    · have : (args.toArray ++ Array.replicate (fn.ntmps - args.toArray.size) undef).getD t undef = v := by
        rw [Array.getD_eq_getD_getElem?, Array.getElem?_append_left (by simpa using hlt)]
        simp [hv]
      rw [this]
      exact hr

def resVal (T : Tab) (τ : List (Nat × A)) (r : List (Nat × Option Obj)) : ResultVar → Option (A × List Prop)
  | .tmp t => match look τ t with
    | some x => some (x, [])
    | none => none
  | .cell a t => match look τ a with
    | some x => (match looks r (idOf x) with
      | some obs => (match pLoad T t obs [x] with
        | some ⟨c, v, _, _⟩ => some (v, c)
        | none => none)
      | none => none)
    | none => none
def resVals (T : Tab) (τ : List (Nat × A)) (r : List (Nat × Option Obj)) : List ResultVar → Option (List A × List Prop)
  | [] => some ([], [])
  | x :: xs => match resVal T τ r x with
    | some (y, c) => (match resVals T τ r xs with
      | some (ys, c') => some (y :: ys, c ++ c')
      | none => none)
    | none => none
def oneOr : List A → A
  | [x] => x
  | l => .tup l

section
variable {P : Program} {T : Tab} {Γ : Ctx} {I : Imm} {ρ : Ren} {r : List (Nat × Option Obj)} {us : List Nat} {w : World}

theorem load_same {t : Nat} {obs : List Obj} {xs : List A} {out : Out} (h : pLoad T t obs xs = some out) : out.w = [] ∧ out.al = false := by
  unfold pLoad at h
  split at h <;> (try (cases h; done))
  split at h <;> (try (cases h; done))
  generalize knownD _ = q at h
  cases q <;> (try (cases h; done))
  simp only [cond_true] at h
  split at h <;> (try (cases h; done))
  · simp only [Option.some.injEq] at h; subst h; exact ⟨rfl, rfl⟩
  · split at h <;> (try (cases h; done))
    split at h <;> (try (cases h; done))
    simp only [Option.some.injEq] at h; subst h; exact ⟨rfl, rfl⟩

/-- The loads of the end change nothing. -/
theorem loadAt_pure {t : Nat} {x v : Value} {w' : World} (h : (Instr.loadAt t x).run P w = .ok v w') : ∃ a, x = .pointer (some a) ∧ (loadVar t a).run P w = .ok v w' := by
  unfold Instr.loadAt at h
  rw [Sem.run_bind] at h
  cases x with
  | pointer a =>
    cases a with
    | none => simp [Instr.sureAddr, stuck, Result.andThen] at h
    | some a => exact ⟨a, rfl, by simpa [Instr.sureAddr, Result.andThen_ok] using h⟩
  | _ => simp [Instr.sureAddr, stuck, Result.andThen] at h

def resRun (tmps : Array Value) : ResultVar → Sem Value
  | .tmp t => pure (tmps.getD t undef)
  | .cell a t => do loadVar t (← asAddr (tmps.getD a undef))

theorem resVal_ok (hT : TabOK P T.l) {n : Nat} {τ : List (Nat × A)} {a : Act} (hS : Slots I ρ n τ a) (hR : RW Γ I ρ r us w) {x : ResultVar} {y : A} {c : List Prop} (h : resVal T τ r x = some (y, c)) (hc : allP c) :
    ∃ v ρ', (resRun a.tmps x).run P w = .ok v w ∧ ρ.le ρ' ∧ RW Γ I ρ' r us w ∧ R I ρ' y v := by
  unfold resVal at h
  split at h
  · split at h
    · rename_i hx
      simp only [Option.some.injEq, Prod.mk.injEq] at h
      obtain ⟨rfl, rfl⟩ := h
      exact ⟨_, ρ, rfl, Ren.le.refl _, hR, (hS.at_ _ _ hx).2⟩
    · cases h
  · split at h
    · rename_i x hx
      split at h
      · rename_i obs hobs
        split at h
        · rename_i c' v' w' al hl
          simp only [Option.some.injEq, Prod.mk.injEq] at h
          obtain ⟨rfl, rfl⟩ := h
          have hxr := (hS.at_ _ _ hx).2
          have hsame := load_same hl
          simp only at hsame
          obtain ⟨rfl, rfl⟩ := hsame
          obtain ⟨x', hx', v, hrun, hd⟩ := load_ok (P := P) (nm := 0) hT hl hR (.cons hxr .nil) (by simpa [idsOf] using hobs) hc
          simp only [List.cons.injEq, and_true] at hx'
          subst hx'
          obtain ⟨ad, hx', hlv⟩ := loadAt_pure hrun
          obtain ⟨nx, v1, w1, ρ1, he, hv1, hle, hR1, hr1⟩ := hd.ex
          cases he
          simp only [nxV, Option.some.injEq] at hv1
          subst hv1
          exact ⟨v, ρ1, by simpa [resRun, hx', asAddr, Sem.run_bind] using hlv, hle, hR1, hr1⟩
        · cases h
      · cases h
    · cases h

theorem resVals_ok (hT : TabOK P T.l) {n : Nat} {τ : List (Nat × A)} {a : Act} : ∀ (xs : List ResultVar) {ρ : Ren} {ys : List A} {c : List Prop}, Slots I ρ n τ a → RW Γ I ρ r us w → resVals T τ r xs = some (ys, c) → allP c →
    ∃ vs ρ', (xs.mapM (resRun a.tmps)).run P w = .ok vs w ∧ ρ.le ρ' ∧ RW Γ I ρ' r us w ∧ RL I ρ' ys vs
  | [], ρ, ys, c, hS, hR, h, hc => by
    simp only [resVals, Option.some.injEq, Prod.mk.injEq] at h
    obtain ⟨rfl, rfl⟩ := h
    exact ⟨[], ρ, by simp, Ren.le.refl _, hR, .nil⟩
  | x :: xs, ρ, ys, c, hS, hR, h, hc => by
    unfold resVals at h
    split at h
    · rename_i y c1 h1
      split at h
      · rename_i ys' c2 h2
        simp only [Option.some.injEq, Prod.mk.injEq] at h
        obtain ⟨rfl, rfl⟩ := h
        obtain ⟨hc1, hc2⟩ := allP_append.1 hc
        obtain ⟨v, ρ1, hr1, hle1, hR1, hv1⟩ := resVal_ok hT hS hR h1 hc1
        obtain ⟨vs, ρ2, hr2, hle2, hR2, hv2⟩ := resVals_ok hT xs (hS.mono (Imm.le.refl I) hle1) hR1 h2 hc2
        exact ⟨v :: vs, ρ2, by simp [List.mapM_cons, Sem.run_bind, hr1, hr2], hle1.trans hle2, hR2, .cons (hv1.mono (Imm.le.refl I) hle2) hv2⟩
      · cases h
    · cases h

theorem results_eq (fn : Func) (tmps : Array Value) : results fn tmps = (do
    let vs ← fn.results.mapM (resRun tmps)
    pure (if h : vs.size = 1 then vs[0] else .tuple vs)) := by
  unfold results
  congr 1

theorem results_ok (hT : TabOK P T.l) {n : Nat} {τ : List (Nat × A)} {a : Act} {fn : Func} {ys : List A} {c : List Prop} (hS : Slots I ρ n τ a) (hR : RW Γ I ρ r us w) (h : resVals T τ r fn.results.toList = some (ys, c)) (hc : allP c) :
    ∃ v ρ', (results fn a.tmps).run P w = .ok v w ∧ ρ.le ρ' ∧ RW Γ I ρ' r us w ∧ R I ρ' (oneOr ys) v := by
  obtain ⟨vs, ρ', hr, hle, hR', hv⟩ := resVals_ok hT _ hS hR h hc
  have hl := hv.length
  have hrun : (fn.results.mapM (resRun a.tmps)).run P w = .ok vs.toArray w := by
    rw [Array.mapM_eq_mapM_toList]
    simp [hr]
  rw [results_eq]
  simp only [Sem.run_bind, hrun, Result.andThen_ok, Sem.run_pure]
  cases hv with
  | nil => exact ⟨_, ρ', rfl, hle, hR', .tup .nil⟩
  | cons a1 b =>
    cases b with
    | nil => exact ⟨_, ρ', rfl, hle, hR', a1⟩
    | cons a2 b =>
      refine ⟨_, ρ', rfl, hle, hR', ?_⟩
      simp only [List.size_toArray, List.length_cons, oneOr]
      rw [dif_neg (by omega)]
      exact .tup (.cons a1 (.cons a2 b))

/-- The end; π: the pairs of told and present names. -/
theorem W.ret (hT : TabOK P T.l) (π : List (Nat × Nat)) {fn : Func} {us' : List Nat} {Y : A → List (Nat × Option Obj) → Prop} {g : List (Nat × Nat × Bool)} {k : List Item} {τ : List (Nat × A)} (hk : k = [] ∨ ∃ k', k = .code .ret :: k') {ys : List A} {c : List Prop}
    (hres : resVals T τ r fn.results.toList = some (ys, c)) (hc : allP c) {y : A} {r' : List (Nat × Option Obj)} (hY : Y y r') (hle : A.leT π (oneOr ys) y) (hsub : subR π r r') (hn : nodupN (vals π) = true) (hkp : keepN π = true) (hus : keys π = us') :
    W Γ P (Ret Γ P fn us' Y) g k τ r us := by
  refine ⟨fun a w I ρ hR hS _ b cs => ?_⟩
  obtain ⟨v, ρ', hrun, hle', hR', hv⟩ := results_ok hT hS hR hres hc
  refine ⟨a, w, k, ⟨hS.defers, v, hrun, y, r', I, viaRen π ρ', hY, A.leT_ok (viaRen_via π ρ') hle hv, hR'.via hn hkp hus hsub⟩, ?_⟩
  rcases hk with rfl | ⟨k', rfl⟩
  · exact .one step_end
  · exact .one step_ret

/-- What is to be shown at a return; π: the pairs of told and present names. -/
structure AtRet (T : Tab) (fn : Func) (us' : List Nat) (Y : A → List (Nat × Option Obj) → Prop) (τ : List (Nat × A)) (r : List (Nat × Option Obj)) (π : List (Nat × Nat)) (ys : List A) (c : List Prop) (y : A) (r' : List (Nat × Option Obj)) : Prop where
  hres : resVals T τ r fn.results.toList = some (ys, c)
  hn : nodupN (vals π) = true
  hk : keepN π = true
  hus : keys π = us'
  hY : Y y r'
  hc : allP c
  hle : A.leT π (oneOr ys) y
  hsub : subR π r r'
theorem W.atRet (hT : TabOK P T.l) {fn : Func} {us' : List Nat} {Y : A → List (Nat × Option Obj) → Prop} {g : List (Nat × Nat × Bool)} {k : List Item} {τ : List (Nat × A)} {π : List (Nat × Nat)} {ys : List A} {c : List Prop} {y : A} {r' : List (Nat × Option Obj)}
    (h : AtRet T fn us' Y τ r π ys c y r') : W Γ P (Ret Γ P fn us' Y) g (.code .ret :: k) τ r us :=
  W.ret hT π (.inr ⟨k, rfl⟩) h.hres h.hc h.hY h.hle h.hsub h.hn h.hk h.hus
theorem W.atEnd (hT : TabOK P T.l) {fn : Func} {us' : List Nat} {Y : A → List (Nat × Option Obj) → Prop} {g : List (Nat × Nat × Bool)} {τ : List (Nat × A)} {π : List (Nat × Nat)} {ys : List A} {c : List Prop} {y : A} {r' : List (Nat × Option Obj)}
    (h : AtRet T fn us' Y τ r π ys c y r') : W Γ P (Ret Γ P fn us' Y) g [] τ r us :=
  W.ret hT π (.inl rfl) h.hres h.hc h.hY h.hle h.hsub h.hn h.hk h.hus
end
end VX

