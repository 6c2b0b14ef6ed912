/- A symbolic executor for the model's code, and its soundness (part 9 of 9): a general tool, no statement about this program. -/
import Derived.Test.YtcolghonbncpnaaVxH
set_option linter.unusedSimpArgs false
set_option linter.unusedVariables false
/- VX 42: clear; slices that keep their places in mind; calls of methods through interfaces. -/
namespace VX
open Go

section
variable {Γ : Ctx} {P : Program} {T : Tab} {Q : Act → World → Prop}
theorem zeroCells_eq {z : Array Value} (n : Nat) : (Builtin.zeroCells z n).toList = (List.replicate n z.toList).flatten := noughts_eq n

/-- A slice of an owned array is cleared. -/
theorem W.clear (hT : TabOK P T.l) {nt : Nat} (hnt : nt = Γ.n) {ops : Array Oper} {i : Nat} {l : List Nat} {k : List Item} {o : Oper} (ho : ops.toList[i]? = some o) {g : List (Nat × Nat × Bool)} (hd : dstOk nt g o.dst = true) (hg : guardOf o g = some true)
    {τ : List (Nat × A)} {r : List (Nat × Option VX.Obj)} {us : List Nat} {c : Call} (hop : o.op = .call c) (hcal : c.callee = .builtin .clear) {x : Operand} (hargs : c.args = #[x]) {t : Nat} (hts : c.argTypes = #[t])
    {se id off n : Nat} (hx : ev τ x = some (.own se id off n)) {e : Nat} (ht : T.d t = .slice e) {d : TD} {be : Nat} {z : A} {q : Bool} (hti : nth T.l e = some ⟨d, se, be, z, q⟩) {m : Nat} {G : Nat → A} (hr : look r id = some (some (.arr se m G)))
    (hc : z.sureP ∧ off + n ≤ m)
    (h : W Γ P Q g (.inRegion ops l :: k) (putO o.dst (.tup []) τ) ((id, some (.arr se m (spliceF G off n fun _ => z))) :: r) us) : W Γ P Q g (.inRegion ops (i :: l) :: k) τ r us := by
  refine W.opR hnt ho hd hg (fun a w I ρ hR hS => ?_) h
  have hv := ev_ok hS hx
  obtain ⟨dst, op, ty, pos, aft, gd⟩ := o
  simp only at hop
  subst hop
  obtain ⟨callee, args, argTypes⟩ := c
  simp only at hcal hargs hts
  subst hcal hargs hts
  have hu := Tab.slice hT ht
  obtain ⟨_, ⟨ie, hie, hse, hbe, hz⟩, _, _⟩ := hT e _ hti
  simp only at hse hbe hz
  obtain ⟨zv, hzv, hzR, hzz, hzp⟩ := hz hc.1
  obtain ⟨hzc, hz1⟩ := (hzR I nr).cells hc.1
  have hE := elems_const hzR hc.1 hzp hzz n (I := I)
  generalize hxv : a.eval x = v at hv
  have hex : (execOp a.eval ⟨dst, .call ⟨.builtin .clear, #[x], #[t]⟩, ty, pos, aft, gd⟩).run P w = (do let v ← Builtin.clear_ #[t] ty #[v]; pure (Next.value v) : Sem Next).run P w := by
    simp [execOp, resolve, invoke, builtin, hxv]
  rw [hex]
  by_cases h0 : n = 0
  · subst h0
    have hclr : (Builtin.clear_ #[t] ty #[v]).run P w = .ok (.tuple #[]) w := by
      have hv' : ∃ a c, v = .slice a 0 c := by
        cases hv with
        | agg h1 _ _ => cases h1
        | own => exact ⟨_, _, rfl⟩
        | own0 => exact ⟨_, _, rfl⟩
      obtain ⟨a', c', rfl⟩ := hv'
      cases a' <;> simp [Builtin.clear_, run_underlying hu]
    refine ⟨.tuple #[], w, ρ, ?_, Ren.le.refl ρ, ?_, .tup .nil⟩
    · simp only [Sem.run_bind, hclr, Result.andThen_ok, Sem.run_pure]
    · rw [spliceF_none]
      refine hR.congr fun q => ?_
      rw [look_cons]
      by_cases e : id = q
      · subst e; rw [if_pos rfl, hr]
      · rw [if_neg e]
  · cases hv with
    | agg h1 _ _ => cases h1
    | own0 => exact absurd rfl h0
    | own hb hn hN =>
      rename_i b N c'
      obtain ⟨vs, e', fz, hh', hNs, hfz, hH, h1⟩ := hR.cells hr hb (by rintro z ks g ⟨⟩)
      have hkN := hH.1
      have hEl := hE.len
      have l1 : off * se + n * se ≤ m * se := by
        rw [← Nat.add_mul]; exact Nat.mul_le_mul_right _ (by omega)
      have hrun := run_storeCells (P := P) (o := off * se) hh' (news := (List.replicate n zv.cells.toList).flatten) (by rw [hEl]; simp only [Array.length_toList] at hkN; omega) (by rw [hNs]; exact hfz) hE.one
      have hclr : (Builtin.clear_ #[t] ty #[.slice (some ⟨b, off * se, none⟩) n c']).run P w = .ok (.tuple #[]) (setBlk w b (.cells (spliceL vs.toList (off * se) (List.replicate n zv.cells.toList).flatten).toArray e' fz)) := by
        have hne : n ≠ 0 := h0
        obtain ⟨n', rfl⟩ : ∃ n', n = n' + 1 := ⟨n - 1, by omega⟩
        simp only [Builtin.clear_, List.getElem?_toArray, List.getElem?_cons_zero, run_underlying hu, Sem.run_bind, Result.andThen_ok, zeroValue_run hie hzv, zeroCells_eq, hrun, Sem.run_pure]
      refine ⟨.tuple #[], _, ρ, ?_, Ren.le.refl ρ, hR.put hr hb (ob' := .arr se m (spliceF G off n fun _ => z)) (o := .cells (spliceL vs.toList (off * se) (List.replicate n zv.cells.toList).flatten).toArray e' fz) ⟨?_, hfz, ?_, ?_⟩, .tup .nil⟩
      · simp only [Sem.run_bind, hclr, Result.andThen_ok, Sem.run_pure]
      · rw [List.size_toArray, spliceL_length (by rw [hEl]; omega)]; simpa using hNs
      · show HoldsC I ρ _ (spliceL vs.toList (off * se) _)
        refine ⟨by rw [spliceL_length (by rw [hEl]; omega)]; exact hkN, fun i hi => ?_, fun i hi => ?_⟩
        · rw [spliceF_at]
          split
          · exact hE.ok (i - off) (by omega)
          · exact hH.2.1 i hi
        · rw [spliceF_at, splice_at hEl (by omega)]
          split
          · exact hE.at_ (i - off) (by omega)
          · exact hH.2.2 i hi
      · intro u hu'
        rcases mem_spliceL (by simpa using hu') with hu' | hu'
        · exact h1 u hu'
        · exact hE.one u hu'

/-! ### slices that keep their places in mind -/
/-! ### methods -/
/-- Where an operation goes to: a function, with arguments. -/
def Goes (Γ : Ctx) (P : Program) (τ : List (Nat × A)) (r : List (Nat × Option VX.Obj)) (us : List Nat) (o : Oper) (f : FuncId) (vs : List A) : Prop :=
  ∀ a w I ρ, RW Γ I ρ r us w → Slots I ρ Γ.n τ a → ∃ args ρ', (execOp a.eval o).run P w = .ok (.enter f args) w ∧ ρ.le ρ' ∧ RW Γ I ρ' r us w ∧ RL I ρ' vs args.toList
theorem Goes.fn {τ : List (Nat × A)} {r : List (Nat × Option VX.Obj)} {us : List Nat} {o : Oper} {f : FuncId} {vs : List A} (h : callee τ o = some (f, vs)) (hf : callOK P f = true) : Goes Γ P τ r us o f vs := fun a w I ρ hR hS =>
  let ⟨args, h1, h2⟩ := callee_ok (P := P) (w := w) hS h hf
  ⟨args, ρ, h1, Ren.le.refl ρ, hR, h2⟩
section
variable {I : Imm} {ρ : Ren} {r : List (Nat × Option VX.Obj)} {us : List Nat} {w : World} {ld : List Nat} {π : List (Nat × Nat)}
end
end
end VX

/- VX 43: calls that leave what is handed over as it was, in regions whose order is drawn. -/
namespace VX
open Go

section
variable {Γ : Ctx} {P : Program} {Q : Act → World → Prop} {ops : Array Oper} {k' : List Item}
end
end VX

/- VX 44: slices that keep their places in mind, in regions whose order is drawn. -/
namespace VX
open Go

section
variable {Γ : Ctx} {P : Program} {T : Tab} {Q : Act → World → Prop} {ops : Array Oper} {k' : List Item}

/-- An operation that makes nothing, by its rule. -/
theorem D.by {nt : Nat} {i : Nat} {l : List Nat} {o : Oper} (ho : ops.toList[i]? = some o) {g : List (Nat × Nat × Bool)} (hd : dstOk nt g o.dst = true) (hg : guardOf o g = some true)
    {τ : List (Nat × A)} {r : List (Nat × Option VX.Obj)} {us : List Nat} {vs : List A} {obs : List VX.Obj} (hvs : evs τ (opnds o.op) = some vs) (hobs : looks r (idsOf vs) = some obs) (hnr : needR o.op = true) {v : A} {w : List (Nat × Option VX.Obj)}
    {done : List FM} (hold : oldN [] (idsOf vs) (keys (revA w [])) = true)
    (hchk : chkM ops (effOf i (appN (rdsO (opnds o.op)) (grdS ops o)) o.dst v (idsOf vs) (idsOf vs) (revA w []) []).f done = true)
    (hW : ∀ {g1 : List (Nat × Nat × Bool)} {l1 : List Nat} {τ1 : List (Nat × A)} {r1 : List (Nat × Option VX.Obj)} {us1 : List Nat}, dstOk nt g1 o.dst = true → guardOf o g1 = some true → evs τ1 (opnds o.op) = some vs → looks r1 (idsOf vs) = some obs →
      W Γ P Q g1 (.inRegion ops l1 :: k') (putO o.dst v τ1) (addW r1 w) us1 → W Γ P Q g1 (.inRegion ops (i :: l1) :: k') τ1 r1 us1)
    (h : D Γ P Q ops k' g ((effOf i (appN (rdsO (opnds o.op)) (grdS ops o)) o.dst v (idsOf vs) (idsOf vs) (revA w []) []).f.m :: done) l (putO o.dst v τ) (addW r w) us) :
    D Γ P Q ops k' g done (i :: l) τ r us := by
  refine ⟨fun fs hfs hG => ?_⟩
  subst hfs
  have hn := h.ok (_ :: fs) rfl (hG.put hd)
  refine .cons (effOf i (appN (rdsO (opnds o.op)) (grdS ops o)) o.dst v (idsOf vs) (idsOf vs) (revA w []) []) rfl (effOf_ok hold) ?_ (alive_looks hobs) rfl (chkM_ok hchk) ?_
  · intro σ1 a1 a2 aA f1 l W1
    have e1 : evs σ1.τ (opnds o.op) = some vs := (evs_agree a1.of_left).trans hvs
    obtain ⟨obs', e2⟩ := looks_alive (l := idsOf vs) aA
    have a2 : Agree (idsOf vs) r σ1.r := a2
    rw [looks_agree (l := idsOf vs) a2, hobs] at e2
    cases e2
    refine W.dropG (gFor_GD (o := o) hG a1.of_right) (hW (dstOk_gFor hd) ((guardOf_gFor o g).trans hg) e1 ((looks_agree a2).trans hobs) ?_)
    have W2 := W.anyG (g := gFor o g) W1
    have et : (σ1.add (effOf i (appN (rdsO (opnds o.op)) (grdS ops o)) o.dst v (idsOf vs) (idsOf vs) (revA w []) [])).τ = putO o.dst v σ1.τ := by
      show appT (putL o.dst _) _ = _
      cases o.dst <;> rfl
    have er : (σ1.add (effOf i (appN (rdsO (opnds o.op)) (grdS ops o)) o.dst v (idsOf vs) (idsOf vs) (revA w []) [])).r = addW σ1.r w := (addW_eq _ _).symm
    have eu : (σ1.add (effOf i (appN (rdsO (opnds o.op)) (grdS ops o)) o.dst v (idsOf vs) (idsOf vs) (revA w []) [])).us = σ1.us := rfl
    rw [et, er, eu] at W2
    exact W2
  · have : (St.add ⟨τ, r, us⟩ (effOf i (appN (rdsO (opnds o.op)) (grdS ops o)) o.dst v (idsOf vs) (idsOf vs) (revA w []) [])) = ⟨putO o.dst v τ, addW r w, us⟩ := by
      unfold St.add
      rw [addW_eq, ← appT_putL]; rfl
    rw [this]
    exact hn

end
end VX

/- VX 45: maps with strings as keys, whose values may be addresses of owned variables. -/
namespace VX
open Go

section
variable {Γ : Ctx} {P : Program} {T : Tab} {Q : Act → World → Prop}
end
end VX

/- VX 46: loops whose first round is walked by itself. -/
namespace VX
open Go
section
variable {Γ : Ctx} {P : Program} {Q : Act → World → Prop}
end
end VX

/- VX 47: a call that gives back what it was lent ends nothing. -/
namespace VX
open Go

/-- What is there no more, leaving out what is given back under the same name. -/
def killS (w : List (Nat × Option Obj)) : List (Nat × Option Obj) → List Nat
  | [] => []
  | (n, none) :: l => match look w n with
    | some none => n :: killS w l
    | _ => killS w l
  | (_, some _) :: l => killS w l
theorem killS_ok {w : List (Nat × Option Obj)} {n : Nat} (hw : look w n = some none) : ∀ {l : List (Nat × Option Obj)}, look l n = some none → hasN (killS w l) n = true
  | [], h => by cases h
  | (m, none) :: l, h => by
    rw [killS]
    by_cases e : m = n
    · subst e
      rw [hw]
      show hasN (m :: killS w l) m = true
      rw [hasN_cons]; simp
    · have h' : look l n = some none := by
        rw [look, nbeq_ne e] at h; exact h
      split
      · rw [hasN_cons, killS_ok hw h', Bool.or_true]
      · exact killS_ok hw h'
  | (m, some ob) :: l, h => by
    rw [killS]
    by_cases e : m = n
    · subst e
      rw [look, Nat.beq_refl] at h; cases h
    · have h' : look l n = some none := by
        rw [look, nbeq_ne e] at h; exact h
      exact killS_ok hw h'
def effK (e : Eff) : Eff := ⟨⟨e.f.i, e.f.rd, e.f.ds, e.f.rr, e.f.rw, e.f.nm, e.f.rl, killS e.r e.r⟩, e.τ, e.r⟩
theorem effK_ok {e : Eff} (h : e.ok) : (effK e).ok := ⟨h.ds, h.rw_, fun n hn => killS_ok hn hn, h.old⟩

section
variable {Γ : Ctx} {P : Program} {Q : Act → World → Prop} {ops : Array Oper} {k' : List Item}
/-- A call whose contract tells the result outright. -/
theorem D.callK0 {done : List FM} {f : FuncId} {xs : List A} {rc : List (Nat × Option Obj)} {new : List Nat} {y0 : A} {r0 : List (Nat × Option Obj)} (hS : Does P f xs rc new (Is y0 r0)) (hf : callOK P f = true)
    {g : List (Nat × Nat × Bool)} {i : Nat} {l : List Nat} {τ : List (Nat × A)} {r : List (Nat × Option Obj)} {us : List Nat} {o : Oper} {vs : List A} (ho : ops.toList[i]? = some o) (hg : guardOf o g = some true)
    (hcal : callee τ o = some (f, vs)) (π : List (Nat × Nat)) (ld ns : List Nat) (hk : keys π = keys rc) (hchk : callChk us r π ld new ns rc = true) {nt : Nat} (hnt : nt = Γ.n) (hdst : dstOk nt g o.dst = true)
    (hargs : lentL π r ld vs xs) (hsub : subR π r rc) (hfl : ld = [] ∨ (y0.flat ∧ flatR r0))
    (hold : oldN ns (appN ld (vals π)) (keys (appR (renR (callRen (zipN new ns) π) r0) (gone (vals π) []))) = true)
    (hchk2 : chkM ops (effK (callEff ops i o (y0.ren (callRen (zipN new ns) π)) ld π (appR (renR (callRen (zipN new ns) π) r0) (gone (vals π) [])) ns)).f done = true)
    (h : D Γ P Q ops k' g ((effK (callEff ops i o (y0.ren (callRen (zipN new ns) π)) ld π (appR (renR (callRen (zipN new ns) π) r0) (gone (vals π) [])) ns)).f.m :: done) l (putO o.dst (y0.ren (callRen (zipN new ns) π)) τ) (appR (renR (callRen (zipN new ns) π) r0) (gone (vals π) r)) (appN ns us)) :
    D Γ P Q ops k' g done (i :: l) τ r us := by
  refine ⟨fun fs hfs hG => ?_⟩
  subst hfs
  have hn := h.ok (_ :: fs) rfl (hG.put hdst)
  have hchk' := hchk
  unfold callChk at hchk'
  obtain ⟨c1, hchk'⟩ := andb hchk'
  obtain ⟨c2, hchk'⟩ := andb hchk'
  obtain ⟨c3, hchk'⟩ := andb hchk'
  obtain ⟨c4, hchk'⟩ := andb hchk'
  obtain ⟨c5, hchk'⟩ := andb hchk'
  obtain ⟨c6, c7⟩ := andb hchk'
  have gone_app : ∀ (l : List Nat) (r : List (Nat × Option Obj)), gone l r = gone l [] ++ r := fun l r => by
    induction l with
    | nil => rfl
    | cons n l ih => rw [gone, gone, ih]; rfl
  refine .cons (effK (callEff ops i o (y0.ren (callRen (zipN new ns) π)) ld π (appR (renR (callRen (zipN new ns) π) r0) (gone (vals π) [])) ns)) rfl (effK_ok (effOf_ok hold)) ?_ (fun n hn => ?_) c6 (chkM_ok hchk2) ?_
  · intro σ1 a1 a2 aA f1 l W1
    refine W.dropG (gFor_GD (o := o) hG a1.of_right) (W.callF hS hf ho ((guardOf_gFor o g).trans hg) ((callee_agree a1.of_left).trans hcal) π ld ns hk ?_ hnt (dstOk_gFor hdst) (lentL_agree a2.of_left hargs) (subR_agree a2.of_right hsub) hfl (W.anyG ?_))
    · unfold callChk
      rw [liveN_agree a2.of_left, liveN_agree a2.of_right, c1, c2, c3, c4, c5, c7]
      rw [show freshL σ1.us ns = true from f1]; rfl
    · have q1 : (σ1.add (effK (callEff ops i o (y0.ren (callRen (zipN new ns) π)) ld π (appR (renR (callRen (zipN new ns) π) r0) (gone (vals π) [])) ns))).τ = putO o.dst (y0.ren (callRen (zipN new ns) π)) σ1.τ := appT_putL _ _ _
      have q2 : (σ1.add (effK (callEff ops i o (y0.ren (callRen (zipN new ns) π)) ld π (appR (renR (callRen (zipN new ns) π) r0) (gone (vals π) [])) ns))).r = appR (renR (callRen (zipN new ns) π) r0) (gone (vals π) σ1.r) := by
        show appT (appR _ (gone (vals π) [])) σ1.r = _
        rw [appT_eq, appR_eq, appR_eq, gone_app (vals π) σ1.r]; simp
      have q3 : (σ1.add (effK (callEff ops i o (y0.ren (callRen (zipN new ns) π)) ld π (appR (renR (callRen (zipN new ns) π) r0) (gone (vals π) [])) ns))).us = appN ns σ1.us := rfl
      rw [← q1, ← q2, ← q3]
      exact W1
  · have hn : hasN (appN ld (vals π)) n = true := hn
    rw [has_app, Bool.or_eq_true] at hn
    rcases hn with hn | hn
    · exact liveN_ok c1 hn
    · exact liveN_ok c3 hn
  · have : (St.add ⟨τ, r, us⟩ (effK (callEff ops i o (y0.ren (callRen (zipN new ns) π)) ld π (appR (renR (callRen (zipN new ns) π) r0) (gone (vals π) [])) ns))) = ⟨putO o.dst (y0.ren (callRen (zipN new ns) π)) τ, appR (renR (callRen (zipN new ns) π) r0) (gone (vals π) r), appN ns us⟩ := by
      unfold St.add
      rw [show appT (effK (callEff ops i o (y0.ren (callRen (zipN new ns) π)) ld π (appR (renR (callRen (zipN new ns) π) r0) (gone (vals π) [])) ns)).τ τ = putO o.dst (y0.ren (callRen (zipN new ns) π)) τ from appT_putL _ _ _]
      rw [show appT (effK (callEff ops i o (y0.ren (callRen (zipN new ns) π)) ld π (appR (renR (callRen (zipN new ns) π) r0) (gone (vals π) [])) ns)).r r = appR (renR (callRen (zipN new ns) π) r0) (gone (vals π) r) by
        show appT (appR _ (gone (vals π) [])) r = _
        rw [appT_eq, appR_eq, appR_eq, gone_app (vals π) r]; simp]
      rfl
    rw [this]
    exact hn
/-- The same; the names are found by looking. -/
theorem D.callAK {done : List FM} {f : FuncId} {xs : List A} {rc : List (Nat × Option Obj)} {new : List Nat} {y0 : A} {r0 : List (Nat × Option Obj)} (hS : Does P f xs rc new (Is y0 r0)) (hf : callOK P f = true)
    {g : List (Nat × Nat × Bool)} {i : Nat} {l : List Nat} {τ : List (Nat × A)} {r : List (Nat × Option Obj)} {us : List Nat} {o : Oper} {vs : List A} (ho : ops.toList[i]? = some o) (hg : guardOf o g = some true)
    (hcal : callee τ o = some (f, vs)) {nt : Nat} (hnt : nt = Γ.n) (hdst : dstOk nt g o.dst = true)
    (h : autoK us r vs xs rc new fun π ld ns => keys π = keys rc ∧ callChk us r π ld new ns rc = true ∧ oldN ns (appN ld (vals π)) (keys (appR (renR (callRen (zipN new ns) π) r0) (gone (vals π) []))) = true ∧ lentL π r ld vs xs ∧ subR π r rc ∧ flOK ld y0 r0 ∧
      catK ns us fun us' => nrmK us' (y0.ren (callRen (zipN new ns) π)) fun y => nrmRK us' (renR (callRen (zipN new ns) π) r0) fun w => catK w (gone (vals π) []) fun w' => chkK ops i (effK (callEff ops i o y ld π w' ns)).f done
        (fun m => putK o.dst y τ fun τ' => catK w (gone (vals π) r) fun r' => D Γ P Q ops k' g (m :: done) l τ' r' us') False) :
    D Γ P Q ops k' g done (i :: l) τ r us := by
  obtain ⟨π, ld, ns, he⟩ := autoK_ex (us := us) (r := r) (vs := vs) (xs := xs) (rc := rc) (new := new) (k := fun π ld ns => keys π = keys rc ∧ callChk us r π ld new ns rc = true ∧ oldN ns (appN ld (vals π)) (keys (appR (renR (callRen (zipN new ns) π) r0) (gone (vals π) []))) = true ∧ lentL π r ld vs xs ∧ subR π r rc ∧ flOK ld y0 r0 ∧
      catK ns us fun us' => nrmK us' (y0.ren (callRen (zipN new ns) π)) fun y => nrmRK us' (renR (callRen (zipN new ns) π) r0) fun w => catK w (gone (vals π) []) fun w' => chkK ops i (effK (callEff ops i o y ld π w' ns)).f done
        (fun m => putK o.dst y τ fun τ' => catK w (gone (vals π) r) fun r' => D Γ P Q ops k' g (m :: done) l τ' r' us') False)
  rw [he] at h
  obtain ⟨h1, h2, h0, h3, h4, h5, h6⟩ := h
  rw [catK_eq, nrmK_eq, nrmRK_eq, catK_eq] at h6
  rw [chkK_eq (by rfl) ho] at h6
  split at h6
  · rename_i hc
    rw [putK_eq, catK_eq] at h6
    try simp only [appR_eq, appN_eq] at h6
    refine D.callK0 hS hf ho hg hcal π ld ns h1 h2 hnt hdst h3 h4 (flOK_ok h5) h0 (by rw [appR_eq]; exact hc) (by simp only [appR_eq, appN_eq]; exact h6)
  · exact h6.elim
end
end VX

/- Short names for lists of tactics: each theorem's hypothesis carries the list as its default. -/
namespace VX
theorem qhb : (∀ (p : Prop) [Decidable p], (decide p = true) = p) ∧ (∀ (p : Prop) [Decidable p], (decide p = false) = ¬p) ∧ (∀ b : Bool, ((!b) = true) = (b = false)) ∧ (∀ b : Bool, ((!b) = false) = (b = true)) ∧ (∀ {a b : Int}, ¬a < b ↔ b ≤ a) ∧ (∀ {a b : Int}, ¬a ≤ b ↔ b < a) ∧ (∀ {α : Type} {a b : α}, cond true a b = a) ∧ (∀ {α : Type} {a b : α}, cond false a b = b) ∧ (∀ n : Nat, (n : Int).toNat = n) := by
  refine ⟨fun p _ => ?_, fun p _ => ?_, fun b => ?_, fun b => ?_, Int.not_lt, Int.not_le, rfl, rfl, Int.toNat_natCast⟩
  · exact decide_eq_true_eq
  · exact propext decide_eq_false_iff_not
  · cases b <;> simp
  · cases b <;> simp
theorem qlf0 {P : Prop} (h : P := by first | exact trivial | (intro i _; rw [Nat.zero_add]; exact A.sim.refl _) | with_reducible exact rfl | exact fun _ _ => A.sim.refl _ | exact A.sim.refl _ | exact rfl | exact Nat.le_refl _ | omega | exact fun i _ => shift_sim _ _ i | exact fun _ _ => trivial | exact fun _ h => absurd h (Nat.not_lt_zero _)) : P := h
theorem qlf1 {P : Prop} (h : P := by (repeat' apply And.intro) <;> exact qlf0) : P := h
theorem qcl0 {P : Prop} (h : P := by first | exact trivial | exact rfl | exact fun _ _ => A.sim.refl _ | exact A.sim.refl _ | exact Nat.le_refl _ | omega | exact fun _ _ => trivial | exact fun i _ => shift_sim _ _ i | exact fun _ h => absurd h (Nat.not_lt_zero _) | exact fun i _ => isInt_byteAt _ i) : P := h
theorem qsm0 {P : Prop} (h : P := by (simp only [allP, List.nil_append, List.append_nil, List.cons_append, List.append_eq, and_true, true_and, inr_i64, inr_u8, inr_u64, min_i64, max_i64, min_u64, max_u64, min_u8, max_u8, A.purePL, A.pureP, A.sureP, A.surePL, Int.toNat_natCast, Int.reduceToNat, addI, cHi, cLo, hiN, loN, subO, addO, hasIdx, cond_true, cond_false]; first | done | omega | ((repeat' apply And.intro) <;> first | exact trivial | rfl | omega | decide))) : P := h
theorem qcs0 {P : Prop} (h : P := by first | exact qcl0 | exact qsm0) : P := h
theorem qco0 {P : Prop} (h : P := by first | exact trivial | exact rfl | omega | (simp only [allP, List.nil_append, List.append_nil, List.cons_append, List.append_eq, and_true, true_and, inr_i64, inr_u8, inr_u64, A.purePL, A.pureP, A.sureP, A.surePL, Int.toNat_natCast, addI, cHi, cLo, hiN, loN, subO, addO, hasIdx, cond_true, cond_false]; first | done | omega | ((repeat' apply And.intro) <;> first | exact trivial | rfl | omega | decide))) : P := h
end VX

/- VX 49: noughts are appended to a slice of bytes. -/
namespace VX
open Go

theorem zeros_cells (n : Nat) : Builtin.zeroCells #[.int .u8 0] n = ((ByteArray.extract ⟨(List.replicate n (0 : UInt8)).toArray⟩ 0 n).data.map fun b => Value.int .u8 (b.toNat : Int)) := by
  have h1 : (ByteArray.extract ⟨(List.replicate n (0 : UInt8)).toArray⟩ 0 n).data = (List.replicate n (0 : UInt8)).toArray := by
    rw [ByteArray.data_extract]
    simp
  rw [h1]
  apply Array.ext
  · simp [Builtin.zeroCells]
  · intro i h1 h2
    have h0 : i % 1 = 0 := Nat.mod_one i
    simp [Builtin.zeroCells, h0]

theorem append_zeros_run {P : Program} (w : World) {t tn ts ty e : TypeId} {i : TypeInfo} {zv : Value} {kn k : IntKind} (hs : P.underlying t = some (.slice e)) (hn : P.underlying tn = some (.int kn)) (hst : P.underlying ts = some .string)
    (hi : P.info? e = some i) (hz : i.zero = some zv) (hzc : zv.cells = #[.int .u8 0]) (hsz : i.size = 1) {n : Nat} (h0 : 0 < n) (h63 : (n : Int) ≤ 9223372036854775807) (h48 : n * i.bytes ≤ 281474976710656) {a : Option Addr} {sl c : Nat}
    (hb : ((sl + n : Nat) : Int) ≤ 9223372036854775807) (hfit : c < sl + n → Builtin.nextslicecap (sl + n) c * i.bytes ≤ 281474976710656) :
    (Builtin.append_ #[t, tn] ty #[.slice a sl c, .int k n]).run P w = (Builtin.append_ #[t, ts] ty #[.slice a sl c, .string ⟨(List.replicate n (0 : UInt8)).toArray⟩]).run P w := by
  have hn0 : n ≠ 0 := by omega
  have hw : IntKind.i64.wrap (n : Int) = n := by rw [IntKind.wrap_i64]; omega
  have hneg : ¬ ((n : Int) < 0) := by omega
  have h48i : ¬ (281474976710656 < (n : Int) * (i.bytes : Int)) := by
    rw [← Int.natCast_mul]
    omega
  have hns : ¬ (n * i.size = 0) := by rw [hsz]; omega
  have hlen : Builtin.lenOf (.string ⟨(List.replicate n (0 : UInt8)).toArray⟩) = pure n := by
    show pure (Array.size _) = _
    simp
  have hfc : Builtin.firstCells 1 n (.string ⟨(List.replicate n (0 : UInt8)).toArray⟩) = pure (Builtin.zeroCells #[.int .u8 0] n) := by
    rw [zeros_cells]; rfl
  generalize Value.string ⟨(List.replicate n (0 : UInt8)).toArray⟩ = S at hlen hfc ⊢
  have h63' : ¬ (9223372036854775807 < (sl : Int) + (n : Int)) := by omega
  by_cases hr : sl + n ≤ c
  · simp [Builtin.append_, run_underlying hs, run_underlying hn, run_underlying hst, Go.sizeOf, typeInfo, zeroValue, hi, hz, asInt, asIntOf, hw, hneg, h48i, hn0, hns, hlen, hr, hzc, hsz, hfc]
  · have hf := hfit (by omega)
    have h48' : ¬ (281474976710656 < Builtin.nextslicecap (sl + n) c * i.bytes) := by omega
    simp [Builtin.append_, run_underlying hs, run_underlying hn, run_underlying hst, Go.sizeOf, typeInfo, zeroValue, hi, hz, asInt, asIntOf, hw, hneg, h48i, hn0, hns, hlen, hr, hzc, hsz, hfc, h63', h48']

section
variable {Γ : Ctx} {P : Program} {T : Tab} {Q : Act → World → Prop}
/-- Noughts are appended to a slice of bytes that nobody else holds. -/
theorem W.appZeros (hT : TabOK P T.l) {nt : Nat} (hnt : nt = Γ.n) {ops : Array Oper} {i : Nat} {l : List Nat} {k : List Item} {o : Oper} (ho : ops.toList[i]? = some o) {g : List (Nat × Nat × Bool)} (hd : dstOk nt g o.dst = true) (hg : guardOf o g = some true)
    {τ : List (Nat × A)} {r : List (Nat × Option VX.Obj)} {us : List Nat} {s x : Operand} {t tn e : Nat} {kn k' : IntKind} (hop : o.op = .call { callee := .builtin .append, args := #[s, x], argTypes := #[t, tn] })
    {id m : Nat} (hs : ev τ s = some (.own 1 id 0 m)) {nI : Int} (hx : ev τ x = some (.int k' nI)) (ht : T.d t = .slice e) (htn : T.d tn = .int kn) {d : TD} {q : Bool} (hti : nth T.l e = some ⟨d, 1, 1, .int .u8 0, q⟩)
    {K : Nat} {G : Nat → A} (hr : look r id = some (some (.arr 1 K G))) {ts : Nat} (hts : T.d ts = .string) (n : Nat) (hn : nI = n) (h0 : 0 < n) (hc : m + n ≤ 17592186044416 ∧ m ≤ K) {nm : Nat} (hnm : usedN us nm = false)
    (h : W Γ P Q g (.inRegion ops l :: k) (putO o.dst (.own 1 nm 0 (m + n)) τ) ((nm, some (.arr 1 (m + n) (catF m G (byteAt (List.replicate n 0))))) :: (id, none) :: r) (nm :: us)) : W Γ P Q g (.inRegion ops (i :: l) :: k) τ r us := by
  refine W.opR hnt ho hd hg (fun a w I ρ hR hS => ?_) h
  have hv := ev_ok hS hs
  have hxv := (ev_ok hS hx).int_inv
  subst hn
  obtain ⟨un, hun, hdn⟩ := Tab.under hT htn (by simp)
  have hun' : P.underlying tn = some (.int kn) := by
    cases un <;> simp [tdOf] at hdn
    rw [hun, hdn]
  obtain ⟨us', hus, hds⟩ := Tab.under hT hts (by simp)
  have hus' : P.underlying ts = some .string := by
    cases us' <;> simp [tdOf] at hds
    exact hus
  have hu := Tab.slice hT ht
  obtain ⟨_, ⟨i', hi, hse, hbe, hz⟩, _, _⟩ := hT e _ hti
  simp only at hse hbe hz
  obtain ⟨zv, hzv, hzR, hzz, _⟩ := hz trivial
  have hzc : zv.cells = #[.int .u8 0] := by
    have := (hzR I ρ).int_inv
    subst this
    rfl
  generalize hsv : a.eval s = sv at hv
  obtain ⟨ad, c, rfl⟩ : ∃ ad c, sv = .slice ad m c := by
    cases hv with
    | agg hx _ _ => cases hx
    | own h1 h2 h3 => exact ⟨_, _, rfl⟩
    | own0 => exact ⟨_, _, rfl⟩
  have hzl : (List.replicate n (0 : UInt8)).length = n := List.length_replicate
  have happ : appendV 1 1 (.int .u8 0) (.own 1 id 0 m) (.str (List.replicate n 0)) [.arr 1 K G] nm = some ⟨((m + n) * 1 ≤ 17592186044416) :: (A.int .u8 0).sureP :: (m ≤ K) :: [], .own 1 nm 0 (m + n), [(id, none), (nm, some (.arr 1 (m + n) (catF m G (byteAt (List.replicate n 0)))))], true⟩ := by
    simp only [appendV, elems0, elems, isNils, hzl]
    rfl
  obtain ⟨u, w', hrun, hD⟩ := append_ok (ty := o.type) hT ht hti (.inr hus') happ ⟨by omega, trivial, hc.2, trivial⟩ hR hnm hv (R.str (l := List.replicate n 0)) (by simp [looks, hr, idOf])
  have hrun0 := append_zeros_run (ty := o.type) (a := ad) (sl := m) (c := c) (k := k') w hu hun' hus' hi hzv hzc hse h0 (by omega) (by rw [hbe]; omega) (by omega) (fun hlt => growslice_fits hlt (by rw [hbe]; omega))
  obtain ⟨nx, v, w2, ρ', e1, e2, e3, e4, e5⟩ := hD.ex
  have hw : w' = w2 ∧ nx = .value u := by
    injection e1 with e1 e1'
    exact ⟨e1', e1.symm⟩
  obtain ⟨rfl, rfl⟩ := hw
  have hvu : v = u := by simpa [nxV] using e2.symm
  subst hvu
  refine ⟨v, w', ρ', ?_, e3, e4, e5⟩
  obtain ⟨dst, op, ty, pos, aft, gd⟩ := o
  simp only at hop hrun hrun0
  subst hop
  simp only [execOp, resolve, invoke, Go.builtin, Sem.run_bind, Sem.run_pure, Result.andThen_ok, List.map_toArray, List.map_cons, List.map_nil, hsv, hxv, hrun0, hrun]
end
end VX

