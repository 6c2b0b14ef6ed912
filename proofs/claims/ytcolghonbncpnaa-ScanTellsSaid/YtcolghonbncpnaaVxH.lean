/- A symbolic executor for the model's code, and its soundness (part 8 of 9): a general tool, no statement about this program. -/
import Derived.Test.YtcolghonbncpnaaVxG
import Derived.Lib.AppendZeros
set_option linter.unusedSimpArgs false
set_option linter.unusedVariables false
/- VX 34: what will not change any more; nil slices; arguments in a plain form; numbers. -/
namespace VX
open Go

section
variable {Γ : Ctx} {P : Program} {Q : Act → World → Prop}
/-- A name for a slice of nothing. -/
theorem W.addNil (nm sz : Nat) (g : Nat → A) {k : List Item} {τ : List (Nat × A)} {r : List (Nat × Option Obj)} {us : List Nat} (hnm : usedN us nm = false)
    (h : W Γ P Q [] k τ ((nm, some (.arr sz 0 g)) :: r) (nm :: us)) : W Γ P Q [] k τ r us :=
  ⟨fun a w I ρ hR hS _ => h.ok a w I _ (hR.allocNil hnm) (hS.mono (Imm.le.refl I) (Ren.le_set (hR.names nm hnm))) .nil⟩

/-- As another state, of which it is known. -/
theorem W.to {k : List Item} {τ τ' : List (Nat × A)} {r r' : List (Nat × Option VX.Obj)} {us us' : List Nat} (hw : W Γ P Q [] k τ' r' us') (h : Weak τ r us τ' r' us') : W Γ P Q [] k τ r us := W.weak h hw
/-- The slots told are among the old ones, but what is lent does not change any more. -/
def lentT (π : List (Nat × Nat)) (r : List (Nat × Option Obj)) (ld : List Nat) (τ : List (Nat × A)) : List (Nat × A) → Prop
  | [] => True
  | (t, y) :: l => (match look τ t with | some x => (y = .any ∨ lent π r ld x y) | none => False) ∧ lentT π r ld τ l
theorem lentT_look {π : List (Nat × Nat)} {r : List (Nat × Option Obj)} {ld : List Nat} {τ : List (Nat × A)} : ∀ {τ' : List (Nat × A)}, lentT π r ld τ τ' → ∀ {t : Nat} {y : A}, look τ' t = some y → ∃ x, look τ t = some x ∧ (y = .any ∨ lent π r ld x y)
  | [], _, t, y, h => by simp [look] at h
  | (t', y') :: l, hs, t, y, h => by
    rw [look_cons] at h
    by_cases e : t' = t
    · subst e
      simp only [if_true, Option.some.injEq] at h
      subst h
      have h1 := hs.1
      cases hx : look τ t' with
      | none => rw [hx] at h1; exact h1.elim
      | some x => rw [hx] at h1; exact ⟨x, rfl, h1⟩
    · rw [if_neg e] at h
      exact lentT_look hs.2 h

/-- Some arrays (and variables) are not written any more: what points into them may be seen as what never changes. -/
theorem Weak.freeze (π : List (Nat × Nat)) (ld : List Nat) {τ τ' : List (Nat × A)} {r r' : List (Nat × Option Obj)} {us us' : List Nat} (hl : liveN r ld = true) (hap : apartN ld (vals π) = true)
    (hn : nodupN (vals π) = true) (hk : keepN π = true) (hu : keys π = us') (ht : lentT π r ld τ τ') (hsub : subR π r r') : Weak τ r us τ' r' us' := by
  intro Γ I ρ w n a hR hS
  have hv := viaRen_via π ρ
  have hle := le_lendI (ld := ld) hR hl
  refine ⟨lendI w ρ ld I, viaRen π ρ, ⟨fun b o v h => ?_, fun m ob' hm => ?_, fun m m' ob ob' b N N' hm hm' hb hb' => ?_, fun m hm => ?_, ?_, fun m l hm hl => ?_⟩, hS.size, hS.defers, fun t y hy => ?_⟩
  · unfold lendI at h
    split at h
    · exact h
    · exact hR.imm _ _ _ h
  · obtain ⟨id, ob, h1, h2, h3⟩ := subR_look hsub hm
    obtain ⟨l, hl', ho⟩ := hR.own id ob h2
    refine ⟨l, hv _ _ _ h1 hl', ?_⟩
    cases l with
    | nil => cases ob <;> cases ob' <;> simp_all [Own, Obj.le]
    | blk b N =>
      obtain ⟨o, hb, hh⟩ := ho.blk
      refine ⟨fun o => ?_, ho.mine, o, hb, ?_⟩
      · unfold lendI
        rw [if_neg]
        · exact ho.noI o
        · intro hL
          obtain ⟨id2, N2, ob2, g1, g2, g3, _⟩ := hL.own hR hl
          have := hR.inj id id2 _ _ b N N2 h2 g2 hl' g3
          subst this
          rw [apartN_ok hap (look_vals h1)] at g1
          cases g1
      · cases o with
        | cells vs e fz => exact ⟨hh.1, hh.2.1, (Obj.le_ok hv h3 hh.2.2.1).mono hle (Ren.le.refl _), hh.2.2.2⟩
        | map es c =>
          obtain ⟨h0, hh⟩ := hh
          cases ob <;> simp only at hh
          · cases ob' <;> simp [Obj.le] at h3
            obtain ⟨rfl, rfl, rfl⟩ := h3
            exact ⟨h0, hh.mono hle⟩
          · cases ob' <;> simp [Obj.le] at h3
            obtain ⟨rfl, h3⟩ := h3
            exact ⟨h0, PMapC.mono hle (Ren.le.refl _) ⟨hh.1, hh.2.1, hh.2.2.1, (A.leL_both hv _).1 _ _ h3 hh.2.2.2⟩⟩
        | _ => simp [BlkHolds] at hh
  · obtain ⟨n, o1, h1, h2, _⟩ := subR_look hsub hm
    obtain ⟨n', o1', h1', h2', _⟩ := subR_look hsub hm'
    simp only [viaRen, h1, h1', Option.bind_some] at hb hb'
    have := hR.inj n n' o1 o1' b N N' h2 h2' hb hb'
    subst this
    exact nodup_inj hn h1 h1'
  · cases e : look π m with
    | none => simp [viaRen, e]
    | some n =>
      have := look_keys e
      rw [hu, usedN_hasN hm] at this
      cases this
  · have hF := hR.frame
    refine ⟨hF.size, hF.blocks, fun b hb hf o => ?_, hF.le.trans hle, hF.os, hF.tape, hF.output⟩
    unfold lendI
    rw [if_neg]
    · exact hF.imm b hb hf o
    · intro hL
      obtain ⟨id2, N2, ob2, g1, g2, g3, hO⟩ := hL.own hR hl
      rcases hO.mine with h | h
      · exact hf h
      · omega
  · cases e : look π m with
    | none => simp [viaRen, e] at hl
    | some n =>
      have := keepN_ok hk e hm
      subst this
      simp only [viaRen, e, Option.bind_some] at hl
      exact hR.keep _ _ hm hl
  · obtain ⟨x, hx, h⟩ := lentT_look ht hy
    refine ⟨(hS.at_ t x hx).1, ?_⟩
    rcases h with rfl | h
    · exact .any
    · exact lent_ok hR hl h (hS.at_ t x hx).2

theorem RL.sim {I : Imm} {ρ : Ren} : ∀ {xs ys : List A} {vs : List Value}, simL xs ys → A.purePL xs → RL I ρ xs vs → RL I ρ ys vs
  | [], [], _, _, _, h => h
  | x :: xs, y :: ys, _, hs, hp, .cons a b => .cons (hs.1.R hp.1 a) (RL.sim hs.2 hp.2 b)
  | [], _ :: _, _, h, _, _ => h.elim
  | _ :: _, [], _, h, _, _ => h.elim
/-- Arguments in another form. -/
theorem Does.args {f : FuncId} {xs ys : List A} {r : List (Nat × Option Obj)} {new : List Nat} {Y : A → List (Nat × Option Obj) → Prop} (hs : simL xs ys) (hp : A.purePL xs) (h : Does P f ys r new Y) : Does P f xs r new Y :=
  fun I ρ w args ha hR => h I ρ w args (ha.sim hs hp) hR
end

section
variable {Γ : Ctx} {P : Program} {Q : Act → World → Prop}
theorem Does.frz {f : FuncId} {xs : List A} {r : List (Nat × Option VX.Obj)} {new : List Nat} {nm sz n m : Nat} {g : Nat → A} {r' : List (Nat × Option VX.Obj)} (h : Does P f xs r new (Is (.own sz nm 0 n) ((nm, some (.arr sz m g)) :: r'))) (hn : n ≤ m) :
    Does P f xs r new (Is (.ro sz n g) ((nm, none) :: r')) := by
  intro I ρ w args ha hR
  refine (h I ρ w args ha hR).mono fun e w' he => ?_
  cases e with
  | returned v =>
    obtain ⟨y, r2, I2, ρ2, ⟨rfl, rfl⟩, hv, hW⟩ := he
    obtain ⟨I3, hI, hW', hv'⟩ := RW.frz hW hv hn
    exact ⟨_, _, I3, ρ2, ⟨rfl, rfl⟩, hv', hW'⟩
  | panicked chain => exact he
  | outgrown => exact he
theorem W.frzNew {g : List (Nat × Nat × Bool)} {k : List Item} {d : Option Tmp} {τ : List (Nat × A)} {r : List (Nat × Option VX.Obj)} {us : List Nat} {nm sz n m : Nat} {G : Nat → A} (hn : n ≤ m) {τ' : List (Nat × A)} (hτ : τ' = putO d (.own sz nm 0 n) τ)
    (hG : ∀ j t b, (j, t, b) ∈ g → d ≠ some t)
    (h : W Γ P Q g k (putO d (.ro sz n G) τ) ((nm, none) :: r) us) : W Γ P Q g k τ' ((nm, some (.arr sz m G)) :: r) us := by
  subst hτ
  refine ⟨fun a w I ρ hR hS hg => ?_⟩
  cases d with
  | none =>
    -- nothing holds it
    have hv : R I ρ (.own sz nm 0 0) (.slice none 0 0) := .own0
    obtain ⟨I', hI, hR', _⟩ := RW.frz (n := 0) hR hv (Nat.zero_le m)
    exact h.ok a w I' ρ hR' (hS.mono hI (Ren.le.refl ρ)) hg
  | some d =>
    have hd := hS.at_ d (.own sz nm 0 n) (by rw [putO, look_cons, if_pos rfl])
    obtain ⟨I', hI, hR', hv'⟩ := RW.frz hR hd.2 hn
    refine h.ok a w I' ρ hR' ⟨hS.size, hS.defers, fun t x hx => ?_⟩ fun j t b hm => ?_
    · rw [putO, look_cons] at hx
      by_cases e : d = t
      · subst e
        rw [if_pos rfl] at hx
        cases hx
        exact ⟨hd.1, hv'⟩
      · rw [if_neg e] at hx
        have := hS.at_ t x (by rw [putO, look_cons, if_neg e]; exact hx)
        exact ⟨this.1, this.2.mono hI (Ren.le.refl ρ)⟩
    · have hne := hG j t b hm
      have := hg j t b hm
      cases k with
      | nil => exact this
      | cons x k =>
        cases x <;> try exact this
        obtain ⟨o, q1, q2, q3⟩ := this
        refine ⟨o, q1, q2, ?_⟩
        have e : d ≠ t := fun e => hne (by rw [e])
        rw [putO, look_cons, if_neg e] at q3 ⊢
        exact q3
variable {ops : Array Oper} {k' : List Item}
/-- A call that comes back with a new slice, which does not change any more. -/
theorem W.callZ {f : FuncId} {xs : List A} {rc : List (Nat × Option VX.Obj)} {new : List Nat} {sz nm n m : Nat} {G : Nat → A} {r0 : List (Nat × Option VX.Obj)} (hS : Does P f xs rc new (Is (.own sz nm 0 n) ((nm, some (.arr sz m G)) :: r0))) (hf : callOK P f = true)
    {g : List (Nat × Nat × Bool)} {i : Nat} {l : List Nat} {k : List Item} {τ : List (Nat × A)} {r : List (Nat × Option VX.Obj)} {us : List Nat} {o : Oper} {vs : List A} (ho : ops.toList[i]? = some o) (hg : guardOf o g = some true)
    (hcal : callee τ o = some (f, vs)) (π : List (Nat × Nat)) (ld ns : List Nat) (hk : keys π = keys rc) (hchk : callChk us r π ld new ns rc = true) {nt : Nat} (hnt : nt = Γ.n) (hdst : dstOk nt g o.dst = true)
    (hargs : lentL π r ld vs xs) (hsub : subR π r rc) (hn : n ≤ m) (hfl : ld = [] ∨ ((A.own sz nm 0 n).flat ∧ flatR ((nm, some (.arr sz m G)) :: r0)))
    (h : W Γ P Q g (.inRegion ops l :: k) (putO o.dst (.ro sz n G) τ) ((callRen (zipN new ns) π nm, none) :: appR (renR (callRen (zipN new ns) π) r0) (gone (vals π) r)) (appN ns us)) :
    W Γ P Q g (.inRegion ops (i :: l) :: k) τ r us := by
  refine W.callF hS hf ho hg hcal π ld ns hk hchk hnt hdst hargs hsub hfl (W.frzNew (d := o.dst) hn rfl (fun j t b hm he => ?_) h)
  rw [he] at hdst
  exact offG_mem (dstOk_some hdst).2 hm rfl
/-- The same, where the order is drawn. -/
theorem D.callZ {done : List FM} {f : FuncId} {xs : List A} {rc : List (Nat × Option VX.Obj)} {new : List Nat} {sz nm n m : Nat} {G : Nat → A} {r0 : List (Nat × Option VX.Obj)} (hS : Does P f xs rc new (Is (.own sz nm 0 n) ((nm, some (.arr sz m G)) :: r0))) (hf : callOK P f = true)
    {g : List (Nat × Nat × Bool)} {i : Nat} {l : List Nat} {τ : List (Nat × A)} {r : List (Nat × Option VX.Obj)} {us : List Nat} {o : Oper} {vs : List A} (ho : ops.toList[i]? = some o) (hg : guardOf o g = some true)
    (hcal : callee τ o = some (f, vs)) (π : List (Nat × Nat)) (ld ns : List Nat) (hk : keys π = keys rc) (hchk : callChk us r π ld new ns rc = true) {nt : Nat} (hnt : nt = Γ.n) (hdst : dstOk nt g o.dst = true)
    (hargs : lentL π r ld vs xs) (hsub : subR π r rc) (hn : n ≤ m) (hfl : ld = [] ∨ ((A.own sz nm 0 n).flat ∧ flatR ((nm, some (.arr sz m G)) :: r0)))
    (hold : oldN ns (appN ld (vals π)) (keys ((callRen (zipN new ns) π nm, none) :: appR (renR (callRen (zipN new ns) π) r0) (gone (vals π) []))) = true)
    (h : chkK ops i (callEff ops i o (.ro sz n G) ld π ((callRen (zipN new ns) π nm, none) :: appR (renR (callRen (zipN new ns) π) r0) (gone (vals π) [])) ns).f done
      (fun m => putK o.dst (.ro sz n G) τ fun τ' => renK (callRen (zipN new ns) π) r0 (gone (vals π) r) fun r' => D Γ P Q ops k' g (m :: done) l τ' ((callRen (zipN new ns) π nm, none) :: r') (appN ns us)) False) :
    D Γ P Q ops k' g done (i :: l) τ r us := by
  rw [chkK_eq (by rfl) ho] at h
  split at h
  rotate_left
  · exact h.elim
  rename_i hck
  rw [putK_eq, renK_eq] at h
  refine ⟨fun fs hfs hG => ?_⟩
  subst hfs
  have hn' := h.ok (_ :: fs) rfl (hG.put hdst)
  have hchk' := hchk
  unfold callChk at hchk'
  obtain ⟨c1, hchk'⟩ := andb hchk'
  obtain ⟨c2, hchk'⟩ := andb hchk'
  obtain ⟨c3, hchk'⟩ := andb hchk'
  obtain ⟨c4, hchk'⟩ := andb hchk'
  obtain ⟨c5, hchk'⟩ := andb hchk'
  obtain ⟨c6, c7⟩ := andb hchk'
  have gone_app : ∀ (l : List Nat) (r : List (Nat × Option VX.Obj)), gone l r = gone l [] ++ r := fun l r => by
    induction l with
    | nil => rfl
    | cons n l ih => rw [gone, gone, ih]; rfl
  refine .cons (callEff ops i o (.ro sz n G) ld π ((callRen (zipN new ns) π nm, none) :: appR (renR (callRen (zipN new ns) π) r0) (gone (vals π) [])) ns) rfl (effOf_ok hold) ?_ (fun q hq => ?_) c6 (chkM_ok hck) ?_
  · intro σ1 a1 a2 aA f1 l W1
    refine W.dropG (gFor_GD (o := o) hG a1.of_right) (W.callZ hS hf ho ((guardOf_gFor o g).trans hg) ((callee_agree a1.of_left).trans hcal) π ld ns hk ?_ hnt (dstOk_gFor hdst) (lentL_agree a2.of_left hargs) (subR_agree a2.of_right hsub) hn hfl (W.anyG ?_))
    · unfold callChk
      rw [liveN_agree a2.of_left, liveN_agree a2.of_right, c1, c2, c3, c4, c5, c7]
      rw [show freshL σ1.us ns = true from f1]; rfl
    · have q1 : (σ1.add (callEff ops i o (.ro sz n G) ld π ((callRen (zipN new ns) π nm, none) :: appR (renR (callRen (zipN new ns) π) r0) (gone (vals π) [])) ns)).τ = putO o.dst (.ro sz n G) σ1.τ := appT_putL _ _ _
      have q2 : (σ1.add (callEff ops i o (.ro sz n G) ld π ((callRen (zipN new ns) π nm, none) :: appR (renR (callRen (zipN new ns) π) r0) (gone (vals π) [])) ns)).r = (callRen (zipN new ns) π nm, none) :: appR (renR (callRen (zipN new ns) π) r0) (gone (vals π) σ1.r) := by
        show appT (_ :: appR _ (gone (vals π) [])) σ1.r = _
        rw [appT_eq, appR_eq, appR_eq, gone_app (vals π) σ1.r]; simp
      rw [← q1, ← q2]
      exact W1
  · have hq : hasN (appN ld (vals π)) q = true := hq
    rw [has_app, Bool.or_eq_true] at hq
    rcases hq with hq | hq
    · exact liveN_ok c1 hq
    · exact liveN_ok c3 hq
  · have : (St.add ⟨τ, r, us⟩ (callEff ops i o (.ro sz n G) ld π ((callRen (zipN new ns) π nm, none) :: appR (renR (callRen (zipN new ns) π) r0) (gone (vals π) [])) ns)) = ⟨putO o.dst (.ro sz n G) τ, (callRen (zipN new ns) π nm, none) :: appR (renR (callRen (zipN new ns) π) r0) (gone (vals π) r), appN ns us⟩ := by
      unfold St.add
      rw [show appT (callEff ops i o (.ro sz n G) ld π ((callRen (zipN new ns) π nm, none) :: appR (renR (callRen (zipN new ns) π) r0) (gone (vals π) [])) ns).τ τ = putO o.dst (.ro sz n G) τ from appT_putL _ _ _]
      rw [show appT (callEff ops i o (.ro sz n G) ld π ((callRen (zipN new ns) π nm, none) :: appR (renR (callRen (zipN new ns) π) r0) (gone (vals π) [])) ns).r r = (callRen (zipN new ns) π nm, none) :: appR (renR (callRen (zipN new ns) π) r0) (gone (vals π) r) by
        show appT (_ :: appR _ (gone (vals π) [])) r = _
        rw [appT_eq, appR_eq, appR_eq, gone_app (vals π) r]; simp]
      rfl
    rw [this]
    exact hn'
end

/-! ### arguments of laws, in a plain form -/
mutual
theorem Shaped.pure : ∀ {s : Sh} {x : A}, Shaped s x → x.pureP
  | .int k, x, h => by obtain ⟨n, rfl, _⟩ := h; trivial
  | .bool, x, h => by obtain ⟨n, rfl⟩ := h; trivial
  | .str, x, h => by obtain ⟨n, rfl, _⟩ := h; trivial
  | .slice e, x, h => by obtain ⟨n, g, rfl, _⟩ := h; trivial
  | .arr n e, x, h => by obtain ⟨g, rfl, h⟩ := h; exact fun i hi => Shaped.pure (h i hi)
  | .strct l, x, h => by obtain ⟨ps, rfl, h⟩ := h; exact ShapedL.pure h
theorem ShapedL.pure : ∀ {l : ShL} {ps : List A}, ShapedL l ps → A.purePL ps
  | .nil, ps, h => by cases h; trivial
  | .cons s l, ps, h => by obtain ⟨x, xs, rfl, h1, h2⟩ := h; exact ⟨Shaped.pure h1, ShapedL.pure h2⟩
end
/-- Each datum of that shape may be told by an a with q. -/
def Rep {α : Type} (s : Sh) (f : α → A) (q : α → Prop) : Prop := ∀ x, Shaped s x → ∃ a, x.sim (f a) ∧ q a
theorem Rep.int (k : IntKind) : Rep (.int k) (A.int k) (inr k) := fun x h => by obtain ⟨n, rfl, h⟩ := h; exact ⟨n, .refl _, h⟩
theorem Rep.bool : Rep .bool A.bool fun _ => True := fun x h => by obtain ⟨n, rfl⟩ := h; exact ⟨n, .refl _, trivial⟩
theorem Rep.str : Rep .str A.str fun l => l.length ≤ 9223372036854775807 := fun x h => by obtain ⟨n, rfl, h⟩ := h; exact ⟨n, .refl _, h⟩
theorem byte_of {n : Int} (h : inr .u8 n) : A.int .u8 n = byte (UInt8.ofNat n.toNat) := by
  rw [inr_u8] at h
  unfold byte
  congr 1
  rw [UInt8.toNat_ofNat']
  omega
theorem Rep.byte : Rep (.int .u8) VX.byte fun _ => True := fun x h => by
  obtain ⟨n, rfl, h⟩ := h
  exact ⟨_, .of (byte_of h), trivial⟩
def sl {α : Type} [Inhabited α] (sz : Nat) (f : α → A) (l : List α) : A := .ro sz l.length fun i => f (l.getD i default)
theorem Rep.slice {α : Type} [Inhabited α] {s : Sh} {f : α → A} {q : α → Prop} (h : Rep s f q) : Rep (.slice s) (sl s.size f) fun l => l.length ≤ 9223372036854775807 ∧ ∀ a ∈ l, q a := fun x hx => by
  obtain ⟨n, g, rfl, hn, hg⟩ := hx
  have key : ∀ m, m ≤ n → ∃ l : List α, l.length = m ∧ (∀ i, i < m → (g i).sim (f (l.getD i default))) ∧ ∀ a ∈ l, q a := by
    intro m
    induction m with
    | zero => exact fun _ => ⟨[], rfl, fun i hi => absurd hi (Nat.not_lt_zero _), fun a ha => by cases ha⟩
    | succ m ih =>
      intro hm
      obtain ⟨l, h1, h2, h3⟩ := ih (by omega)
      obtain ⟨a, h4, h5⟩ := h _ (hg m (by omega))
      refine ⟨l ++ [a], by simp [h1], fun i hi => ?_, fun b hb => ?_⟩
      · by_cases e : i < m
        · have := h2 i e
          rw [List.getD_eq_getElem?_getD, List.getElem?_append_left (by omega), ← List.getD_eq_getElem?_getD]
          exact this
        · have : i = m := by omega
          subst this
          rw [List.getD_eq_getElem?_getD, List.getElem?_append_right (by omega), h1]
          simpa using h4
      · rcases List.mem_append.1 hb with hb | hb
        · exact h3 b hb
        · simp only [List.mem_singleton] at hb; subst hb; exact h5
  obtain ⟨l, h1, h2, h3⟩ := key n (Nat.le_refl n)
  subst h1
  exact ⟨l, .ro h2, hn, h3⟩
/-- Bytes. -/
def bytesA (l : List UInt8) : A := .ro 1 l.length (byteAt l)
theorem Rep.bytes : Rep (.slice (.int .u8)) bytesA fun l => l.length ≤ 9223372036854775807 := fun x hx => by
  obtain ⟨l, h1, h2⟩ := Rep.slice Rep.byte x hx
  refine ⟨l, h1.trans (.ro fun i hi => .of ?_), h2.1⟩
  rfl
theorem Rep.arr {α : Type} [Inhabited α] {s : Sh} {f : α → A} {q : α → Prop} (h : Rep s f q) (n : Nat) : Rep (.arr n s) (fun l : List α => .vec s.size n fun i => f (l.getD i default)) fun l => l.length = n ∧ ∀ a ∈ l, q a := fun x hx => by
  obtain ⟨g, rfl, hg⟩ := hx
  have key : ∀ m, m ≤ n → ∃ l : List α, l.length = m ∧ (∀ i, i < m → (g i).sim (f (l.getD i default))) ∧ ∀ a ∈ l, q a := by
    intro m
    induction m with
    | zero => exact fun _ => ⟨[], rfl, fun i hi => absurd hi (Nat.not_lt_zero _), fun a ha => by cases ha⟩
    | succ m ih =>
      intro hm
      obtain ⟨l, h1, h2, h3⟩ := ih (by omega)
      obtain ⟨a, h4, h5⟩ := h _ (hg m (by omega))
      refine ⟨l ++ [a], by simp [h1], fun i hi => ?_, fun b hb => ?_⟩
      · by_cases e : i < m
        · have := h2 i e
          rw [List.getD_eq_getElem?_getD, List.getElem?_append_left (by omega), ← List.getD_eq_getElem?_getD]
          exact this
        · have : i = m := by omega
          subst this
          rw [List.getD_eq_getElem?_getD, List.getElem?_append_right (by omega), h1]
          simpa using h4
      · rcases List.mem_append.1 hb with hb | hb
        · exact h3 b hb
        · simp only [List.mem_singleton] at hb; subst hb; exact h5
  obtain ⟨l, h1, h2, h3⟩ := key n (Nat.le_refl n)
  exact ⟨l, .vec h2, h1, h3⟩
def hashA (l : List UInt8) : A := .vec 1 32 (byteAt l)
theorem Rep.hash : Rep (.arr 32 (.int .u8)) hashA fun l => l.length = 32 := fun x hx => by
  obtain ⟨l, h1, h2⟩ := (Rep.arr Rep.byte 32) x hx
  exact ⟨l, h1, h2.1⟩

/-! ### numbers -/
theorem inr_wrap (k : IntKind) (n : Int) : inr k (k.wrap n) := by
  unfold inr IntKind.min IntKind.max IntKind.wrap
  cases k <;> simp [IntKind.signed, IntKind.bits] <;> omega
theorem inr_bits (op : BinOp) (k : IntKind) (x y : Int) : inr k (bitsI op k x y) := inr_wrap k _
theorem all_5 {p : Nat → Prop} : (∀ i, i < 5 → p i) ↔ (p 0 ∧ p 1 ∧ p 2 ∧ p 3 ∧ p 4) := ⟨fun h => ⟨h 0 (by omega), h 1 (by omega), h 2 (by omega), h 3 (by omega), h 4 (by omega)⟩, fun h i hi => by match i, hi with | 0, _ => exact h.1 | 1, _ => exact h.2.1 | 2, _ => exact h.2.2.1 | 3, _ => exact h.2.2.2.1 | 4, _ => exact h.2.2.2.2⟩
end VX

/- VX 35: a slice against nil. -/
namespace VX
open Go

section
variable {Γ : Ctx} {P : Program} {T : Tab} {Q : Act → World → Prop}
/-- The length of a slice that may be nil or not. -/
def mayNil : A → Option Nat
  | .ro _ n _ => some n
  | .own _ _ _ n => some n
  | .owl _ _ _ n => some n
  | _ => none
/-- The slot that an operation fills by asking whether a slice is nil; and that slice's length. -/
def nilQ (T : Tab) (o : Oper) (τ : List (Nat × A)) : Option (Nat × Nat) :=
  match o.op with
  | .binOp .eql t x y _ => (match T.d t with
    | .slice _ => (match ev τ y with
      | some .nils => (match ev τ x with
        | some a => (match mayNil a with
          | some n => (match o.dst with
            | some d => some (d, n)
            | none => none)
          | none => none)
        | none => none)
      | _ => none)
    | _ => none)
  | _ => none
theorem mayNil_ok {I : Imm} {ρ : Ren} {x : A} {v : Value} {n : Nat} (h : mayNil x = some n) (hx : R I ρ x v) : ∃ a c, v = .slice a n c ∧ (a.isNone = true → n = 0) := by
  unfold mayNil at h
  split at h <;> (try (cases h; done)) <;> simp only [Option.some.injEq] at h <;> subst h
  all_goals
    cases hx <;> (try (rename_i e _ _; cases e; done))
    all_goals first
      | exact ⟨_, _, rfl, fun _ => rfl⟩
      | exact ⟨_, _, rfl, fun h => absurd h (by simp)⟩
theorem eq_slice'_ {w : World} (d : Nat) {t e : Nat} (hu : P.underlying t = some (.slice e)) (b : Addr) (n m k l : Nat) : (Op.equalIn (d + 1) t (.slice (some b) n m) (.slice none k l)).run P w = .ok false w := by
  simp only [Op.equalIn, Sem.run_bind, run_underlying hu, Result.andThen_ok, Sem.run_pure]
theorem eq_sliceN {w : World} {t e : Nat} (hu : P.underlying t = some (.slice e)) (b : Option Addr) (n m : Nat) : (Op.equal t (.slice b n m) (.slice none 0 0)).run P w = .ok b.isNone w := by
  cases b with
  | none => exact eq_slice hu none _ _ _ _
  | some b => exact eq_slice'_ 9999 hu b _ _ _ _
/-- Whether a slice is nil: it may be, if it is empty. -/
theorem W.isNil (hT : TabOK P T.l) {nt : Nat} (hnt : nt = Γ.n) {ops : Array Oper} {i : Nat} {l : List Nat} {k : List Item} {o : Oper} (ho : ops.toList[i]? = some o) {g : List (Nat × Nat × Bool)} (hd : dstOk nt g o.dst = true) (hg : guardOf o g = some true)
    {τ : List (Nat × A)} {r : List (Nat × Option Obj)} {us : List Nat} {d n : Nat} (hq : nilQ T o τ = some (d, n))
    (h : ∀ b : Bool, (b = true → n = 0) → W Γ P Q g (.inRegion ops l :: k) ((d, .bool b) :: τ) r us) : W Γ P Q g (.inRegion ops (i :: l) :: k) τ r us := by
  have ho : ops[i]? = some o := by simpa using ho
  refine ⟨fun a w I ρ hR hS hG => ?_⟩
  have hw := guardOf_ok hS hG hg
  obtain ⟨dst, op, ty, pos, aft, gd⟩ := o
  unfold nilQ at hq
  simp only at hq hd
  split at hq <;> (try (cases hq; done))
  rename_i t x y ty' _
  split at hq <;> (try (cases hq; done))
  rename_i e he
  split at hq <;> (try (cases hq; done))
  rename_i hy
  split at hq <;> (try (cases hq; done))
  rename_i ax hx
  split at hq <;> (try (cases hq; done))
  rename_i n' hn
  split at hq <;> (try (cases hq; done))
  rename_i d' _
  simp only [Option.some.injEq, Prod.mk.injEq] at hq
  obtain ⟨rfl, rfl⟩ := hq
  obtain ⟨b, c, hv, hb⟩ := mayNil_ok hn (ev_ok hS hx)
  have hvy := (ev_ok hS hy).nils_inv
  have hu := Tab.slice hT he
  obtain ⟨hlt, hoff⟩ := dstOk_some hd
  have hrun : (execOp a.eval ⟨some d', .binOp .eql t x y ty', ty, pos, aft, gd⟩).run P w = .ok (.value (.bool b.isNone)) w := by
    simp only [execOp, hv, hvy]
    have g1 : (eqGuard .eql t x y (.slice b n' c) (.slice none 0 0)).run P w = .ok () w := eqGuard_ok (by simp) (by simp)
    have g2 := (binOp_equal (op := .eql) (by simp) (eq_sliceN (w := w) hu b n' c)).1 rfl
    simp only [Sem.run_bind, g1, g2, Result.andThen_ok, Sem.run_pure]
  refine WK.step (a' := a.put (some d') (.bool b.isNone)) (w' := w) (fun b' cs => step_op ho hw hrun rfl) ((h b.isNone hb).ok _ _ I ρ hR (hS.put (hnt ▸ hlt) .bool) (hG.put hoff))
end
end VX

/- VX 36: what a slice of nothing grows to. -/
namespace VX
open Go

section
variable {Γ : Ctx} {P : Program} {T : Tab} {Q : Act → World → Prop}
/-- An operation that gives a datum, of which it is known how it runs. -/
theorem W.opR {nt : Nat} (hnt : nt = Γ.n) {ops : Array Oper} {i : Nat} {l : List Nat} {k : List Item} {o : Oper} (ho : ops.toList[i]? = some o) {g : List (Nat × Nat × Bool)} (hd : dstOk nt g o.dst = true) (hg : guardOf o g = some true)
    {τ : List (Nat × A)} {r r' : List (Nat × Option VX.Obj)} {us us' : List Nat} {x : A}
    (hrun : ∀ (a : Act) (w : World) (I : Imm) (ρ : Ren), RW Γ I ρ r us w → Slots I ρ Γ.n τ a → ∃ v w' ρ', (execOp a.eval o).run P w = .ok (.value v) w' ∧ ρ.le ρ' ∧ RW Γ I ρ' r' us' w' ∧ R I ρ' x v)
    (h : W Γ P Q g (.inRegion ops l :: k) (putO o.dst x τ) r' us') : W Γ P Q g (.inRegion ops (i :: l) :: k) τ r us := by
  have ho : ops[i]? = some o := by simpa using ho
  refine ⟨fun a w I ρ hR hS hG => ?_⟩
  have hw := guardOf_ok hS hG hg
  obtain ⟨v, w', ρ', hx, hle, hR', hv⟩ := hrun a w I ρ hR hS
  have hS' := hS.mono (Imm.le.refl I) hle
  cases hdst : o.dst with
  | none =>
    rw [hdst] at h
    exact WK.step (a' := a.put o.dst v) (w' := w') (fun b cs => step_op ho hw hx rfl) (h.ok _ _ I ρ' hR' (by rw [hdst]; exact hS'.skip) hG.next)
  | some d =>
    rw [hdst] at h hd
    obtain ⟨hlt, hoff⟩ := dstOk_some hd
    exact WK.step (a' := a.put o.dst v) (w' := w') (fun b cs => step_op ho hw hx rfl) (h.ok _ _ I ρ' hR' (by rw [hdst]; exact hS'.put (hnt ▸ hlt) hv) (hG.put hoff))

/-- A slice of nothing has no room. -/
theorem W.capNil (hT : TabOK P T.l) {nt : Nat} (hnt : nt = Γ.n) {ops : Array Oper} {i : Nat} {l : List Nat} {k : List Item} {o : Oper} (ho : ops.toList[i]? = some o) {g : List (Nat × Nat × Bool)} (hd : dstOk nt g o.dst = true) (hg : guardOf o g = some true)
    {τ : List (Nat × A)} {r : List (Nat × Option VX.Obj)} {us : List Nat} {x : Operand} {t e : Nat} (hop : o.op = .call { callee := .builtin .cap, args := #[x], argTypes := #[t] }) (hx : ev τ x = some .nils) (ht : T.d t = .slice e)
    (h : W Γ P Q g (.inRegion ops l :: k) (putO o.dst (.int .i64 0) τ) r us) : W Γ P Q g (.inRegion ops (i :: l) :: k) τ r us := by
  refine W.opR hnt ho hd hg (fun a w I ρ hR hS => ?_) h
  have hv := (ev_ok hS hx).nils_inv
  have hu := Tab.slice hT ht
  refine ⟨.int .i64 0, w, ρ, ?_, Ren.le.refl ρ, hR, .int⟩
  obtain ⟨dst, op, ty, pos, aft, gd⟩ := o
  simp only at hop
  subst hop
  simp only [execOp, resolve, invoke, Go.builtin, Sem.run_bind, Sem.run_pure, Result.andThen_ok, List.map_toArray, List.map_cons, List.map_nil, hv, Builtin.cap_, List.getElem?_toArray, List.getElem?_cons_zero, run_underlying hu]
  rfl
/-- Noughts are appended to nothing: of the new array it is said here only that it is there. -/
theorem W.appZero (hT : TabOK P T.l) {nt : Nat} (hnt : nt = Γ.n) {ops : Array Oper} {i : Nat} {l : List Nat} {k : List Item} {o : Oper} (ho : ops.toList[i]? = some o) {g : List (Nat × Nat × Bool)} (hd : dstOk nt g o.dst = true) (hg : guardOf o g = some true)
    {τ : List (Nat × A)} {r : List (Nat × Option VX.Obj)} {us : List Nat} {s x : Operand} {t tn e : Nat} {kn k' : IntKind} (hop : o.op = .call { callee := .builtin .append, args := #[s, x], argTypes := #[t, tn] })
    (hs : ev τ s = some .nils) {n : Nat} {nI : Int} (hx : ev τ x = some (.int k' nI)) (hn : nI = n) (ht : T.d t = .slice e) (htn : T.d tn = .int kn) {d : TD} {se be : Nat} {z : A} {q : Bool} (hti : nth T.l e = some ⟨d, se, be, z, q⟩) (hz : z.sureP)
    (hse : 0 < se) (h0 : 0 < n) (h63 : (n : Int) ≤ 9223372036854775807) (h48 : n * be ≤ 281474976710656) {nm : Nat} (hnm : usedN us nm = false) (gz : Nat → A)
    (h : W Γ P Q g (.inRegion ops l :: k) (putO o.dst (.own se nm 0 n) τ) ((nm, some (.arr se 0 gz)) :: r) (nm :: us)) : W Γ P Q g (.inRegion ops (i :: l) :: k) τ r us := by
  refine W.opR hnt ho hd hg (fun a w I ρ hR hS => ?_) h
  have hv := (ev_ok hS hs).nils_inv
  have hxv := (ev_ok hS hx).int_inv
  subst hn
  have hu := Tab.slice hT ht
  obtain ⟨un, hun, hdn⟩ := Tab.under hT htn (by simp)
  obtain ⟨_, ⟨i', hi, hsz, hbe, hzz⟩, _, _⟩ := hT e _ hti
  simp only at hsz hbe hzz
  obtain ⟨zv, hzv, hzR, hzs, hzp⟩ := hzz hz
  obtain ⟨hzc, hz1⟩ := (hzR I nr).cells hz
  have hzl := hzc.length
  rw [A.length_cells z (hzR I nr).wf, hzs] at hzl
  have hzsz : zv.cells.size = se := by rw [hzl]; simp
  have hun' : P.underlying tn = some (.int kn) := by
    cases un <;> simp [tdOf] at hdn
    rw [hun, hdn]
  have hcap : n ≤ grownCap w n 0 e := by simp [grownCap, Question.cut]
  have hrun := Go.Lib.run_append_nil_zeros (P := P) w t tn o.type e i' zv k' kn hu hun' hi hzv n h0 (by rw [hsz]; exact hse) h63 (by rw [hbe]; exact h48)
  have hN : (Builtin.zeroCells zv.cells n ++ Builtin.zeroCells zv.cells (grownCap w n 0 e - n)).size = grownCap w n 0 e * se := by
    rw [Array.size_append, ← Array.length_toList (xs := Builtin.zeroCells _ _), ← Array.length_toList (xs := Builtin.zeroCells zv.cells (grownCap w n 0 e - n)), zeroCells_len, zeroCells_len, hzsz, ← Nat.add_mul]
    congr 1
    omega
  have hE : Elems I se 0 gz [] := nothing_elems
  have hex : (execOp a.eval o).run P w = .ok (.value (.slice (some ⟨w.heap.size, 0, none⟩) n (grownCap w n 0 e))) (w.drew.alloc (.cells (Builtin.zeroCells zv.cells n ++ Builtin.zeroCells zv.cells (grownCap w n 0 e - n)) e)) := by
    obtain ⟨dst, op, ty, pos, aft, gd⟩ := o
    simp only at hop hrun
    subst hop
    simp only [execOp, resolve, invoke, Go.builtin, Sem.run_bind, Sem.run_pure, Result.andThen_ok, List.map_toArray, List.map_cons, List.map_nil, hv, hxv, hrun]
  refine ⟨_, _, ρ.set nm (.blk w.heap.size (grownCap w n 0 e * se)), hex, Ren.le_set (hR.names nm hnm), hR.drew.alloc hnm ⟨hN, Thawed.none _, ?_, fun u hu => ?_⟩, ?_⟩
  · simpa using hE.holds (I := I) (ρ := ρ) _
  · simp only [Array.toList_append, List.mem_append] at hu
    rcases hu with hu | hu
    · exact hz1 u (zeroCells_mem hu)
    · exact hz1 u (zeroCells_mem hu)
  · have := R.own (I := I) (ρ := ρ.set nm (.blk w.heap.size (grownCap w n 0 e * se))) (sz := se) (id := nm) (off := 0) (n := n) (b := w.heap.size) (N := grownCap w n 0 e * se) (c := grownCap w n 0 e) (by simp [Ren.set]) hcap (by simp)
    simpa using this
end
end VX

/- VX 37: calls, loops and returns with less to tell: names are found by looking. -/
namespace VX
open Go

/-! ### putting what is known into plain form: each function hands its result on -/
section
variable {α : Sort _}
def litK : List (Nat × Nat) → (List (Nat × Nat) → α) → α
  | [], k => k []
  | (a, b) :: l, k => litK l fun l' => k ((a, b) :: l')
theorem litK_eq : ∀ (l : List (Nat × Nat)) (k : List (Nat × Nat) → α), litK l k = k l
  | [], _ => rfl
  | (_, _) :: l, k => litK_eq l _
def copK {β : Type} : List β → (List β → α) → α
  | [], k => k []
  | a :: l, k => copK l fun l' => k (a :: l')
theorem copK_eq {β : Type} : ∀ (l : List β) (k : List β → α), copK l k = k l
  | [], _ => rfl
  | _ :: l, k => copK_eq l _
def natK : List Nat → Nat → (Nat → α) → α
  | [], n, k => k n
  | u :: us, n, k => match h : Nat.beq n u with
    | true => k u
    | false => natK us n k
theorem natK_eq : ∀ (us : List Nat) (n : Nat) (k : Nat → α), natK us n k = k n
  | [], _, _ => rfl
  | u :: us, n, k => by
    unfold natK
    split
    · rename_i h; rw [Nat.eq_of_beq_eq_true h]
    · exact natK_eq us n k
mutual
def nrmK (us : List Nat) : A → (A → α) → α
  | .own sz id off n, k => natK us id fun id => k (.own sz id off n)
  | .owl sz id off n, k => natK us id fun id => k (.owl sz id off n)
  | .owk sz id off n K, k => natK us id fun id => k (.owk sz id off n K)
  | .ptr id p, k => natK us id fun id => k (.ptr id p)
  | .vsl sz id p i n, k => natK us id fun id => k (.vsl sz id p i n)
  | .map id, k => natK us id fun id => k (.map id)
  | .agg ps, k => nrmLK us ps fun ps => k (.agg ps)
  | .tup ps, k => nrmLK us ps fun ps => k (.tup ps)
  | .func f a c, k => nrmLK us a fun a => nrmLK us c fun c => k (.func f a c)
  | .iface t x, k => nrmK us x fun x => k (.iface t x)
  | .int a b, k => k (.int a b)
  | .bool b, k => k (.bool b)
  | .str l, k => k (.str l)
  | .vec sz n g, k => k (.vec sz n g)
  | .ro sz n g, k => k (.ro sz n g)
  | .rol sz n g, k => k (.rol sz n g)
  | .rop x, k => k (.rop x)
  | .nils, k => k .nils
  | .nilp, k => k .nilp
  | .nilm, k => k .nilm
  | .nilf, k => k .nilf
  | .nili, k => k .nili
  | .any, k => k .any
def nrmLK (us : List Nat) : List A → (List A → α) → α
  | [], k => k []
  | x :: xs, k => nrmK us x fun x => nrmLK us xs fun xs => k (x :: xs)
end
mutual
theorem nrmK_eq (us : List Nat) : ∀ (x : A) (k : A → α), nrmK us x k = k x
  | .own .., k | .owl .., k | .owk .., k | .ptr .., k | .vsl .., k | .map _, k => by simp only [nrmK, natK_eq]
  | .agg ps, k => by simp only [nrmK, nrmLK_eq us ps]
  | .tup ps, k => by simp only [nrmK, nrmLK_eq us ps]
  | .func f a c, k => by simp only [nrmK, nrmLK_eq us a, nrmLK_eq us c]
  | .iface t x, k => by simp only [nrmK, nrmK_eq us x]
  | .int .., k | .bool _, k | .str _, k | .vec .., k | .ro .., k | .rol .., k | .rop _, k | .nils, k | .nilp, k | .nilm, k | .nilf, k | .nili, k | .any, k => by simp only [nrmK]
theorem nrmLK_eq (us : List Nat) : ∀ (x : List A) (k : List A → α), nrmLK us x k = k x
  | [], k => by simp only [nrmLK]
  | x :: xs, k => by simp only [nrmLK, nrmK_eq us x, nrmLK_eq us xs]
end
def nrmRK (us : List Nat) : List (Nat × Option Obj) → (List (Nat × Option Obj) → α) → α
  | [], k => k []
  | (n, none) :: l, k => natK us n fun n => nrmRK us l fun l => k ((n, none) :: l)
  | (n, some (.var x)) :: l, k => natK us n fun n => nrmK us x fun x => nrmRK us l fun l => k ((n, some (.var x)) :: l)
  | (n, some (.pmap ks xs)) :: l, k => natK us n fun n => nrmLK us xs fun xs => nrmRK us l fun l => k ((n, some (.pmap ks xs)) :: l)
  | (n, some ob) :: l, k => natK us n fun n => nrmRK us l fun l => k ((n, some ob) :: l)
theorem nrmRK_eq (us : List Nat) : ∀ (l : List (Nat × Option Obj)) (k : List (Nat × Option Obj) → α), nrmRK us l k = k l
  | [], k => rfl
  | (n, none) :: l, k => by simp only [nrmRK, natK_eq, nrmRK_eq us l]
  | (n, some (.var x)) :: l, k => by simp only [nrmRK, natK_eq, nrmK_eq, nrmRK_eq us l]
  | (n, some (.arr ..)) :: l, k => by simp only [nrmRK, natK_eq, nrmRK_eq us l]
  | (n, some (.smap ..)) :: l, k => by simp only [nrmRK, natK_eq, nrmRK_eq us l]
  | (n, some (.pmap ..)) :: l, k => by simp only [nrmRK, natK_eq, nrmLK_eq, nrmRK_eq us l]
end

/-! ### which name is which -/
mutual
/-- Pairs of told and present names: the first one is present. -/
def pA : A → A → List (Nat × Nat) → List (Nat × Nat)
  | .own _ id _ _, y, acc => (match y with | .own _ id' _ _ => (id', id) :: acc | .owk _ id' _ _ _ => (id', id) :: acc | _ => acc)
  | .owl _ id _ _, y, acc => (match y with | .owl _ id' _ _ => (id', id) :: acc | _ => acc)
  | .owk _ id _ _ _, y, acc => (match y with | .owk _ id' _ _ _ => (id', id) :: acc | .own _ id' _ _ => (id', id) :: acc | _ => acc)
  | .ptr id _, y, acc => (match y with | .ptr id' _ => (id', id) :: acc | _ => acc)
  | .vsl _ id _ _ _, y, acc => (match y with | .vsl _ id' _ _ _ => (id', id) :: acc | _ => acc)
  | .map id, y, acc => (match y with | .map id' => (id', id) :: acc | _ => acc)
  | .agg ps, y, acc => (match y with | .agg qs => pLA ps qs acc | _ => acc)
  | .tup ps, y, acc => (match y with | .tup qs => pLA ps qs acc | _ => acc)
  | .func _ a c, y, acc => (match y with | .func _ a' c' => pLA a a' (pLA c c' acc) | _ => acc)
  | .iface _ x, y, acc => (match y with | .iface _ y => pA x y acc | _ => acc)
  | _, _, acc => acc
def pLA : List A → List A → List (Nat × Nat) → List (Nat × Nat)
  | x :: xs, ys, acc => (match ys with | y :: ys => pA x y (pLA xs ys acc) | [] => acc)
  | [], _, acc => acc
end
def pO : Option (Option Obj) → Option (Option Obj) → List (Nat × Nat)
  | some (some (.var x)), some (some (.var y)) => pA x y []
  | some (some (.pmap _ xs)), some (some (.pmap _ ys)) => pLA xs ys []
  | _, _ => []
/-- What is reached from some pairs: r the present objects, r' those told. -/
def reachP (r r' : List (Nat × Option Obj)) : Nat → List (Nat × Nat) → List (Nat × Nat) → List (Nat × Nat)
  | 0, _, acc => acc
  | _ + 1, [], acc => acc
  | f + 1, (m, n) :: todo, acc => match look acc m with
    | some _ => reachP r r' f todo acc
    | none => reachP r r' f (appT (pO (look r n) (look r' m)) todo) ((m, n) :: acc)
/-- From slots. -/
def pT (τ : List (Nat × A)) : List (Nat × A) → List (Nat × Nat)
  | [] => []
  | (t, y) :: l => match look τ t with
    | some x => pA x y (pT τ l)
    | none => pT τ l
/-- The pairs in the order of the told names; 'none': there is none. -/
def orderP (acc : List (Nat × Nat)) : List Nat → List (Nat × Nat)
  | [] => []
  | m :: l => match look acc m with
    | some n => (m, n) :: orderP acc l
    | none => orderP acc l
def keptP : List (Nat × Nat) → List Nat → List (Nat × Nat)
  | acc, [] => acc
  | acc, m :: l => match Nat.ble 1000 m with
    | true => (m, m) :: keptP acc l
    | false => keptP acc l
def lackN (acc : List (Nat × Nat)) : List Nat → List Nat
  | [] => []
  | m :: l => match look acc m with
    | some _ => lackN acc l
    | none => m :: lackN acc l
/-- What is lent. -/
def ldA : List A → List A → List Nat
  | v :: vs, x :: xs => (match v with
    | .own _ id _ _ => (match x with | .ro .. => id :: ldA vs xs | _ => ldA vs xs)
    | .vsl _ id _ _ _ => (match x with | .ro .. => id :: ldA vs xs | _ => ldA vs xs)
    | .ptr id _ => (match x with | .rop _ => id :: ldA vs xs | _ => ldA vs xs)
    | _ => ldA vs xs)
  | _, _ => []
def poolN : List Nat := [600, 601, 602, 603, 604, 605, 606, 607, 608, 609, 610, 611, 612, 613, 614, 615, 616, 617, 618, 619, 620, 621, 622, 623, 624, 625, 626, 627, 628, 629, 630, 631, 632, 633, 634, 635, 636, 637, 638, 639, 640, 641, 642, 643, 644, 645, 646, 647, 648, 649, 650, 651, 652, 653, 654, 655, 656, 657, 658, 659, 660, 661, 662, 663, 664, 665, 666, 667, 668, 669, 670, 671, 672, 673, 674, 675, 676, 677, 678, 679, 680, 681, 682, 683, 684, 685, 686, 687, 688, 689, 690, 691, 692, 693, 694, 695, 696, 697, 698, 699, 700, 701, 702, 703, 704, 705, 706, 707, 708, 709, 710, 711, 712, 713, 714, 715, 716, 717, 718, 719, 720, 721, 722, 723, 724, 725, 726, 727, 728, 729, 730, 731, 732, 733, 734, 735, 736, 737, 738, 739, 740, 741, 742, 743, 744, 745, 746, 747, 748, 749]
/-- New names, as many as in the second list. -/
def newK {α : Sort _} (us : List Nat) : List Nat → List Nat → (List Nat → α) → α
  | c :: cs, m :: ms, k => match hasN us c with
    | true => newK us cs (m :: ms) k
    | false => newK us cs ms fun l => k (c :: l)
  | _, _, k => k []
/-- The names of a call. -/
def autoK {α : Sort _} (us : List Nat) (r : List (Nat × Option Obj)) (vs xs : List A) (rc : List (Nat × Option Obj)) (new : List Nat) (k : List (Nat × Nat) → List Nat → List Nat → α) : α :=
  litK (pLA vs xs []) fun l => litK (reachP r rc 40 l []) fun acc => litK (orderP acc (keys rc)) fun π => copK (ldA vs xs) fun ld => newK us poolN new fun ns => k π ld ns
theorem newK_ex {α : Sort _} {us : List Nat} : ∀ {cs ms : List Nat} {k : List Nat → α}, ∃ l, newK us cs ms k = k l
  | [], _, k => ⟨[], rfl⟩
  | c :: cs, [], k => ⟨[], rfl⟩
  | c :: cs, m :: ms, k => by
    unfold newK
    split
    · exact newK_ex
    · obtain ⟨l, h⟩ := newK_ex (cs := cs) (ms := ms) (k := fun l => k (c :: l))
      exact ⟨c :: l, h⟩
theorem autoK_ex {α : Sort _} {us : List Nat} {r : List (Nat × Option Obj)} {vs xs : List A} {rc : List (Nat × Option Obj)} {new : List Nat} {k : List (Nat × Nat) → List Nat → List Nat → α} :
    ∃ π ld ns, autoK us r vs xs rc new k = k π ld ns := by
  unfold autoK
  simp only [litK_eq, copK_eq]
  obtain ⟨l, h⟩ := newK_ex (us := us) (cs := poolN) (ms := new) (k := fun ns => k (orderP (reachP r rc 40 (pLA vs xs []) []) (keys rc)) (ldA vs xs) ns)
  exact ⟨_, _, l, h⟩
def flOK (ld : List Nat) (y : A) (r : List (Nat × Option Obj)) : Prop := match ld with
  | [] => True
  | _ :: _ => y.flat ∧ flatR r
theorem flOK_ok {ld : List Nat} {y : A} {r : List (Nat × Option Obj)} (h : flOK ld y r) : ld = [] ∨ (y.flat ∧ flatR r) := by
  cases ld with
  | nil => exact .inl rfl
  | cons => exact .inr h
/-- A list in front of another one. -/
def catK {α : Sort _} {β : Type} : List β → List β → (List β → α) → α
  | [], r, k => k r
  | x :: l, r, k => catK l r fun r => k (x :: r)
theorem catK_eq {α : Sort _} {β : Type} : ∀ (l r : List β) (k : List β → α), catK l r k = k (l ++ r)
  | [], _, _ => rfl
  | _ :: l, r, k => catK_eq l r _

section
variable {Γ : Ctx} {P : Program} {Q : Act → World → Prop} {ops : Array Oper} {k' : List Item}
/-- A call; the names are found by looking. -/
theorem W.callA {f : FuncId} {xs : List A} {rc : List (Nat × Option Obj)} {new : List Nat} {y0 : A} {r0 : List (Nat × Option Obj)} (hS : Does P f xs rc new (Is y0 r0)) (hf : callOK P f = true)
    {g : List (Nat × Nat × Bool)} {i : Nat} {l : List Nat} {k : List Item} {τ : List (Nat × A)} {r : List (Nat × Option Obj)} {us : List Nat} {o : Oper} {vs : List A} (ho : ops.toList[i]? = some o) (hg : guardOf o g = some true)
    (hcal : callee τ o = some (f, vs)) {nt : Nat} (hnt : nt = Γ.n) (hdst : dstOk nt g o.dst = true)
    (h : autoK us r vs xs rc new fun π ld ns => keys π = keys rc ∧ callChk us r π ld new ns rc = true ∧ lentL π r ld vs xs ∧ subR π r rc ∧ flOK ld y0 r0 ∧
      catK ns us fun us' => nrmK us' (y0.ren (callRen (zipN new ns) π)) fun y => nrmRK us' (renR (callRen (zipN new ns) π) r0) fun w => putK o.dst y τ fun τ' => catK w (gone (vals π) r) fun r' =>
        W Γ P Q g (.inRegion ops l :: k) τ' r' us') :
    W Γ P Q g (.inRegion ops (i :: l) :: k) τ r us := by
  obtain ⟨π, ld, ns, he⟩ := autoK_ex (us := us) (r := r) (vs := vs) (xs := xs) (rc := rc) (new := new) (k := fun π ld ns => keys π = keys rc ∧ callChk us r π ld new ns rc = true ∧ lentL π r ld vs xs ∧ subR π r rc ∧ flOK ld y0 r0 ∧
      catK ns us fun us' => nrmK us' (y0.ren (callRen (zipN new ns) π)) fun y => nrmRK us' (renR (callRen (zipN new ns) π) r0) fun w => putK o.dst y τ fun τ' => catK w (gone (vals π) r) fun r' =>
        W Γ P Q g (.inRegion ops l :: k) τ' r' us')
  rw [he] at h
  obtain ⟨h1, h2, h3, h4, h5, h6⟩ := h
  rw [catK_eq, nrmK_eq, nrmRK_eq, putK_eq, catK_eq] at h6
  exact W.callF hS hf ho hg hcal π ld ns h1 h2 hnt hdst h3 h4 (flOK_ok h5) (by rw [appN_eq, appR_eq]; exact h6)
/-- The same, where the order is drawn. -/
theorem D.callA {done : List FM} {f : FuncId} {xs : List A} {rc : List (Nat × Option Obj)} {new : List Nat} {y0 : A} {r0 : List (Nat × Option Obj)} (hS : Does P f xs rc new (Is y0 r0)) (hf : callOK P f = true)
    {g : List (Nat × Nat × Bool)} {i : Nat} {l : List Nat} {τ : List (Nat × A)} {r : List (Nat × Option Obj)} {us : List Nat} {o : Oper} {vs : List A} (ho : ops.toList[i]? = some o) (hg : guardOf o g = some true)
    (hcal : callee τ o = some (f, vs)) {nt : Nat} (hnt : nt = Γ.n) (hdst : dstOk nt g o.dst = true)
    (h : autoK us r vs xs rc new fun π ld ns => keys π = keys rc ∧ callChk us r π ld new ns rc = true ∧ oldN ns (appN ld (vals π)) (keys (appR (renR (callRen (zipN new ns) π) r0) (gone (vals π) []))) = true ∧ lentL π r ld vs xs ∧ subR π r rc ∧ flOK ld y0 r0 ∧
      catK ns us fun us' => nrmK us' (y0.ren (callRen (zipN new ns) π)) fun y => nrmRK us' (renR (callRen (zipN new ns) π) r0) fun w => catK w (gone (vals π) []) fun w' => chkK ops i (callEff ops i o y ld π w' ns).f done
        (fun m => putK o.dst y τ fun τ' => catK w (gone (vals π) r) fun r' => D Γ P Q ops k' g (m :: done) l τ' r' us') False) :
    D Γ P Q ops k' g done (i :: l) τ r us := by
  obtain ⟨π, ld, ns, he⟩ := autoK_ex (us := us) (r := r) (vs := vs) (xs := xs) (rc := rc) (new := new) (k := fun π ld ns => keys π = keys rc ∧ callChk us r π ld new ns rc = true ∧ oldN ns (appN ld (vals π)) (keys (appR (renR (callRen (zipN new ns) π) r0) (gone (vals π) []))) = true ∧ lentL π r ld vs xs ∧ subR π r rc ∧ flOK ld y0 r0 ∧
      catK ns us fun us' => nrmK us' (y0.ren (callRen (zipN new ns) π)) fun y => nrmRK us' (renR (callRen (zipN new ns) π) r0) fun w => catK w (gone (vals π) []) fun w' => chkK ops i (callEff ops i o y ld π w' ns).f done
        (fun m => putK o.dst y τ fun τ' => catK w (gone (vals π) r) fun r' => D Γ P Q ops k' g (m :: done) l τ' r' us') False)
  rw [he] at h
  obtain ⟨h1, h2, h0, h3, h4, h5, h6⟩ := h
  rw [catK_eq, nrmK_eq, nrmRK_eq, catK_eq] at h6
  refine D.callF hS hf ho hg hcal π ld ns h1 h2 hnt hdst h3 h4 (flOK_ok h5) h0 ?_
  rw [appR_eq]
  simp only [putK_eq, renK_eq, catK_eq, appN_eq, appR_eq] at h6 ⊢
  exact h6
/-- A call that comes back with a new slice, which does not change any more. -/
theorem W.callAZ {f : FuncId} {xs : List A} {rc : List (Nat × Option VX.Obj)} {new : List Nat} {sz nm n m : Nat} {G : Nat → A} {r0 : List (Nat × Option VX.Obj)} (hS : Does P f xs rc new (Is (.own sz nm 0 n) ((nm, some (.arr sz m G)) :: r0))) (hf : callOK P f = true)
    {g : List (Nat × Nat × Bool)} {i : Nat} {l : List Nat} {k : List Item} {τ : List (Nat × A)} {r : List (Nat × Option VX.Obj)} {us : List Nat} {o : Oper} {vs : List A} (ho : ops.toList[i]? = some o) (hg : guardOf o g = some true)
    (hcal : callee τ o = some (f, vs)) {nt : Nat} (hnt : nt = Γ.n) (hdst : dstOk nt g o.dst = true)
    (h : autoK us r vs xs rc new fun π ld ns => keys π = keys rc ∧ callChk us r π ld new ns rc = true ∧ lentL π r ld vs xs ∧ subR π r rc ∧ n ≤ m ∧ flOK ld (.own sz nm 0 n) ((nm, some (.arr sz m G)) :: r0) ∧
      catK ns us fun us' => nrmRK us' ((callRen (zipN new ns) π nm, none) :: renR (callRen (zipN new ns) π) r0) fun w => putK o.dst (.ro sz n G) τ fun τ' => catK w (gone (vals π) r) fun r' =>
        W Γ P Q g (.inRegion ops l :: k) τ' r' us') :
    W Γ P Q g (.inRegion ops (i :: l) :: k) τ r us := by
  obtain ⟨π, ld, ns, he⟩ := autoK_ex (us := us) (r := r) (vs := vs) (xs := xs) (rc := rc) (new := new) (k := fun π ld ns => keys π = keys rc ∧ callChk us r π ld new ns rc = true ∧ lentL π r ld vs xs ∧ subR π r rc ∧ n ≤ m ∧ flOK ld (.own sz nm 0 n) ((nm, some (.arr sz m G)) :: r0) ∧
      catK ns us fun us' => nrmRK us' ((callRen (zipN new ns) π nm, none) :: renR (callRen (zipN new ns) π) r0) fun w => putK o.dst (.ro sz n G) τ fun τ' => catK w (gone (vals π) r) fun r' =>
        W Γ P Q g (.inRegion ops l :: k) τ' r' us')
  rw [he] at h
  obtain ⟨h1, h2, h3, h4, hn, h5, h6⟩ := h
  rw [catK_eq, nrmRK_eq, putK_eq, catK_eq] at h6
  exact W.callZ hS hf ho hg hcal π ld ns h1 h2 hnt hdst h3 h4 hn (flOK_ok h5) (by rw [appN_eq, appR_eq]; exact h6)
/-- The same, where the order is drawn. -/
theorem D.callAZ {done : List FM} {f : FuncId} {xs : List A} {rc : List (Nat × Option VX.Obj)} {new : List Nat} {sz nm n m : Nat} {G : Nat → A} {r0 : List (Nat × Option VX.Obj)} (hS : Does P f xs rc new (Is (.own sz nm 0 n) ((nm, some (.arr sz m G)) :: r0))) (hf : callOK P f = true)
    {g : List (Nat × Nat × Bool)} {i : Nat} {l : List Nat} {τ : List (Nat × A)} {r : List (Nat × Option VX.Obj)} {us : List Nat} {o : Oper} {vs : List A} (ho : ops.toList[i]? = some o) (hg : guardOf o g = some true)
    (hcal : callee τ o = some (f, vs)) {nt : Nat} (hnt : nt = Γ.n) (hdst : dstOk nt g o.dst = true)
    (h : autoK us r vs xs rc new fun π ld ns => keys π = keys rc ∧ callChk us r π ld new ns rc = true ∧ oldN ns (appN ld (vals π)) (keys ((callRen (zipN new ns) π nm, none) :: appR (renR (callRen (zipN new ns) π) r0) (gone (vals π) []))) = true ∧ lentL π r ld vs xs ∧ subR π r rc ∧ n ≤ m ∧ flOK ld (.own sz nm 0 n) ((nm, some (.arr sz m G)) :: r0) ∧
      catK ns us fun us' => nrmRK us' ((callRen (zipN new ns) π nm, none) :: renR (callRen (zipN new ns) π) r0) fun w => catK w (gone (vals π) []) fun w' => chkK ops i (callEff ops i o (.ro sz n G) ld π w' ns).f done
        (fun m => putK o.dst (.ro sz n G) τ fun τ' => catK w (gone (vals π) r) fun r' => D Γ P Q ops k' g (m :: done) l τ' r' us') False) :
    D Γ P Q ops k' g done (i :: l) τ r us := by
  obtain ⟨π, ld, ns, he⟩ := autoK_ex (us := us) (r := r) (vs := vs) (xs := xs) (rc := rc) (new := new) (k := fun π ld ns => keys π = keys rc ∧ callChk us r π ld new ns rc = true ∧ oldN ns (appN ld (vals π)) (keys ((callRen (zipN new ns) π nm, none) :: appR (renR (callRen (zipN new ns) π) r0) (gone (vals π) []))) = true ∧ lentL π r ld vs xs ∧ subR π r rc ∧ n ≤ m ∧ flOK ld (.own sz nm 0 n) ((nm, some (.arr sz m G)) :: r0) ∧
      catK ns us fun us' => nrmRK us' ((callRen (zipN new ns) π nm, none) :: renR (callRen (zipN new ns) π) r0) fun w => catK w (gone (vals π) []) fun w' => chkK ops i (callEff ops i o (.ro sz n G) ld π w' ns).f done
        (fun m => putK o.dst (.ro sz n G) τ fun τ' => catK w (gone (vals π) r) fun r' => D Γ P Q ops k' g (m :: done) l τ' r' us') False)
  rw [he] at h
  obtain ⟨h1, h2, h0, h3, h4, hn, h5, h6⟩ := h
  rw [catK_eq, nrmRK_eq, catK_eq] at h6
  refine D.callZ hS hf ho hg hcal π ld ns h1 h2 hnt hdst h3 h4 hn (flOK_ok h5) h0 ?_
  rw [appR_eq]
  simp only [putK_eq, renK_eq, catK_eq, appN_eq, appR_eq, List.cons_append] at h6 ⊢
  exact h6
end
end VX

/- VX 38: a state seen as another one, its names found by looking; some of it frozen; loops and returns by that. -/
namespace VX
open Go

section
variable {P : Program} {Γ : Ctx} {I : Imm} {ρ : Ren} {r : List (Nat × Option Obj)} {us : List Nat} {w : World} {ld : List Nat} {π : List (Nat × Nat)}
mutual
/-- v seen as x, in its parts; ld: what is frozen. -/
def lentD (π : List (Nat × Nat)) (r : List (Nat × Option Obj)) (ld : List Nat) : A → A → Prop
  | .agg ps, y => (match y with | .agg qs => lentDL π r ld ps qs | _ => False)
  | .tup ps, y => (match y with | .tup qs => lentDL π r ld ps qs | _ => False)
  | x, y => lent π r ld x y
def lentDL (π : List (Nat × Nat)) (r : List (Nat × Option Obj)) (ld : List Nat) : List A → List A → Prop
  | [], ys => (match ys with | [] => True | _ => False)
  | x :: xs, ys => (match ys with | y :: ys => lentD π r ld x y ∧ lentDL π r ld xs ys | [] => False)
end
def lentDT (π : List (Nat × Nat)) (r : List (Nat × Option Obj)) (ld : List Nat) (x : A) : A → Prop
  | .any => True
  | y => lentD π r ld x y
def lentO (π : List (Nat × Nat)) (r : List (Nat × Option Obj)) (ld : List Nat) : Obj → Obj → Prop
  | .var x, .var y => lentD π r ld x y
  | .arr sz n g, .arr sz' n' g' => sz = sz' ∧ n' ≤ n ∧ ∀ i, i < n' → (g i).sim (g' i)
  | .smap z ks g, .smap z' ks' g' => z = z' ∧ ks = ks' ∧ g = g'
  | .pmap ks xs, .pmap ks' xs' => ks = ks' ∧ lentDL π r ld xs xs'
  | _, _ => False
def lentS (π : List (Nat × Nat)) (r : List (Nat × Option Obj)) (ld : List Nat) (τ : List (Nat × A)) : List (Nat × A) → Prop
  | [] => True
  | (t, y) :: l => (match look τ t with | some x => lentDT π r ld x y | none => False) ∧ lentS π r ld τ l
def lentR (π : List (Nat × Nat)) (r : List (Nat × Option Obj)) (ld : List Nat) : List (Nat × Option Obj) → Prop
  | [] => True
  | (m, ob') :: l => (match ob' with
    | none => True
    | some ob' => match look π m with
      | some n => (match look r n with
        | some (some ob) => lentO π r ld ob ob'
        | _ => False)
      | none => False) ∧ lentR π r ld l

def DOK (I : Imm) (ρ : Ren) (w : World) (r : List (Nat × Option Obj)) (ld : List Nat) (π : List (Nat × Nat)) (x : A) : Prop :=
  (∀ y v, lentD π r ld x y → R I ρ x v → R (lendI w ρ ld I) (viaRen π ρ) y v) ∧
  (∀ y vs, lentD π r ld x y → x.wf → RL I ρ x.cells vs → y.wf ∧ y.size = x.size ∧ isAgg y = isAgg x ∧ RL (lendI w ρ ld I) (viaRen π ρ) y.cells vs)
theorem lent_agg {x y : A} (h : lent π r ld x y) (hx : isAgg x = false) : isAgg y = false := by
  unfold lent at h
  split at h
  · rfl
  · rfl
  · rename_i q _ _ _
    rfl
  · have hw : x.wf := by cases x <;> simp_all [isAgg, A.wf]
    exact (A.le_wf h hw).2.2.trans hx
theorem DOK.one (hR : RW Γ I ρ r us w) (hl : liveN r ld = true) {x : A} (hx : isAgg x = false) (hd : ∀ y, lentD π r ld x y → lent π r ld x y ∨ (∃ l l', x = .tup l ∧ y = .tup l' ∧ lentDL π r ld l l'))
    (ht : ∀ l l' vs, x = .tup l → lentDL π r ld l l' → RL I ρ l vs → RL (lendI w ρ ld I) (viaRen π ρ) l' vs) : DOK I ρ w r ld π x := by
  have key : ∀ y v, lentD π r ld x y → R I ρ x v → R (lendI w ρ ld I) (viaRen π ρ) y v ∧ isAgg y = false := fun y v h hr => by
    rcases hd y h with h | ⟨l, l', rfl, rfl, h⟩
    · exact ⟨lent_ok hR hl h hr, lent_agg h hx⟩
    · obtain ⟨vs, rfl, h1⟩ := hr.tup_inv
      exact ⟨.tup (ht l l' _ rfl h h1), rfl⟩
  refine ⟨fun y v h hr => (key y v h hr).1, fun y vs h hw hr => ?_⟩
  rw [cells_of_one hx] at hr
  obtain ⟨v, rfl, hv⟩ := hr.one_inv
  obtain ⟨k1, k2⟩ := key y v h hv
  refine ⟨k1.wf, by rw [size_of_one hx, size_of_one k2], k2.trans hx.symm, ?_⟩
  rw [cells_of_one k2]
  exact .cons k1 .nil
mutual
theorem lentD_both (hR : RW Γ I ρ r us w) (hl : liveN r ld = true) : ∀ (x : A), DOK I ρ w r ld π x
  | .agg ps => by
    have hL := lentDL_both hR hl ps
    have key : ∀ y vs, lentD π r ld (.agg ps) y → (A.agg ps).wf → RL I ρ (A.agg ps).cells vs → y.wf ∧ y.size = (A.agg ps).size ∧ isAgg y = isAgg (A.agg ps) ∧ RL (lendI w ρ ld I) (viaRen π ρ) y.cells vs := fun y vs h hw hr => by
      unfold lentD at h
      split at h
      · rename_i qs
        obtain ⟨k1, k2, k3⟩ := hL.2 _ _ h hw hr
        exact ⟨k1, k2, rfl, k3⟩
      · exact h.elim
    refine ⟨fun y v h hr => ?_, key⟩
    obtain ⟨vs, rfl, hw, hr⟩ := hr.agg_inv rfl
    obtain ⟨k1, k2, k3, k4⟩ := key y vs h hw hr
    exact .agg k3 k1 k4
  | .tup ps => .one hR hl rfl (fun y h => by
      unfold lentD at h
      split at h
      · exact .inr ⟨_, _, rfl, rfl, h⟩
      · exact h.elim) (fun l l' vs e h hr => by cases e; exact (lentDL_both hR hl ps).1 _ _ h hr)
  | .vec sz n g => by
    have hd : ∀ y, lentD π r ld (.vec sz n g) y → A.le π (.vec sz n g) y := fun y h => by
      unfold lentD at h
      exact h
    have hv := A.le_both (I := I) (viaRen_via π ρ) (.vec sz n g)
    have hle := le_lendI (ld := ld) hR hl
    refine ⟨fun y v h hr => (hv.1 y v (hd y h) hr).mono hle (Ren.le.refl _), fun y vs h hw hr => ?_⟩
    have hy := A.le_wf (hd y h) hw
    exact ⟨hy.1, hy.2.1, hy.2.2, (hv.2 y vs (hd y h) hw hr).mono hle (Ren.le.refl _)⟩
  | .int .. | .bool _ | .str _ | .ro .. | .rol .. | .own .. | .owl .. | .owk .. | .ptr .. | .vsl .. | .rop _ | .nils | .nilp | .nilm | .nilf | .nili | .map _ | .func .. | .iface .. | .any =>
    .one hR hl rfl (fun y h => .inl (by unfold lentD at h; exact h)) (fun l l' vs e h hr => by cases e)
theorem lentDL_both (hR : RW Γ I ρ r us w) (hl : liveN r ld = true) : ∀ (x : List A), (∀ y vs, lentDL π r ld x y → RL I ρ x vs → RL (lendI w ρ ld I) (viaRen π ρ) y vs) ∧
    (∀ y vs, lentDL π r ld x y → A.wfL x → RL I ρ (A.cellsL x) vs → A.wfL y ∧ A.sizeL y = A.sizeL x ∧ RL (lendI w ρ ld I) (viaRen π ρ) (A.cellsL y) vs)
  | [] => by
    refine ⟨fun y vs h hr => ?_, fun y vs h hw hr => ?_⟩ <;> cases y <;> simp [lentDL] at h
    · cases hr; exact .nil
    · exact ⟨trivial, rfl, by cases hr; exact RL.nil⟩
  | x :: xs => by
    refine ⟨fun y vs h hr => ?_, fun y vs h hw hr => ?_⟩ <;> cases y <;> simp [lentDL] at h
    · cases hr with
      | cons a b => exact .cons ((lentD_both hR hl x).1 _ _ h.1 a) ((lentDL_both hR hl xs).1 _ _ h.2 b)
    · rw [A.cellsL] at hr
      obtain ⟨k1, k2⟩ := RL.split hr
      obtain ⟨a1, a2, _, a3⟩ := (lentD_both hR hl x).2 _ _ h.1 hw.1 k1
      obtain ⟨b1, b2, b3⟩ := (lentDL_both hR hl xs).2 _ _ h.2 hw.2 k2
      refine ⟨⟨a1, b1⟩, by simp only [A.sizeL, a2, b2], ?_⟩
      have e := RL.append a3 b3
      rw [List.take_append_drop] at e
      exact e
end
theorem lentDT_ok (hR : RW Γ I ρ r us w) (hl : liveN r ld = true) {x y : A} {v : Value} (h : lentDT π r ld x y) (hr : R I ρ x v) : R (lendI w ρ ld I) (viaRen π ρ) y v := by
  cases y <;> first | exact .any | exact (lentD_both hR hl x).1 _ _ h hr
theorem lentO_ok (hR : RW Γ I ρ r us w) (hl : liveN r ld = true) : ∀ {ob ob' : Obj} {vs : List Value}, lentO π r ld ob ob' → HoldsC I ρ ob vs → HoldsC (lendI w ρ ld I) (viaRen π ρ) ob' vs
  | .var x, .var y, vs, h, hr => let ⟨a, _, _, b⟩ := (lentD_both hR hl x).2 _ _ h hr.1 hr.2; ⟨a, b⟩
  | .arr sz n g, .arr sz' n' g', vs, h, hr => HoldsC.mono (le_lendI hR hl) (Ren.le.refl _) (Obj.le_ok (π := π) (viaRen_via π ρ) (ob := .arr sz n g) (ob' := .arr sz' n' g') h hr)
  | .var _, .arr .., _, h, _ | .var _, .smap .., _, h, _ | .arr .., .var _, _, h, _ | .arr .., .smap .., _, h, _ | .smap .., .var _, _, h, _ | .smap .., .arr .., _, h, _ => by simp [lentO] at h
  | .smap .., .smap .., _, _, hr => hr.elim
  | .pmap .., .var _, _, h, _ | .pmap .., .arr .., _, h, _ | .pmap .., .smap .., _, h, _ | .var _, .pmap .., _, h, _ | .arr .., .pmap .., _, h, _ | .smap .., .pmap .., _, h, _ => by simp [lentO] at h
  | .pmap .., .pmap .., _, _, hr => hr.elim
theorem lentS_look {τ : List (Nat × A)} : ∀ {τ' : List (Nat × A)}, lentS π r ld τ τ' → ∀ {t : Nat} {y : A}, look τ' t = some y → ∃ x, look τ t = some x ∧ lentDT π r ld x y
  | [], _, t, y, h => by simp [look] at h
  | (t', y') :: l, hs, t, y, h => by
    rw [look_cons] at h
    by_cases e : t' = t
    · subst e
      simp only [if_true, Option.some.injEq] at h
      subst h
      have h1 := hs.1
      cases hx : look τ t' with
      | none => rw [hx] at h1; exact h1.elim
      | some x => rw [hx] at h1; exact ⟨x, rfl, h1⟩
    · rw [if_neg e] at h
      exact lentS_look hs.2 h
theorem lentR_look : ∀ {r' : List (Nat × Option Obj)}, lentR π r ld r' → ∀ {m : Nat} {ob' : Obj}, look r' m = some (some ob') → ∃ n ob, look π m = some n ∧ look r n = some (some ob) ∧ lentO π r ld ob ob'
  | [], _, m, ob', h => by simp [look] at h
  | (k, o) :: l, hs, m, ob', h => by
    rw [look_cons] at h
    by_cases e : k = m
    · subst e
      simp only [if_true, Option.some.injEq] at h
      subst h
      have h1 := hs.1
      simp only at h1
      split at h1
      · rename_i n hn
        split at h1
        · rename_i ob hob; exact ⟨n, ob, hn, hob, h1⟩
        · exact h1.elim
      · exact h1.elim
    · rw [if_neg e] at h
      exact lentR_look hs.2 h
def subN : List Nat → List Nat → Bool
  | [], _ => true
  | n :: l, us => match hasN us n with
    | true => subN l us
    | false => false
theorem subN_ok : ∀ {l us : List Nat}, subN l us = true → ∀ {n : Nat}, hasN l n = true → hasN us n = true
  | [], _, _, n, h => by simp [hasN] at h
  | m :: l, us, hs, n, h => by
    unfold subN at hs
    split at hs
    · rename_i hm
      rw [hasN_cons, Bool.or_eq_true, decide_eq_true_eq] at h
      rcases h with rfl | h
      · exact hm
      · exact subN_ok hs h
    · cases hs
/-- Of objects: some are frozen, the others have new names. -/
theorem RW.see {r' : List (Nat × Option Obj)} {us' : List Nat} (hR : RW Γ I ρ r us w) (hl : liveN r ld = true) (hap : apartN ld (vals π) = true) (hn : nodupN (vals π) = true) (hk : keepN π = true) (hu : subN (keys π) us' = true) (hsub : lentR π r ld r') :
    RW Γ (lendI w ρ ld I) (viaRen π ρ) r' us' w := by
  have hv := viaRen_via π ρ
  have hle := le_lendI (ld := ld) hR hl
  refine ⟨fun b o v h => ?_, fun m ob' hm => ?_, fun m m' ob ob' b N N' hm hm' hb hb' => ?_, fun m hm => ?_, ?_, fun m l hm hl => ?_⟩
  · unfold lendI at h
    split at h
    · exact h
    · exact hR.imm _ _ _ h
  · obtain ⟨id, ob, h1, h2, h3⟩ := lentR_look hsub hm
    obtain ⟨l, hl', ho⟩ := hR.own id ob h2
    refine ⟨l, hv _ _ _ h1 hl', ?_⟩
    cases l with
    | nil => cases ob <;> cases ob' <;> simp_all [Own, lentO]
    | blk b N =>
      obtain ⟨o, hb, hh⟩ := ho.blk
      refine ⟨fun o => ?_, ho.mine, o, hb, ?_⟩
      · unfold lendI
        rw [if_neg]
        · exact ho.noI o
        · intro hL
          obtain ⟨id2, N2, ob2, g1, g2, g3, _⟩ := hL.own hR hl
          have := hR.inj id id2 _ _ b N N2 h2 g2 hl' g3
          subst this
          rw [apartN_ok hap (look_vals h1)] at g1
          cases g1
      · cases o with
        | cells vs e fz => exact ⟨hh.1, hh.2.1, lentO_ok hR hl h3 hh.2.2.1, hh.2.2.2⟩
        | map es c =>
          obtain ⟨h0, hh⟩ := hh
          cases ob <;> simp only at hh
          · cases ob' <;> simp [lentO] at h3
            obtain ⟨rfl, rfl, rfl⟩ := h3
            exact ⟨h0, hh.mono (le_lendI hR hl)⟩
          · cases ob' <;> simp [lentO] at h3
            obtain ⟨rfl, h3⟩ := h3
            exact ⟨h0, hh.1, hh.2.1, hh.2.2.1, (lentDL_both hR hl _).1 _ _ h3 hh.2.2.2⟩
        | _ => simp [BlkHolds] at hh
  · obtain ⟨n, o1, h1, h2, _⟩ := lentR_look hsub hm
    obtain ⟨n', o1', h1', h2', _⟩ := lentR_look hsub hm'
    simp only [viaRen, h1, h1', Option.bind_some] at hb hb'
    have := hR.inj n n' o1 o1' b N N' h2 h2' hb hb'
    subst this
    exact nodup_inj hn h1 h1'
  · cases e : look π m with
    | none => simp [viaRen, e]
    | some n =>
      have := subN_ok hu (look_keys e)
      rw [usedN_hasN hm] at this
      cases this
  · have hF := hR.frame
    refine ⟨hF.size, hF.blocks, fun b hb hf o => ?_, hF.le.trans hle, hF.os, hF.tape, hF.output⟩
    unfold lendI
    rw [if_neg]
    · exact hF.imm b hb hf o
    · intro hL
      obtain ⟨id2, N2, ob2, g1, g2, g3, hO⟩ := hL.own hR hl
      rcases hO.mine with h | h
      · exact hf h
      · omega
  · cases e : look π m with
    | none => simp [viaRen, e] at hl
    | some n =>
      have := keepN_ok hk e hm
      subst this
      simp only [viaRen, e, Option.bind_some] at hl
      exact hR.keep _ _ hm hl
theorem Weak.see {τ τ' : List (Nat × A)} {r' : List (Nat × Option Obj)} {us' : List Nat} (hl : liveN r ld = true) (hap : apartN ld (vals π) = true)
    (hn : nodupN (vals π) = true) (hk : keepN π = true) (hu : subN (keys π) us' = true) (ht : lentS π r ld τ τ') (hsub : lentR π r ld r') : Weak τ r us τ' r' us' := by
  intro Γ I ρ w n a hR hS
  refine ⟨lendI w ρ ld I, viaRen π ρ, hR.see hl hap hn hk hu hsub, hS.size, hS.defers, fun t y hy => ?_⟩
  obtain ⟨x, hx, h⟩ := lentS_look ht hy
  exact ⟨(hS.at_ t x hx).1, lentDT_ok hR hl h (hS.at_ t x hx).2⟩

/-! ### slices of nothing get names -/
def nilR : List (Nat × Nat) → List (Nat × Option Obj) → List (Nat × Option Obj)
  | [], r => r
  | (n, sz) :: l, r => nilR l ((n, some (.arr sz 0 fun _ => .any)) :: r)
def nilU : List (Nat × Nat) → List Nat → List Nat
  | [], us => us
  | (n, _) :: l, us => nilU l (n :: us)
def nilOK : List Nat → List (Nat × Nat) → Bool
  | _, [] => true
  | us, (n, _) :: l => !usedN us n && nilOK (n :: us) l
theorem RW.nils : ∀ {L : List (Nat × Nat)} {ρ : Ren} {r : List (Nat × Option Obj)} {us : List Nat}, nilOK us L = true → RW Γ I ρ r us w → ∃ ρ', ρ.le ρ' ∧ RW Γ I ρ' (nilR L r) (nilU L us) w
  | [], ρ, _, _, _, h => ⟨ρ, Ren.le.refl ρ, h⟩
  | (n, sz) :: L, ρ, r, us, hn, h => by
    rw [nilOK, Bool.and_eq_true, Bool.not_eq_true'] at hn
    obtain ⟨ρ', h1, h2⟩ := RW.nils hn.2 (h.allocNil hn.1 (sz := sz) (g := fun _ => .any))
    exact ⟨ρ', (Ren.le_set (h.names n hn.1)).trans h1, h2⟩
end

/-! ### looking -/
section
mutual
def ldD : A → A → List Nat → List Nat
  | .own _ id _ _, y, acc => (match y with | .ro .. => id :: acc | _ => acc)
  | .vsl _ id _ _ _, y, acc => (match y with | .ro .. => id :: acc | _ => acc)
  | .ptr id _, y, acc => (match y with | .rop _ => id :: acc | _ => acc)
  | .agg ps, y, acc => (match y with | .agg qs => ldDL ps qs acc | _ => acc)
  | .tup ps, y, acc => (match y with | .tup qs => ldDL ps qs acc | _ => acc)
  | _, _, acc => acc
def ldDL : List A → List A → List Nat → List Nat
  | x :: xs, ys, acc => (match ys with | y :: ys => ldD x y (ldDL xs ys acc) | [] => acc)
  | [], _, acc => acc
end
def ldT (τ : List (Nat × A)) : List (Nat × A) → List Nat → List Nat
  | [], acc => acc
  | (t, y) :: l, acc => match look τ t with
    | some x => ldD x y (ldT τ l acc)
    | none => ldT τ l acc
def ldR (r r' : List (Nat × Option Obj)) : List (Nat × Nat) → List Nat → List Nat
  | [], acc => acc
  | (m, n) :: l, acc => match look r n with
    | some (some (.var x)) => (match look r' m with
      | some (some (.var y)) => ldD x y (ldR r r' l acc)
      | _ => ldR r r' l acc)
    | _ => ldR r r' l acc
/-- Each once. -/
def onceN : List Nat → List Nat
  | [] => []
  | n :: l => match hasN l n with
    | true => onceN l
    | false => n :: onceN l
def szAt (r' : List (Nat × Option Obj)) (m : Nat) : Nat := match look r' m with
  | some (some (.arr sz _ _)) => sz
  | _ => 0
def nilL (r' : List (Nat × Option Obj)) : List Nat → List Nat → List (Nat × Nat)
  | m :: ms, n :: ns => (n, szAt r' m) :: nilL r' ms ns
  | _, _ => []
variable {α : Sort _}
/-- The names of what is told. -/
def toldN (r' : List (Nat × Option Obj)) : List Nat → List Nat
  | [] => []
  | n :: l => match look r' n with
    | some (some _) => n :: toldN r' l
    | _ => toldN r' l
/-- From pairs to begin with: the names; what is frozen; which slices of nothing get names. -/
def seeK (us : List Nat) (r : List (Nat × Option Obj)) (l0 : List (Nat × Nat)) (r' : List (Nat × Option Obj)) (us' : List Nat) (ld0 : List Nat) (k : List (Nat × Nat) → List (Nat × Nat) → List Nat → α) : α :=
  litK l0 fun l => copK (toldN r' us') fun us' => litK (keptP l us') fun l => litK (reachP r r' 60 l []) fun acc => copK (lackN acc us') fun ms => newK us poolN ms fun ns => litK (orderP (appT acc (zipN ms ns)) us') fun π => litK (nilL r' ms ns) fun L =>
    copK (ldR r r' acc ld0) fun ld => copK (onceN ld) fun ld => k π L ld
theorem seeK_ex {us : List Nat} {r : List (Nat × Option Obj)} {l0 : List (Nat × Nat)} {r' : List (Nat × Option Obj)} {us' ld0 : List Nat} {k : List (Nat × Nat) → List (Nat × Nat) → List Nat → α} : ∃ π L ld, seeK us r l0 r' us' ld0 k = k π L ld := by
  unfold seeK
  simp only [litK_eq, copK_eq]
  exact ⟨_, _, _, (newK_ex (us := us) (cs := poolN) (ms := lackN (reachP r r' 60 (keptP l0 (toldN r' us')) []) (toldN r' us'))).choose_spec⟩
end

section
variable {Γ : Ctx} {P : Program} {Q : Act → World → Prop}
/-- What is asked for a state to be seen as another one. -/
def Sees (us : List Nat) (r : List (Nat × Option Obj)) (τ τ' : List (Nat × A)) (r' : List (Nat × Option Obj)) (us' : List Nat) (π L : List (Nat × Nat)) (ld : List Nat) : Prop :=
  nilOK us L = true ∧ liveN (nilR L r) ld = true ∧ apartN ld (vals π) = true ∧ nodupN (vals π) = true ∧ keepN π = true ∧ subN (keys π) us' = true ∧ lentS π (nilR L r) ld τ τ' ∧ lentR π (nilR L r) ld r'
theorem Weak.nils {us : List Nat} {r : List (Nat × Option Obj)} {τ : List (Nat × A)} {L : List (Nat × Nat)} (h : nilOK us L = true) : Weak τ r us τ (nilR L r) (nilU L us) := by
  intro Γ I ρ w n a hR hS
  obtain ⟨ρ', h1, h2⟩ := hR.nils h
  exact ⟨I, ρ', h2, hS.mono (Imm.le.refl I) h1⟩
theorem Weak.trans {us us1 us2 : List Nat} {r r1 r2 : List (Nat × Option Obj)} {τ τ1 τ2 : List (Nat × A)} (h : Weak τ r us τ1 r1 us1) (k : Weak τ1 r1 us1 τ2 r2 us2) : Weak τ r us τ2 r2 us2 := by
  intro Γ I ρ w n a hR hS
  obtain ⟨I1, ρ1, hR1, hS1⟩ := h Γ I ρ w n a hR hS
  exact k Γ I1 ρ1 w n a hR1 hS1
theorem Sees.weak {us : List Nat} {r : List (Nat × Option Obj)} {τ τ' : List (Nat × A)} {r' : List (Nat × Option Obj)} {us' : List Nat} {π L : List (Nat × Nat)} {ld : List Nat} (h : Sees us r τ τ' r' us' π L ld) : Weak τ r us τ' r' us' :=
  let ⟨h1, h2, h3, h4, h5, h6, h7, h8⟩ := h
  (Weak.nils h1).trans (Weak.see h2 h3 h4 h5 h6 h7 h8)
/-- Seen as another state, of which it is known. -/
theorem W.toA {g : List (Nat × Nat × Bool)} {k : List Item} {τ τ' : List (Nat × A)} {r r' : List (Nat × Option Obj)} {us us' : List Nat} (hw : W Γ P Q [] k τ' r' us') (h : litK (pT τ τ') fun l0 => copK (ldT τ τ' []) fun ld0 => seeK us r l0 r' us' ld0 fun π L ld =>
    nilOK us L = true ∧ liveN (nilR L r) ld = true ∧ apartN ld (vals π) = true ∧ nodupN (vals π) = true ∧ keepN π = true ∧ subN (keys π) us' = true ∧ lentS π (nilR L r) ld τ τ' ∧ lentR π (nilR L r) ld r') : W Γ P Q g k τ r us := by
  rw [litK_eq, copK_eq] at h
  obtain ⟨π, L, ld, he⟩ := seeK_ex (us := us) (r := r) (l0 := pT τ τ') (r' := r') (us' := us') (ld0 := ldT τ τ' []) (k := fun π L ld => Sees us r τ τ' r' us' π L ld)
  exact W.anyG (W.weak (Sees.weak (he ▸ h : Sees us r τ τ' r' us' π L ld)) hw)

/-- A return; the names are found by looking. -/
theorem W.retA0 {T : Tab} (hT : TabOK P T.l) {fn : Func} {us us' : List Nat} {y : A} {r r' : List (Nat × Option Obj)} {g : List (Nat × Nat × Bool)} {k : List Item} (hk : k = [] ∨ ∃ k', k = .code .ret :: k') {τ : List (Nat × A)} {ys : List A} {c : List Prop}
    (hres : resVals T τ r fn.results.toList = some (ys, c))
    (h : litK (pA (oneOr ys) y []) fun l0 => copK (ldD (oneOr ys) y []) fun ld0 => seeK us r l0 r' us' ld0 fun π L ld =>
      nilOK us L = true ∧ liveN (nilR L r) ld = true ∧ apartN ld (vals π) = true ∧ nodupN (vals π) = true ∧ keepN π = true ∧ subN (keys π) us' = true ∧ allP c ∧ lentDT π (nilR L r) ld (oneOr ys) y ∧ lentR π (nilR L r) ld r') :
    W Γ P (Ret Γ P fn us' (Is y r')) g k τ r us := by
  rw [litK_eq, copK_eq] at h
  obtain ⟨π, L, ld, he⟩ := seeK_ex (us := us) (r := r) (l0 := pA (oneOr ys) y []) (r' := r') (us' := us') (ld0 := ldD (oneOr ys) y []) (k := fun π L ld => nilOK us L = true ∧ liveN (nilR L r) ld = true ∧ apartN ld (vals π) = true ∧ nodupN (vals π) = true ∧ keepN π = true ∧ subN (keys π) us' = true ∧ allP c ∧ lentDT π (nilR L r) ld (oneOr ys) y ∧ lentR π (nilR L r) ld r')
  rw [he] at h
  obtain ⟨h1, h2, h3, h4, h5, h6, hc, h7, h8⟩ := h
  refine ⟨fun a w I ρ hR hS _ b cs => ?_⟩
  obtain ⟨v, ρ', hrun, hle', hR', hv⟩ := results_ok hT hS hR hres hc
  obtain ⟨ρ2, hle2, hR2⟩ := hR'.nils h1
  refine ⟨a, w, k, ⟨hS.defers, v, hrun, y, r', lendI w ρ2 ld I, viaRen π ρ2, ⟨rfl, rfl⟩, lentDT_ok hR2 h2 h7 (hv.mono (Imm.le.refl I) hle2), hR2.see h2 h3 h4 h5 h6 h8⟩, ?_⟩
  rcases hk with rfl | ⟨k', rfl⟩
  · exact .one step_end
  · exact .one step_ret
theorem W.retA {T : Tab} (hT : TabOK P T.l) {fn : Func} {us us' : List Nat} {y : A} {r r' : List (Nat × Option Obj)} {g : List (Nat × Nat × Bool)} {k : List Item} {τ : List (Nat × A)} {ys : List A} {c : List Prop}
    (hres : resVals T τ r fn.results.toList = some (ys, c))
    (h : litK (pA (oneOr ys) y []) fun l0 => copK (ldD (oneOr ys) y []) fun ld0 => seeK us r l0 r' us' ld0 fun π L ld =>
      nilOK us L = true ∧ liveN (nilR L r) ld = true ∧ apartN ld (vals π) = true ∧ nodupN (vals π) = true ∧ keepN π = true ∧ subN (keys π) us' = true ∧ allP c ∧ lentDT π (nilR L r) ld (oneOr ys) y ∧ lentR π (nilR L r) ld r') :
    W Γ P (Ret Γ P fn us' (Is y r')) g (.code .ret :: k) τ r us := W.retA0 hT (.inr ⟨k, rfl⟩) hres h
/-- The end of a law. -/
theorem W.retY {T : Tab} (hT : TabOK P T.l) {fn : Func} {us : List Nat} {r : List (Nat × Option Obj)} {g : List (Nat × Nat × Bool)} {k : List Item} {τ : List (Nat × A)} {ys : List A} {c : List Prop} {b : Bool}
    (hres : resVals T τ r fn.results.toList = some (ys, c)) (hy : oneOr ys = .bool b) (h : allP c ∧ b = true) : W Γ P (Ret Γ P fn [] Yes) g (.code .ret :: k) τ r us :=
  W.ret hT [] (.inr ⟨k, rfl⟩) hres h.1 (y := .bool true) (r' := []) rfl (by rw [hy, h.2]; exact rfl) trivial rfl rfl rfl
end

/-! ### loops -/
def dstsO : List Oper → List Nat → List Nat
  | [], acc => acc
  | o :: l, acc => match o.dst with
    | some d => d :: dstsO l acc
    | none => dstsO l acc
/-- The slots that some code may write. -/
def asg : Code → List Nat → List Nat
  | .region _ ops _, acc => dstsO ops.toList acc
  | .seq a b, acc => asg a (asg b acc)
  | .cond _ a b, acc => asg a (asg b acc)
  | .block _ b, acc => asg b acc
  | .loop b, acc => asg b acc
  | .scope b, acc => asg b acc
  | _, acc => acc
mutual
def idsA : A → List Nat → List Nat
  | .own _ id _ _, acc | .owl _ id _ _, acc | .owk _ id _ _ _, acc | .ptr id _, acc | .vsl _ id _ _ _, acc | .map id, acc => id :: acc
  | .agg ps, acc => idsAL ps acc
  | .tup ps, acc => idsAL ps acc
  | .func _ a c, acc => idsAL a (idsAL c acc)
  | .iface _ x, acc => idsA x acc
  | _, acc => acc
def idsAL : List A → List Nat → List Nat
  | [], acc => acc
  | x :: xs, acc => idsA x (idsAL xs acc)
end
/-- Have two lists something in common? -/
def meetN : List Nat → List Nat → Bool
  | [], _ => false
  | n :: l, m => match hasN m n with
    | true => true
    | false => meetN l m
/-- The slots that stay; V: names that are told anew. -/
def restT (r : List (Nat × Option Obj)) (off V seen : List Nat) : List (Nat × A) → List (Nat × A)
  | [] => []
  | (t, x) :: l => match hasN off t with
    | true => restT r off V seen l
    | false => match hasN seen t with
      | true => restT r off V seen l
      | false => match meetN (idsA x []) V with
        | true => restT r off V (t :: seen) l
        | false => match liveN r (idsA x []) with
          | false => restT r off V (t :: seen) l
          | true => (match x with
            | .tup [] => restT r off V (t :: seen) l
            | _ => (t, x) :: restT r off V (t :: seen) l)
def unlikeP : List (Nat × Nat) → List Nat → List Nat
  | [], acc => acc
  | (m, n) :: l, acc => match Nat.beq m n with
    | true => unlikeP l acc
    | false => n :: unlikeP l acc
def idsT : List (Nat × A) → List Nat → List Nat
  | [], acc => acc
  | (_, x) :: l, acc => idsA x (idsT l acc)
def idsO : Option (Option Obj) → List Nat
  | some (some (.var x)) => idsA x []
  | some (some (.pmap _ xs)) => idsAL xs []
  | _ => []
/-- The objects that are reached and stay: own ones first. -/
def reachN (r obs : List (Nat × Option Obj)) : Nat → List Nat → List Nat → List (Nat × Option Obj) → (List (Nat × Option Obj))
  | 0, _, _, acc => acc
  | _ + 1, [], _, acc => acc
  | f + 1, n :: todo, seen, acc => match hasN seen n with
    | true => reachN r obs f todo seen acc
    | false => match look obs n with
      | some o => reachN r obs f (appN (idsO (some o)) todo) (n :: seen) acc
      | none => match look r n with
        | some (some ob) => reachN r obs f (appN (idsO (some (some ob))) todo) (n :: seen) ((n, some ob) :: acc)
        | _ => reachN r obs f todo (n :: seen) acc
def oldU : List Nat → List Nat
  | [] => []
  | n :: l => match Nat.ble 1000 n with
    | true => n :: oldU l
    | false => oldU l
def objK {α : Sort _} : List (Nat × Option Obj) → (List (Nat × Option Obj) → α) → α
  | [], k => k []
  | (n, o) :: l, k => objK l fun l => k ((n, o) :: l)
theorem objK_eq {α : Sort _} : ∀ (l : List (Nat × Option Obj)) (k : List (Nat × Option Obj) → α), objK l k = k l
  | [], _ => rfl
  | _ :: l, k => objK_eq l _
def sltK {α : Sort _} : List (Nat × A) → (List (Nat × A) → α) → α
  | [], k => k []
  | (n, o) :: l, k => sltK l fun l => k ((n, o) :: l)
theorem sltK_eq {α : Sort _} : ∀ (l : List (Nat × A)) (k : List (Nat × A) → α), sltK l k = k l
  | [], _ => rfl
  | _ :: l, k => sltK_eq l _
section
variable {Γ : Ctx} {P : Program} {Q : Act → World → Prop}
/-- A loop: its states are told by x: the slots and objects that change; all others stay as they are, but for slots that are written in the loop, and those in dr. -/
theorem W.loopA {g : List (Nat × Nat × Bool)} {c : Code} {k : List Item} {τ : List (Nat × A)} {r : List (Nat × Option Obj)} {us : List Nat} (X : Type) (J : X → Prop) (μ : X → Nat) (ups : X → List (Nat × A)) (obs : X → List (Nat × Option Obj)) (dr : List Nat) (x0 : X) (hj : J x0)
    (h : litK (pT τ (ups x0)) fun l0 => copK (unlikeP (reachP r (obs x0) 40 l0 []) (ldT τ (ups x0) [])) fun V => sltK (restT r (appN dr (asg c (keys (ups x0)))) V [] τ) fun τr => objK (reachN r (obs x0) 80 (idsT (ups x0) (idsT τr [])) [] []) fun rr => copK (appN (keys (obs x0)) (onceN (appN (keys rr) (oldU us)))) fun u1 => copK (onceN u1) fun us' =>
      (litK (pT τ (appT (ups x0) τr)) fun l0 => copK (ldT τ (appT (ups x0) τr) []) fun ld0 => seeK us r l0 (appR (obs x0) rr) us' ld0 fun π L ld =>
        nilOK us L = true ∧ liveN (nilR L r) ld = true ∧ apartN ld (vals π) = true ∧ nodupN (vals π) = true ∧ keepN π = true ∧ subN (keys π) us' = true ∧ lentS π (nilR L r) ld τ (appT (ups x0) τr) ∧ lentR π (nilR L r) ld (appR (obs x0) rr)) ∧
      ∀ x, J x → (∀ x', J x' → μ x' < μ x → W Γ P Q [] (.inLoop c :: k) (appT (ups x') τr) (appR (obs x') rr) us') → W Γ P Q [] (.code c :: .inLoop c :: k) (appT (ups x) τr) (appR (obs x) rr) us') :
    W Γ P Q g (.code (.loop c) :: k) τ r us := by
  simp only [sltK_eq, objK_eq, copK_eq, litK_eq] at h
  obtain ⟨h0, h1⟩ := h
  refine W.anyG ?_
  generalize restT r (appN dr (asg c (keys (ups x0)))) (unlikeP (reachP r (obs x0) 40 (pT τ (ups x0)) []) (ldT τ (ups x0) [])) [] τ = τr at *
  generalize reachN r (obs x0) 80 (idsT (ups x0) (idsT τr [])) [] [] = rr at *
  generalize onceN (appN (keys (obs x0)) (onceN (appN (keys rr) (oldU us)))) = us' at *
  obtain ⟨π, L, ld, he⟩ := seeK_ex (us := us) (r := r) (l0 := pT τ (appT (ups x0) τr)) (r' := appR (obs x0) rr) (us' := us') (ld0 := ldT τ (appT (ups x0) τr) []) (k := fun π L ld => Sees us r τ (appT (ups x0) τr) (appR (obs x0) rr) us' π L ld)
  exact W.loop J μ (fun x => ⟨appT (ups x) τr, appR (obs x) rr, us'⟩) x0 hj (Sees.weak (he ▸ h0 : Sees us r τ (appT (ups x0) τr) (appR (obs x0) rr) us' π L ld)) h1
end
end VX

/- VX 39: just some slots are kept, and some objects frozen. -/
namespace VX
open Go
theorem shift_sim (g : Nat → A) (o i : Nat) : (g (o + i)).sim (shiftF o g i) := by
  cases o with
  | zero => rw [Nat.zero_add]; exact .refl _
  | succ o => exact .refl _
mutual
/-- Slices of what is frozen. -/
def frzA (r : List (Nat × Option Obj)) (fz : List Nat) : A → A
  | .own sz id off n => (match hasN fz id with
    | true => (match look r id with
      | some (some (.arr _ _ g)) => .ro sz n (shiftF off g)
      | _ => .own sz id off n)
    | false => .own sz id off n)
  | .ptr id path => (match hasN fz id with
    | true => (match look r id with
      | some (some (.var x)) => (match getP path x with
        | some (y, _) => .rop y
        | none => .ptr id path)
      | _ => .ptr id path)
    | false => .ptr id path)
  | .agg ps => .agg (frzAL r fz ps)
  | .tup ps => .tup (frzAL r fz ps)
  | x => x
def frzAL (r : List (Nat × Option Obj)) (fz : List Nat) : List A → List A
  | [] => []
  | x :: xs => frzA r fz x :: frzAL r fz xs
end
def selT (r : List (Nat × Option Obj)) (fz : List Nat) (τ : List (Nat × A)) : List Nat → List (Nat × A)
  | [] => []
  | t :: l => match look τ t with
    | some x => (t, frzA r fz x) :: selT r fz τ l
    | none => selT r fz τ l
def frzR (r : List (Nat × Option Obj)) (fz : List Nat) : List (Nat × Option Obj) → List (Nat × Option Obj)
  | [] => []
  | (n, some (.var x)) :: l => (match hasN fz n with
    | true => frzR r fz l
    | false => (n, some (.var (frzA r fz x))) :: frzR r fz l)
  | (n, o) :: l => (match hasN fz n with
    | true => frzR r fz l
    | false => (n, o) :: frzR r fz l)
/-- The values of slots, in plain form. -/
def valK {α : Sort _} : List (Nat × A) → (List (Nat × A) → α) → α
  | [], k => k []
  | (t, x) :: l, k => nrmK [] x fun x => valK l fun l => k ((t, x) :: l)
theorem valK_eq {α : Sort _} : ∀ (l : List (Nat × A)) (k : List (Nat × A) → α), valK l k = k l
  | [], _ => rfl
  | (t, x) :: l, k => by simp only [valK, nrmK_eq, valK_eq l]
section
variable {Γ : Ctx} {P : Program} {Q : Act → World → Prop}
theorem W.cutA {g : List (Nat × Nat × Bool)} {k : List Item} {τ : List (Nat × A)} {r : List (Nat × Option Obj)} {us : List Nat} (slots fz : List Nat)
    (h : valK (selT r fz τ slots) fun τ' => nrmRK [] (frzR r fz (reachN r [] 80 (idsT (selT r [] τ slots) []) [] [])) fun rr => copK (onceN (appN (keys rr) (oldU us))) fun us' =>
      (litK (pT τ τ') fun l0 => copK (ldT τ τ' []) fun ld0 => seeK us r l0 rr us' ld0 fun π L ld =>
        nilOK us L = true ∧ liveN (nilR L r) ld = true ∧ apartN ld (vals π) = true ∧ nodupN (vals π) = true ∧ keepN π = true ∧ subN (keys π) us' = true ∧ lentS π (nilR L r) ld τ τ' ∧ lentR π (nilR L r) ld rr) ∧
      W Γ P Q [] k τ' rr us') : W Γ P Q g k τ r us := by
  rw [valK_eq, nrmRK_eq, copK_eq] at h
  exact W.toA h.2 h.1
end
end VX
namespace VX
/-- Arguments that are structs, in a plain form. -/
def RepL {α : Type} (s : ShL) (f : α → List A) (q : α → Prop) : Prop := ∀ xs, ShapedL s xs → ∃ a, simL xs (f a) ∧ q a
theorem RepL.nil : RepL .nil (fun _ : Unit => []) fun _ => True := fun xs h => by
  simp only [ShapedL] at h; subst h; exact ⟨(), trivial, trivial⟩
theorem RepL.cons {α β : Type} {s : Sh} {l : ShL} {f : α → A} {g : β → List A} {q : α → Prop} {p : β → Prop} (h : Rep s f q) (k : RepL l g p) :
    RepL (.cons s l) (fun a : α × β => f a.1 :: g a.2) fun a => q a.1 ∧ p a.2 := fun xs hx => by
  obtain ⟨x, ys, rfl, h1, h2⟩ := hx
  obtain ⟨a, e1, q1⟩ := h x h1
  obtain ⟨b, e2, q2⟩ := k ys h2
  exact ⟨(a, b), ⟨e1, e2⟩, q1, q2⟩
theorem Rep.strct {α : Type} {l : ShL} {f : α → List A} {q : α → Prop} (h : RepL l f q) : Rep (.strct l) (fun a => A.agg (f a)) q := fun x hx => by
  obtain ⟨ps, rfl, h1⟩ := hx
  obtain ⟨a, e, q1⟩ := h ps h1
  exact ⟨a, A.sim.aggL e, q1⟩
end VX

/- VX 40: where ways meet: a state told once for what comes behind some code. -/
namespace VX
open Go
section
variable {Γ : Ctx} {P : Program} {Q : Act → World → Prop}
/-- Some slots and objects told in another way; all others stay as they are, but for those in dr. -/
theorem W.seeA {g : List (Nat × Nat × Bool)} {k : List Item} {τ : List (Nat × A)} {r : List (Nat × Option Obj)} {us : List Nat} (ups : List (Nat × A)) (obs : List (Nat × Option Obj)) (dr : List Nat)
    (h : litK (pT τ ups) fun l0 => copK (unlikeP (reachP r obs 40 l0 []) (ldT τ ups [])) fun V => sltK (restT r (appN dr (keys ups)) V [] τ) fun τr => objK (reachN r obs 80 (idsT ups (idsT τr [])) [] []) fun rr => copK (appN (keys obs) (onceN (appN (keys rr) (oldU us)))) fun u1 => copK (onceN u1) fun us' =>
      (litK (pT τ (appT ups τr)) fun l0 => copK (ldT τ (appT ups τr) []) fun ld0 => seeK us r l0 (appR obs rr) us' ld0 fun π L ld =>
        nilOK us L = true ∧ liveN (nilR L r) ld = true ∧ apartN ld (vals π) = true ∧ nodupN (vals π) = true ∧ keepN π = true ∧ subN (keys π) us' = true ∧ lentS π (nilR L r) ld τ (appT ups τr) ∧ lentR π (nilR L r) ld (appR obs rr)) ∧
      W Γ P Q [] k (appT ups τr) (appR obs rr) us') : W Γ P Q g k τ r us := by
  simp only [sltK_eq, objK_eq, copK_eq, litK_eq] at h
  obtain ⟨h0, h1⟩ := h
  refine W.anyG ?_
  generalize restT r (appN dr (keys ups)) (unlikeP (reachP r obs 40 (pT τ ups) []) (ldT τ ups [])) [] τ = τr at *
  generalize reachN r obs 80 (idsT ups (idsT τr [])) [] [] = rr at *
  generalize onceN (appN (keys obs) (onceN (appN (keys rr) (oldU us)))) = us' at *
  obtain ⟨π, L, ld, he⟩ := seeK_ex (us := us) (r := r) (l0 := pT τ (appT ups τr)) (r' := appR obs rr) (us' := us') (ld0 := ldT τ (appT ups τr) []) (k := fun π L ld => Sees us r τ (appT ups τr) (appR obs rr) us' π L ld)
  exact W.weak (Sees.weak (he ▸ h0 : Sees us r τ (appT ups τr) (appR obs rr) us' π L ld)) h1
end
end VX

/- VX 41: maps with strings as keys. -/
namespace VX
open Go

section
variable {Γ : Ctx} {P : Program} {T : Tab} {Q : Act → World → Prop}
end
section
variable {Γ : Ctx} {P : Program} {T : Tab} {Q : Act → World → Prop}
end
section
variable {Γ : Ctx} {P : Program} {T : Tab} {Q : Act → World → Prop}
end
section
variable {Γ : Ctx} {P : Program} {T : Tab} {Q : Act → World → Prop}
end
end VX

