/- A symbolic executor for the model's code, and its soundness (part 8 of 8): a general tool, no statement about this program. -/
import Derived.Test.YtflkdkclmmnocaaVxG
import Derived.Lib.AppendZeros
set_option linter.unusedSimpArgs false
set_option linter.unusedVariables false
/- VX 34: what will not change any more; nil slices; arguments in a plain form; numbers. -/
namespace VX
open Go

section
variable {Γ : Ctx} {P : Program} {Q : Act → World → Prop}
/-- A name for a slice of nothing. -/
theorem W.addNil (nm sz : Nat) (g : Nat → A) {k : List Item} {τ : List (Nat × A)} {r : List (Nat × Option Obj)} {us : List Nat} (hnm : usedN us nm = false)
    (h : W Γ P Q [] k τ ((nm, some (.arr sz 0 g)) :: r) (nm :: us)) : W Γ P Q [] k τ r us :=
  ⟨fun a w I ρ hR hS _ => h.ok a w I _ (hR.allocNil hnm) (hS.mono (Imm.le.refl I) (Ren.le_set (hR.names nm hnm))) .nil⟩

/-- As another state, of which it is known. -/
theorem W.to {k : List Item} {τ τ' : List (Nat × A)} {r r' : List (Nat × Option VX.Obj)} {us us' : List Nat} (hw : W Γ P Q [] k τ' r' us') (h : Weak τ r us τ' r' us') : W Γ P Q [] k τ r us := W.weak h hw
/-- The slots told are among the old ones, but what is lent does not change any more. -/
def lentT (π : List (Nat × Nat)) (r : List (Nat × Option Obj)) (ld : List Nat) (τ : List (Nat × A)) : List (Nat × A) → Prop
  | [] => True
  | (t, y) :: l => (match look τ t with | some x => (y = .any ∨ lent π r ld x y) | none => False) ∧ lentT π r ld τ l
theorem lentT_look {π : List (Nat × Nat)} {r : List (Nat × Option Obj)} {ld : List Nat} {τ : List (Nat × A)} : ∀ {τ' : List (Nat × A)}, lentT π r ld τ τ' → ∀ {t : Nat} {y : A}, look τ' t = some y → ∃ x, look τ t = some x ∧ (y = .any ∨ lent π r ld x y)
  | [], _, t, y, h => by simp [look] at h
  | (t', y') :: l, hs, t, y, h => by
    rw [look_cons] at h
    by_cases e : t' = t
    · subst e
      simp only [if_true, Option.some.injEq] at h
      subst h
      have h1 := hs.1
      cases hx : look τ t' with
      | none => rw [hx] at h1; exact h1.elim
      | some x => rw [hx] at h1; exact ⟨x, rfl, h1⟩
    · rw [if_neg e] at h
      exact lentT_look hs.2 h

/-- Some arrays (and variables) are not written any more: what points into them may be seen as what never changes. -/
theorem Weak.freeze (π : List (Nat × Nat)) (ld : List Nat) {τ τ' : List (Nat × A)} {r r' : List (Nat × Option Obj)} {us us' : List Nat} (hl : liveN r ld = true) (hap : apartN ld (vals π) = true)
    (hn : nodupN (vals π) = true) (hk : keepN π = true) (hu : keys π = us') (ht : lentT π r ld τ τ') (hsub : subR π r r') : Weak τ r us τ' r' us' := by
  intro Γ I ρ w n a hR hS
  have hv := viaRen_via π ρ
  have hle := le_lendI (ld := ld) hR hl
  refine ⟨lendI w ρ ld I, viaRen π ρ, ⟨fun b o v h => ?_, fun m ob' hm => ?_, fun m m' ob ob' b N N' hm hm' hb hb' => ?_, fun m hm => ?_, ?_, fun m l hm hl => ?_⟩, hS.size, hS.defers, fun t y hy => ?_⟩
  · unfold lendI at h
    split at h
    · exact h
    · exact hR.imm _ _ _ h
  · obtain ⟨id, ob, h1, h2, h3⟩ := subR_look hsub hm
    obtain ⟨l, hl', ho⟩ := hR.own id ob h2
    refine ⟨l, hv _ _ _ h1 hl', ?_⟩
    cases l with
    | nil => cases ob <;> cases ob' <;> simp_all [Own, Obj.le]
    | blk b N =>
      obtain ⟨o, hb, hh⟩ := ho.blk
      refine ⟨fun o => ?_, ho.mine, o, hb, ?_⟩
      · unfold lendI
        rw [if_neg]
        · exact ho.noI o
        · intro hL
          obtain ⟨id2, N2, ob2, g1, g2, g3, _⟩ := hL.own hR hl
          have := hR.inj id id2 _ _ b N N2 h2 g2 hl' g3
          subst this
          rw [apartN_ok hap (look_vals h1)] at g1
          cases g1
      · cases o with
        | cells vs e fz => exact ⟨hh.1, hh.2.1, (Obj.le_ok hv h3 hh.2.2.1).mono hle (Ren.le.refl _), hh.2.2.2⟩
        | map es c =>
          obtain ⟨_, hh⟩ := hh
          cases ob <;> simp only at hh
          cases ob' <;> simp [Obj.le] at h3
        | _ => simp [BlkHolds] at hh
  · obtain ⟨n, o1, h1, h2, _⟩ := subR_look hsub hm
    obtain ⟨n', o1', h1', h2', _⟩ := subR_look hsub hm'
    simp only [viaRen, h1, h1', Option.bind_some] at hb hb'
    have := hR.inj n n' o1 o1' b N N' h2 h2' hb hb'
    subst this
    exact nodup_inj hn h1 h1'
  · cases e : look π m with
    | none => simp [viaRen, e]
    | some n =>
      have := look_keys e
      rw [hu, usedN_hasN hm] at this
      cases this
  · have hF := hR.frame
    refine ⟨hF.size, hF.blocks, fun b hb hf o => ?_, hF.le.trans hle, hF.os, hF.tape, hF.output⟩
    unfold lendI
    rw [if_neg]
    · exact hF.imm b hb hf o
    · intro hL
      obtain ⟨id2, N2, ob2, g1, g2, g3, hO⟩ := hL.own hR hl
      rcases hO.mine with h | h
      · exact hf h
      · omega
  · cases e : look π m with
    | none => simp [viaRen, e] at hl
    | some n =>
      have := keepN_ok hk e hm
      subst this
      simp only [viaRen, e, Option.bind_some] at hl
      exact hR.keep _ _ hm hl
  · obtain ⟨x, hx, h⟩ := lentT_look ht hy
    refine ⟨(hS.at_ t x hx).1, ?_⟩
    rcases h with rfl | h
    · exact .any
    · exact lent_ok hR hl h (hS.at_ t x hx).2

theorem RL.sim {I : Imm} {ρ : Ren} : ∀ {xs ys : List A} {vs : List Value}, simL xs ys → A.purePL xs → RL I ρ xs vs → RL I ρ ys vs
  | [], [], _, _, _, h => h
  | x :: xs, y :: ys, _, hs, hp, .cons a b => .cons (hs.1.R hp.1 a) (RL.sim hs.2 hp.2 b)
  | [], _ :: _, _, h, _, _ => h.elim
  | _ :: _, [], _, h, _, _ => h.elim
/-- Arguments in another form. -/
theorem Does.args {f : FuncId} {xs ys : List A} {r : List (Nat × Option Obj)} {new : List Nat} {Y : A → List (Nat × Option Obj) → Prop} (hs : simL xs ys) (hp : A.purePL xs) (h : Does P f ys r new Y) : Does P f xs r new Y :=
  fun I ρ w args ha hR => h I ρ w args (ha.sim hs hp) hR
end

section
variable {Γ : Ctx} {P : Program} {Q : Act → World → Prop}
theorem Does.frz {f : FuncId} {xs : List A} {r : List (Nat × Option VX.Obj)} {new : List Nat} {nm sz n m : Nat} {g : Nat → A} {r' : List (Nat × Option VX.Obj)} (h : Does P f xs r new (Is (.own sz nm 0 n) ((nm, some (.arr sz m g)) :: r'))) (hn : n ≤ m) :
    Does P f xs r new (Is (.ro sz n g) ((nm, none) :: r')) := by
  intro I ρ w args ha hR
  refine (h I ρ w args ha hR).mono fun e w' he => ?_
  cases e with
  | returned v =>
    obtain ⟨y, r2, I2, ρ2, ⟨rfl, rfl⟩, hv, hW⟩ := he
    obtain ⟨I3, hI, hW', hv'⟩ := RW.frz hW hv hn
    exact ⟨_, _, I3, ρ2, ⟨rfl, rfl⟩, hv', hW'⟩
  | panicked chain => exact he
  | outgrown => exact he
theorem W.frzNew {g : List (Nat × Nat × Bool)} {k : List Item} {d : Option Tmp} {τ : List (Nat × A)} {r : List (Nat × Option VX.Obj)} {us : List Nat} {nm sz n m : Nat} {G : Nat → A} (hn : n ≤ m) {τ' : List (Nat × A)} (hτ : τ' = putO d (.own sz nm 0 n) τ)
    (hG : ∀ j t b, (j, t, b) ∈ g → d ≠ some t)
    (h : W Γ P Q g k (putO d (.ro sz n G) τ) ((nm, none) :: r) us) : W Γ P Q g k τ' ((nm, some (.arr sz m G)) :: r) us := by
  subst hτ
  refine ⟨fun a w I ρ hR hS hg => ?_⟩
  cases d with
  | none =>
    -- nothing holds it
    have hv : R I ρ (.own sz nm 0 0) (.slice none 0 0) := .own0
    obtain ⟨I', hI, hR', _⟩ := RW.frz (n := 0) hR hv (Nat.zero_le m)
    exact h.ok a w I' ρ hR' (hS.mono hI (Ren.le.refl ρ)) hg
  | some d =>
    have hd := hS.at_ d (.own sz nm 0 n) (by rw [putO, look_cons, if_pos rfl])
    obtain ⟨I', hI, hR', hv'⟩ := RW.frz hR hd.2 hn
    refine h.ok a w I' ρ hR' ⟨hS.size, hS.defers, fun t x hx => ?_⟩ fun j t b hm => ?_
    · rw [putO, look_cons] at hx
      by_cases e : d = t
      · subst e
        rw [if_pos rfl] at hx
        cases hx
        exact ⟨hd.1, hv'⟩
      · rw [if_neg e] at hx
        have := hS.at_ t x (by rw [putO, look_cons, if_neg e]; exact hx)
        exact ⟨this.1, this.2.mono hI (Ren.le.refl ρ)⟩
    · have hne := hG j t b hm
      have := hg j t b hm
      cases k with
      | nil => exact this
      | cons x k =>
        cases x <;> try exact this
        obtain ⟨o, q1, q2, q3⟩ := this
        refine ⟨o, q1, q2, ?_⟩
        have e : d ≠ t := fun e => hne (by rw [e])
        rw [putO, look_cons, if_neg e] at q3 ⊢
        exact q3
variable {ops : Array Oper} {k' : List Item}
/-- A call that comes back with a new slice, which does not change any more. -/
theorem W.callZ {f : FuncId} {xs : List A} {rc : List (Nat × Option VX.Obj)} {new : List Nat} {sz nm n m : Nat} {G : Nat → A} {r0 : List (Nat × Option VX.Obj)} (hS : Does P f xs rc new (Is (.own sz nm 0 n) ((nm, some (.arr sz m G)) :: r0))) (hf : callOK P f = true)
    {g : List (Nat × Nat × Bool)} {i : Nat} {l : List Nat} {k : List Item} {τ : List (Nat × A)} {r : List (Nat × Option VX.Obj)} {us : List Nat} {o : Oper} {vs : List A} (ho : ops.toList[i]? = some o) (hg : guardOf o g = some true)
    (hcal : callee τ o = some (f, vs)) (π : List (Nat × Nat)) (ld ns : List Nat) (hk : keys π = keys rc) (hchk : callChk us r π ld new ns rc = true) {nt : Nat} (hnt : nt = Γ.n) (hdst : dstOk nt g o.dst = true)
    (hargs : lentL π r ld vs xs) (hsub : subR π r rc) (hn : n ≤ m) (hfl : ld = [] ∨ ((A.own sz nm 0 n).flat ∧ flatR ((nm, some (.arr sz m G)) :: r0)))
    (h : W Γ P Q g (.inRegion ops l :: k) (putO o.dst (.ro sz n G) τ) ((callRen (zipN new ns) π nm, none) :: appR (renR (callRen (zipN new ns) π) r0) (gone (vals π) r)) (appN ns us)) :
    W Γ P Q g (.inRegion ops (i :: l) :: k) τ r us := by
  refine W.callF hS hf ho hg hcal π ld ns hk hchk hnt hdst hargs hsub hfl (W.frzNew (d := o.dst) hn rfl (fun j t b hm he => ?_) h)
  rw [he] at hdst
  exact offG_mem (dstOk_some hdst).2 hm rfl
/-- The same, where the order is drawn. -/
theorem D.callZ {done : List FM} {f : FuncId} {xs : List A} {rc : List (Nat × Option VX.Obj)} {new : List Nat} {sz nm n m : Nat} {G : Nat → A} {r0 : List (Nat × Option VX.Obj)} (hS : Does P f xs rc new (Is (.own sz nm 0 n) ((nm, some (.arr sz m G)) :: r0))) (hf : callOK P f = true)
    {g : List (Nat × Nat × Bool)} {i : Nat} {l : List Nat} {τ : List (Nat × A)} {r : List (Nat × Option VX.Obj)} {us : List Nat} {o : Oper} {vs : List A} (ho : ops.toList[i]? = some o) (hg : guardOf o g = some true)
    (hcal : callee τ o = some (f, vs)) (π : List (Nat × Nat)) (ld ns : List Nat) (hk : keys π = keys rc) (hchk : callChk us r π ld new ns rc = true) {nt : Nat} (hnt : nt = Γ.n) (hdst : dstOk nt g o.dst = true)
    (hargs : lentL π r ld vs xs) (hsub : subR π r rc) (hn : n ≤ m) (hfl : ld = [] ∨ ((A.own sz nm 0 n).flat ∧ flatR ((nm, some (.arr sz m G)) :: r0)))
    (hold : oldN ns (appN ld (vals π)) (keys ((callRen (zipN new ns) π nm, none) :: appR (renR (callRen (zipN new ns) π) r0) (gone (vals π) []))) = true)
    (h : chkK ops i (callEff ops i o (.ro sz n G) ld π ((callRen (zipN new ns) π nm, none) :: appR (renR (callRen (zipN new ns) π) r0) (gone (vals π) [])) ns).f done
      (fun m => putK o.dst (.ro sz n G) τ fun τ' => renK (callRen (zipN new ns) π) r0 (gone (vals π) r) fun r' => D Γ P Q ops k' g (m :: done) l τ' ((callRen (zipN new ns) π nm, none) :: r') (appN ns us)) False) :
    D Γ P Q ops k' g done (i :: l) τ r us := by
  rw [chkK_eq (by rfl) ho] at h
  split at h
  rotate_left
  · exact h.elim
  rename_i hck
  rw [putK_eq, renK_eq] at h
  refine ⟨fun fs hfs hG => ?_⟩
  subst hfs
  have hn' := h.ok (_ :: fs) rfl (hG.put hdst)
  have hchk' := hchk
  unfold callChk at hchk'
  obtain ⟨c1, hchk'⟩ := andb hchk'
  obtain ⟨c2, hchk'⟩ := andb hchk'
  obtain ⟨c3, hchk'⟩ := andb hchk'
  obtain ⟨c4, hchk'⟩ := andb hchk'
  obtain ⟨c5, hchk'⟩ := andb hchk'
  obtain ⟨c6, c7⟩ := andb hchk'
  have gone_app : ∀ (l : List Nat) (r : List (Nat × Option VX.Obj)), gone l r = gone l [] ++ r := fun l r => by
    induction l with
    | nil => rfl
    | cons n l ih => rw [gone, gone, ih]; rfl
  refine .cons (callEff ops i o (.ro sz n G) ld π ((callRen (zipN new ns) π nm, none) :: appR (renR (callRen (zipN new ns) π) r0) (gone (vals π) [])) ns) rfl (effOf_ok hold) ?_ (fun q hq => ?_) c6 (chkM_ok hck) ?_
  · intro σ1 a1 a2 aA f1 l W1
    refine W.dropG (gFor_GD (o := o) hG a1.of_right) (W.callZ hS hf ho ((guardOf_gFor o g).trans hg) ((callee_agree a1.of_left).trans hcal) π ld ns hk ?_ hnt (dstOk_gFor hdst) (lentL_agree a2.of_left hargs) (subR_agree a2.of_right hsub) hn hfl (W.anyG ?_))
    · unfold callChk
      rw [liveN_agree a2.of_left, liveN_agree a2.of_right, c1, c2, c3, c4, c5, c7]
      rw [show freshL σ1.us ns = true from f1]; rfl
    · have q1 : (σ1.add (callEff ops i o (.ro sz n G) ld π ((callRen (zipN new ns) π nm, none) :: appR (renR (callRen (zipN new ns) π) r0) (gone (vals π) [])) ns)).τ = putO o.dst (.ro sz n G) σ1.τ := appT_putL _ _ _
      have q2 : (σ1.add (callEff ops i o (.ro sz n G) ld π ((callRen (zipN new ns) π nm, none) :: appR (renR (callRen (zipN new ns) π) r0) (gone (vals π) [])) ns)).r = (callRen (zipN new ns) π nm, none) :: appR (renR (callRen (zipN new ns) π) r0) (gone (vals π) σ1.r) := by
        show appT (_ :: appR _ (gone (vals π) [])) σ1.r = _
        rw [appT_eq, appR_eq, appR_eq, gone_app (vals π) σ1.r]; simp
      rw [← q1, ← q2]
      exact W1
  · have hq : hasN (appN ld (vals π)) q = true := hq
    rw [has_app, Bool.or_eq_true] at hq
    rcases hq with hq | hq
    · exact liveN_ok c1 hq
    · exact liveN_ok c3 hq
  · have : (St.add ⟨τ, r, us⟩ (callEff ops i o (.ro sz n G) ld π ((callRen (zipN new ns) π nm, none) :: appR (renR (callRen (zipN new ns) π) r0) (gone (vals π) [])) ns)) = ⟨putO o.dst (.ro sz n G) τ, (callRen (zipN new ns) π nm, none) :: appR (renR (callRen (zipN new ns) π) r0) (gone (vals π) r), appN ns us⟩ := by
      unfold St.add
      rw [show appT (callEff ops i o (.ro sz n G) ld π ((callRen (zipN new ns) π nm, none) :: appR (renR (callRen (zipN new ns) π) r0) (gone (vals π) [])) ns).τ τ = putO o.dst (.ro sz n G) τ from appT_putL _ _ _]
      rw [show appT (callEff ops i o (.ro sz n G) ld π ((callRen (zipN new ns) π nm, none) :: appR (renR (callRen (zipN new ns) π) r0) (gone (vals π) [])) ns).r r = (callRen (zipN new ns) π nm, none) :: appR (renR (callRen (zipN new ns) π) r0) (gone (vals π) r) by
        show appT (_ :: appR _ (gone (vals π) [])) r = _
        rw [appT_eq, appR_eq, appR_eq, gone_app (vals π) r]; simp]
      rfl
    rw [this]
    exact hn'
end

/-! ### arguments of laws, in a plain form -/
mutual
theorem Shaped.pure : ∀ {s : Sh} {x : A}, Shaped s x → x.pureP
  | .int k, x, h => by obtain ⟨n, rfl, _⟩ := h; trivial
  | .bool, x, h => by obtain ⟨n, rfl⟩ := h; trivial
  | .str, x, h => by obtain ⟨n, rfl, _⟩ := h; trivial
  | .slice e, x, h => by obtain ⟨n, g, rfl, _⟩ := h; trivial
  | .arr n e, x, h => by obtain ⟨g, rfl, h⟩ := h; exact fun i hi => Shaped.pure (h i hi)
  | .strct l, x, h => by obtain ⟨ps, rfl, h⟩ := h; exact ShapedL.pure h
theorem ShapedL.pure : ∀ {l : ShL} {ps : List A}, ShapedL l ps → A.purePL ps
  | .nil, ps, h => by cases h; trivial
  | .cons s l, ps, h => by obtain ⟨x, xs, rfl, h1, h2⟩ := h; exact ⟨Shaped.pure h1, ShapedL.pure h2⟩
end
/-- Each datum of that shape may be told by an a with q. -/
def Rep {α : Type} (s : Sh) (f : α → A) (q : α → Prop) : Prop := ∀ x, Shaped s x → ∃ a, x.sim (f a) ∧ q a
theorem Rep.int (k : IntKind) : Rep (.int k) (A.int k) (inr k) := fun x h => by obtain ⟨n, rfl, h⟩ := h; exact ⟨n, .refl _, h⟩
theorem Rep.bool : Rep .bool A.bool fun _ => True := fun x h => by obtain ⟨n, rfl⟩ := h; exact ⟨n, .refl _, trivial⟩
theorem Rep.str : Rep .str A.str fun l => l.length ≤ 9223372036854775807 := fun x h => by obtain ⟨n, rfl, h⟩ := h; exact ⟨n, .refl _, h⟩
theorem byte_of {n : Int} (h : inr .u8 n) : A.int .u8 n = byte (UInt8.ofNat n.toNat) := by
  rw [inr_u8] at h
  unfold byte
  congr 1
  rw [UInt8.toNat_ofNat']
  omega
theorem Rep.byte : Rep (.int .u8) VX.byte fun _ => True := fun x h => by
  obtain ⟨n, rfl, h⟩ := h
  exact ⟨_, .of (byte_of h), trivial⟩
def sl {α : Type} [Inhabited α] (sz : Nat) (f : α → A) (l : List α) : A := .ro sz l.length fun i => f (l.getD i default)
theorem Rep.slice {α : Type} [Inhabited α] {s : Sh} {f : α → A} {q : α → Prop} (h : Rep s f q) : Rep (.slice s) (sl s.size f) fun l => l.length ≤ 9223372036854775807 ∧ ∀ a ∈ l, q a := fun x hx => by
  obtain ⟨n, g, rfl, hn, hg⟩ := hx
  have key : ∀ m, m ≤ n → ∃ l : List α, l.length = m ∧ (∀ i, i < m → (g i).sim (f (l.getD i default))) ∧ ∀ a ∈ l, q a := by
    intro m
    induction m with
    | zero => exact fun _ => ⟨[], rfl, fun i hi => absurd hi (Nat.not_lt_zero _), fun a ha => by cases ha⟩
    | succ m ih =>
      intro hm
      obtain ⟨l, h1, h2, h3⟩ := ih (by omega)
      obtain ⟨a, h4, h5⟩ := h _ (hg m (by omega))
      refine ⟨l ++ [a], by simp [h1], fun i hi => ?_, fun b hb => ?_⟩
      · by_cases e : i < m
        · have := h2 i e
          rw [List.getD_eq_getElem?_getD, List.getElem?_append_left (by omega), ← List.getD_eq_getElem?_getD]
          exact this
        · have : i = m := by omega
          subst this
          rw [List.getD_eq_getElem?_getD, List.getElem?_append_right (by omega), h1]
          simpa using h4
      · rcases List.mem_append.1 hb with hb | hb
        · exact h3 b hb
        · simp only [List.mem_singleton] at hb; subst hb; exact h5
  obtain ⟨l, h1, h2, h3⟩ := key n (Nat.le_refl n)
  subst h1
  exact ⟨l, .ro h2, hn, h3⟩
/-- Bytes. -/
def bytesA (l : List UInt8) : A := .ro 1 l.length (byteAt l)
theorem Rep.bytes : Rep (.slice (.int .u8)) bytesA fun l => l.length ≤ 9223372036854775807 := fun x hx => by
  obtain ⟨l, h1, h2⟩ := Rep.slice Rep.byte x hx
  refine ⟨l, h1.trans (.ro fun i hi => .of ?_), h2.1⟩
  rfl
theorem Rep.arr {α : Type} [Inhabited α] {s : Sh} {f : α → A} {q : α → Prop} (h : Rep s f q) (n : Nat) : Rep (.arr n s) (fun l : List α => .vec s.size n fun i => f (l.getD i default)) fun l => l.length = n ∧ ∀ a ∈ l, q a := fun x hx => by
  obtain ⟨g, rfl, hg⟩ := hx
  have key : ∀ m, m ≤ n → ∃ l : List α, l.length = m ∧ (∀ i, i < m → (g i).sim (f (l.getD i default))) ∧ ∀ a ∈ l, q a := by
    intro m
    induction m with
    | zero => exact fun _ => ⟨[], rfl, fun i hi => absurd hi (Nat.not_lt_zero _), fun a ha => by cases ha⟩
    | succ m ih =>
      intro hm
      obtain ⟨l, h1, h2, h3⟩ := ih (by omega)
      obtain ⟨a, h4, h5⟩ := h _ (hg m (by omega))
      refine ⟨l ++ [a], by simp [h1], fun i hi => ?_, fun b hb => ?_⟩
      · by_cases e : i < m
        · have := h2 i e
          rw [List.getD_eq_getElem?_getD, List.getElem?_append_left (by omega), ← List.getD_eq_getElem?_getD]
          exact this
        · have : i = m := by omega
          subst this
          rw [List.getD_eq_getElem?_getD, List.getElem?_append_right (by omega), h1]
          simpa using h4
      · rcases List.mem_append.1 hb with hb | hb
        · exact h3 b hb
        · simp only [List.mem_singleton] at hb; subst hb; exact h5
  obtain ⟨l, h1, h2, h3⟩ := key n (Nat.le_refl n)
  exact ⟨l, .vec h2, h1, h3⟩
def hashA (l : List UInt8) : A := .vec 1 32 (byteAt l)
theorem Rep.hash : Rep (.arr 32 (.int .u8)) hashA fun l => l.length = 32 := fun x hx => by
  obtain ⟨l, h1, h2⟩ := (Rep.arr Rep.byte 32) x hx
  exact ⟨l, h1, h2.1⟩

/-! ### numbers -/
theorem inr_wrap (k : IntKind) (n : Int) : inr k (k.wrap n) := by
  unfold inr IntKind.min IntKind.max IntKind.wrap
  cases k <;> simp [IntKind.signed, IntKind.bits] <;> omega
theorem inr_bits (op : BinOp) (k : IntKind) (x y : Int) : inr k (bitsI op k x y) := inr_wrap k _
theorem all_2 {p : Nat → Prop} : (∀ i, i < 2 → p i) ↔ (p 0 ∧ p 1) := ⟨fun h => ⟨h 0 (by omega), h 1 (by omega)⟩, fun h i hi => by match i, hi with | 0, _ => exact h.1 | 1, _ => exact h.2⟩
theorem all_3 {p : Nat → Prop} : (∀ i, i < 3 → p i) ↔ (p 0 ∧ p 1 ∧ p 2) := ⟨fun h => ⟨h 0 (by omega), h 1 (by omega), h 2 (by omega)⟩, fun h i hi => by match i, hi with | 0, _ => exact h.1 | 1, _ => exact h.2.1 | 2, _ => exact h.2.2⟩
theorem all_4 {p : Nat → Prop} : (∀ i, i < 4 → p i) ↔ (p 0 ∧ p 1 ∧ p 2 ∧ p 3) := ⟨fun h => ⟨h 0 (by omega), h 1 (by omega), h 2 (by omega), h 3 (by omega)⟩, fun h i hi => by match i, hi with | 0, _ => exact h.1 | 1, _ => exact h.2.1 | 2, _ => exact h.2.2.1 | 3, _ => exact h.2.2.2⟩
theorem all_5 {p : Nat → Prop} : (∀ i, i < 5 → p i) ↔ (p 0 ∧ p 1 ∧ p 2 ∧ p 3 ∧ p 4) := ⟨fun h => ⟨h 0 (by omega), h 1 (by omega), h 2 (by omega), h 3 (by omega), h 4 (by omega)⟩, fun h i hi => by match i, hi with | 0, _ => exact h.1 | 1, _ => exact h.2.1 | 2, _ => exact h.2.2.1 | 3, _ => exact h.2.2.2.1 | 4, _ => exact h.2.2.2.2⟩
end VX

/- VX 35: a slice against nil. -/
namespace VX
open Go

section
variable {Γ : Ctx} {P : Program} {T : Tab} {Q : Act → World → Prop}
/-- The length of a slice that may be nil or not. -/
def mayNil : A → Option Nat
  | .ro _ n _ => some n
  | .own _ _ _ n => some n
  | .owl _ _ _ n => some n
  | _ => none
/-- The slot that an operation fills by asking whether a slice is nil; and that slice's length. -/
def nilQ (T : Tab) (o : Oper) (τ : List (Nat × A)) : Option (Nat × Nat) :=
  match o.op with
  | .binOp .eql t x y _ => (match T.d t with
    | .slice _ => (match ev τ y with
      | some .nils => (match ev τ x with
        | some a => (match mayNil a with
          | some n => (match o.dst with
            | some d => some (d, n)
            | none => none)
          | none => none)
        | none => none)
      | _ => none)
    | _ => none)
  | _ => none
theorem mayNil_ok {I : Imm} {ρ : Ren} {x : A} {v : Value} {n : Nat} (h : mayNil x = some n) (hx : R I ρ x v) : ∃ a c, v = .slice a n c ∧ (a.isNone = true → n = 0) := by
  unfold mayNil at h
  split at h <;> (try (cases h; done)) <;> simp only [Option.some.injEq] at h <;> subst h
  all_goals
    cases hx <;> (try (rename_i e _ _; cases e; done))
    all_goals first
      | exact ⟨_, _, rfl, fun _ => rfl⟩
      | exact ⟨_, _, rfl, fun h => absurd h (by simp)⟩
theorem eq_slice'_ {w : World} (d : Nat) {t e : Nat} (hu : P.underlying t = some (.slice e)) (b : Addr) (n m k l : Nat) : (Op.equalIn (d + 1) t (.slice (some b) n m) (.slice none k l)).run P w = .ok false w := by
  simp only [Op.equalIn, Sem.run_bind, run_underlying hu, Result.andThen_ok, Sem.run_pure]
theorem eq_sliceN {w : World} {t e : Nat} (hu : P.underlying t = some (.slice e)) (b : Option Addr) (n m : Nat) : (Op.equal t (.slice b n m) (.slice none 0 0)).run P w = .ok b.isNone w := by
  cases b with
  | none => exact eq_slice hu none _ _ _ _
  | some b => exact eq_slice'_ 9999 hu b _ _ _ _
/-- Whether a slice is nil: it may be, if it is empty. -/
theorem W.isNil (hT : TabOK P T.l) {nt : Nat} (hnt : nt = Γ.n) {ops : Array Oper} {i : Nat} {l : List Nat} {k : List Item} {o : Oper} (ho : ops.toList[i]? = some o) {g : List (Nat × Nat × Bool)} (hd : dstOk nt g o.dst = true) (hg : guardOf o g = some true)
    {τ : List (Nat × A)} {r : List (Nat × Option Obj)} {us : List Nat} {d n : Nat} (hq : nilQ T o τ = some (d, n))
    (h : ∀ b : Bool, (b = true → n = 0) → W Γ P Q g (.inRegion ops l :: k) ((d, .bool b) :: τ) r us) : W Γ P Q g (.inRegion ops (i :: l) :: k) τ r us := by
  have ho : ops[i]? = some o := by simpa using ho
  refine ⟨fun a w I ρ hR hS hG => ?_⟩
  have hw := guardOf_ok hS hG hg
  obtain ⟨dst, op, ty, pos, aft, gd⟩ := o
  unfold nilQ at hq
  simp only at hq hd
  split at hq <;> (try (cases hq; done))
  rename_i t x y ty' _
  split at hq <;> (try (cases hq; done))
  rename_i e he
  split at hq <;> (try (cases hq; done))
  rename_i hy
  split at hq <;> (try (cases hq; done))
  rename_i ax hx
  split at hq <;> (try (cases hq; done))
  rename_i n' hn
  split at hq <;> (try (cases hq; done))
  rename_i d' _
  simp only [Option.some.injEq, Prod.mk.injEq] at hq
  obtain ⟨rfl, rfl⟩ := hq
  obtain ⟨b, c, hv, hb⟩ := mayNil_ok hn (ev_ok hS hx)
  have hvy := (ev_ok hS hy).nils_inv
  have hu := Tab.slice hT he
  obtain ⟨hlt, hoff⟩ := dstOk_some hd
  have hrun : (execOp a.eval ⟨some d', .binOp .eql t x y ty', ty, pos, aft, gd⟩).run P w = .ok (.value (.bool b.isNone)) w := by
    simp only [execOp, hv, hvy]
    have g1 : (eqGuard .eql t x y (.slice b n' c) (.slice none 0 0)).run P w = .ok () w := eqGuard_ok (by simp) (by simp)
    have g2 := (binOp_equal (op := .eql) (by simp) (eq_sliceN (w := w) hu b n' c)).1 rfl
    simp only [Sem.run_bind, g1, g2, Result.andThen_ok, Sem.run_pure]
  refine WK.step (a' := a.put (some d') (.bool b.isNone)) (w' := w) (fun b' cs => step_op ho hw hrun rfl) ((h b.isNone hb).ok _ _ I ρ hR (hS.put (hnt ▸ hlt) .bool) (hG.put hoff))
end
end VX

/- VX 36: what a slice of nothing grows to. -/
namespace VX
open Go

section
variable {Γ : Ctx} {P : Program} {T : Tab} {Q : Act → World → Prop}
/-- An operation that gives a datum, of which it is known how it runs. -/
theorem W.opR {nt : Nat} (hnt : nt = Γ.n) {ops : Array Oper} {i : Nat} {l : List Nat} {k : List Item} {o : Oper} (ho : ops.toList[i]? = some o) {g : List (Nat × Nat × Bool)} (hd : dstOk nt g o.dst = true) (hg : guardOf o g = some true)
    {τ : List (Nat × A)} {r r' : List (Nat × Option VX.Obj)} {us us' : List Nat} {x : A}
    (hrun : ∀ (a : Act) (w : World) (I : Imm) (ρ : Ren), RW Γ I ρ r us w → Slots I ρ Γ.n τ a → ∃ v w' ρ', (execOp a.eval o).run P w = .ok (.value v) w' ∧ ρ.le ρ' ∧ RW Γ I ρ' r' us' w' ∧ R I ρ' x v)
    (h : W Γ P Q g (.inRegion ops l :: k) (putO o.dst x τ) r' us') : W Γ P Q g (.inRegion ops (i :: l) :: k) τ r us := by
  have ho : ops[i]? = some o := by simpa using ho
  refine ⟨fun a w I ρ hR hS hG => ?_⟩
  have hw := guardOf_ok hS hG hg
  obtain ⟨v, w', ρ', hx, hle, hR', hv⟩ := hrun a w I ρ hR hS
  have hS' := hS.mono (Imm.le.refl I) hle
  cases hdst : o.dst with
  | none =>
    rw [hdst] at h
    exact WK.step (a' := a.put o.dst v) (w' := w') (fun b cs => step_op ho hw hx rfl) (h.ok _ _ I ρ' hR' (by rw [hdst]; exact hS'.skip) hG.next)
  | some d =>
    rw [hdst] at h hd
    obtain ⟨hlt, hoff⟩ := dstOk_some hd
    exact WK.step (a' := a.put o.dst v) (w' := w') (fun b cs => step_op ho hw hx rfl) (h.ok _ _ I ρ' hR' (by rw [hdst]; exact hS'.put (hnt ▸ hlt) hv) (hG.put hoff))

/-- A slice of nothing has no room. -/
theorem W.capNil (hT : TabOK P T.l) {nt : Nat} (hnt : nt = Γ.n) {ops : Array Oper} {i : Nat} {l : List Nat} {k : List Item} {o : Oper} (ho : ops.toList[i]? = some o) {g : List (Nat × Nat × Bool)} (hd : dstOk nt g o.dst = true) (hg : guardOf o g = some true)
    {τ : List (Nat × A)} {r : List (Nat × Option VX.Obj)} {us : List Nat} {x : Operand} {t e : Nat} (hop : o.op = .call { callee := .builtin .cap, args := #[x], argTypes := #[t] }) (hx : ev τ x = some .nils) (ht : T.d t = .slice e)
    (h : W Γ P Q g (.inRegion ops l :: k) (putO o.dst (.int .i64 0) τ) r us) : W Γ P Q g (.inRegion ops (i :: l) :: k) τ r us := by
  refine W.opR hnt ho hd hg (fun a w I ρ hR hS => ?_) h
  have hv := (ev_ok hS hx).nils_inv
  have hu := Tab.slice hT ht
  refine ⟨.int .i64 0, w, ρ, ?_, Ren.le.refl ρ, hR, .int⟩
  obtain ⟨dst, op, ty, pos, aft, gd⟩ := o
  simp only at hop
  subst hop
  simp only [execOp, resolve, invoke, Go.builtin, Sem.run_bind, Sem.run_pure, Result.andThen_ok, List.map_toArray, List.map_cons, List.map_nil, hv, Builtin.cap_, List.getElem?_toArray, List.getElem?_cons_zero, run_underlying hu]
  rfl
/-- Noughts are appended to nothing: of the new array it is said here only that it is there. -/
theorem W.appZero (hT : TabOK P T.l) {nt : Nat} (hnt : nt = Γ.n) {ops : Array Oper} {i : Nat} {l : List Nat} {k : List Item} {o : Oper} (ho : ops.toList[i]? = some o) {g : List (Nat × Nat × Bool)} (hd : dstOk nt g o.dst = true) (hg : guardOf o g = some true)
    {τ : List (Nat × A)} {r : List (Nat × Option VX.Obj)} {us : List Nat} {s x : Operand} {t tn e : Nat} {kn k' : IntKind} (hop : o.op = .call { callee := .builtin .append, args := #[s, x], argTypes := #[t, tn] })
    (hs : ev τ s = some .nils) {n : Nat} {nI : Int} (hx : ev τ x = some (.int k' nI)) (hn : nI = n) (ht : T.d t = .slice e) (htn : T.d tn = .int kn) {d : TD} {se be : Nat} {z : A} {q : Bool} (hti : nth T.l e = some ⟨d, se, be, z, q⟩) (hz : z.sureP)
    (hse : 0 < se) (h0 : 0 < n) (h63 : (n : Int) ≤ 9223372036854775807) (h48 : n * be ≤ 281474976710656) {nm : Nat} (hnm : usedN us nm = false) (gz : Nat → A)
    (h : W Γ P Q g (.inRegion ops l :: k) (putO o.dst (.own se nm 0 n) τ) ((nm, some (.arr se 0 gz)) :: r) (nm :: us)) : W Γ P Q g (.inRegion ops (i :: l) :: k) τ r us := by
  refine W.opR hnt ho hd hg (fun a w I ρ hR hS => ?_) h
  have hv := (ev_ok hS hs).nils_inv
  have hxv := (ev_ok hS hx).int_inv
  subst hn
  have hu := Tab.slice hT ht
  obtain ⟨un, hun, hdn⟩ := Tab.under hT htn (by simp)
  obtain ⟨_, ⟨i', hi, hsz, hbe, hzz⟩, _, _⟩ := hT e _ hti
  simp only at hsz hbe hzz
  obtain ⟨zv, hzv, hzR, hzs, hzp⟩ := hzz hz
  obtain ⟨hzc, hz1⟩ := (hzR I nr).cells hz
  have hzl := hzc.length
  rw [A.length_cells z (hzR I nr).wf, hzs] at hzl
  have hzsz : zv.cells.size = se := by rw [hzl]; simp
  have hun' : P.underlying tn = some (.int kn) := by
    cases un <;> simp [tdOf] at hdn
    rw [hun, hdn]
  have hcap : n ≤ grownCap w n 0 e := by simp [grownCap, Question.cut]
  have hrun := Go.Lib.run_append_nil_zeros (P := P) w t tn o.type e i' zv k' kn hu hun' hi hzv n h0 (by rw [hsz]; exact hse) h63 (by rw [hbe]; exact h48)
  have hN : (Builtin.zeroCells zv.cells n ++ Builtin.zeroCells zv.cells (grownCap w n 0 e - n)).size = grownCap w n 0 e * se := by
    rw [Array.size_append, ← Array.length_toList (xs := Builtin.zeroCells _ _), ← Array.length_toList (xs := Builtin.zeroCells zv.cells (grownCap w n 0 e - n)), zeroCells_len, zeroCells_len, hzsz, ← Nat.add_mul]
    congr 1
    omega
  have hE : Elems I se 0 gz [] := nothing_elems
  have hex : (execOp a.eval o).run P w = .ok (.value (.slice (some ⟨w.heap.size, 0, none⟩) n (grownCap w n 0 e))) (w.drew.alloc (.cells (Builtin.zeroCells zv.cells n ++ Builtin.zeroCells zv.cells (grownCap w n 0 e - n)) e)) := by
    obtain ⟨dst, op, ty, pos, aft, gd⟩ := o
    simp only at hop hrun
    subst hop
    simp only [execOp, resolve, invoke, Go.builtin, Sem.run_bind, Sem.run_pure, Result.andThen_ok, List.map_toArray, List.map_cons, List.map_nil, hv, hxv, hrun]
  refine ⟨_, _, ρ.set nm (.blk w.heap.size (grownCap w n 0 e * se)), hex, Ren.le_set (hR.names nm hnm), hR.drew.alloc hnm ⟨hN, Thawed.none _, ?_, fun u hu => ?_⟩, ?_⟩
  · simpa using hE.holds (I := I) (ρ := ρ) _
  · simp only [Array.toList_append, List.mem_append] at hu
    rcases hu with hu | hu
    · exact hz1 u (zeroCells_mem hu)
    · exact hz1 u (zeroCells_mem hu)
  · have := R.own (I := I) (ρ := ρ.set nm (.blk w.heap.size (grownCap w n 0 e * se))) (sz := se) (id := nm) (off := 0) (n := n) (b := w.heap.size) (N := grownCap w n 0 e * se) (c := grownCap w n 0 e) (by simp [Ren.set]) hcap (by simp)
    simpa using this
end
end VX

