/- A symbolic executor for the model's code, and its soundness (part 7 of 9): a general tool, no statement about this program. -/
import Derived.Test.YtcolghonbncpnaaVxF
import Derived.Orders
set_option linter.unusedSimpArgs false
set_option linter.unusedVariables false
/- VX 32: regions whose order is drawn. -/
namespace VX
open Go

/-- What an operation looks at and what it writes. -/
structure Foot where
  i : Nat
  rd : List Nat
  ds : List Nat
  rr : List Nat
  rw : List Nat
  nm : List Nat
  /-- what must be there; what is there no more -/
  rl : List Nat
  kw : List Nat
/-- What an operation does to the state. -/
structure Eff where
  f : Foot
  τ : List (Nat × A)
  r : List (Nat × Option Obj)

def appT {α : Type} : List (Nat × α) → List (Nat × α) → List (Nat × α)
  | [], r => r
  | x :: l, r => x :: appT l r
theorem appT_eq {α : Type} (l k : List (Nat × α)) : appT l k = l ++ k := by induction l <;> simp_all [appT]

def St.add (σ : St) (e : Eff) : St := ⟨appT e.τ σ.τ, appT e.r σ.r, appN e.f.nm σ.us⟩
structure Eff.ok (e : Eff) : Prop where
  ds : keys e.τ = e.f.ds
  rw_ : keys e.r = e.f.rw
  kill : ∀ n, look e.r n = some none → hasN e.f.kw n = true
  old : ∀ n, hasN e.f.rw n = true → hasN e.f.nm n = true ∨ hasN e.f.rl n = true
def Alive (r : List (Nat × Option Obj)) (l : List Nat) : Prop := ∀ n, hasN l n = true → ∃ ob, look r n = some (some ob)

def Agree {α : Type} (l : List Nat) (τ τ' : List (Nat × α)) : Prop := ∀ t, hasN l t = true → look τ' t = look τ t
/-- Two operations that do not meet. -/
def indep (f g : Foot) : Bool :=
  apartN f.ds g.rd && (apartN g.ds f.rd && (apartN f.ds g.ds && (apartN f.rw g.rr && (apartN g.rw f.rr && (apartN f.rw g.rw && (apartN f.nm g.nm && (apartN f.nm g.rl && (apartN g.nm f.rl && (apartN f.kw g.rl && apartN g.kw f.rl)))))))))
def onIn : List Edge → Nat → Bool
  | [], _ => false
  | e :: l, j => (Region.binds .any e && Nat.beq e.on j) || onIn l j
/-- Is j told to come before i? -/
def direct (ops : Array Oper) (i j : Nat) : Bool := match ops.toList[i]? with
  | some o => onIn o.after.toList j
  | none => false
/-- Is j told to come before i, by whatever is between? -/
inductive Tr (ops : Array Oper) : Nat → Nat → Prop
  | one {i j : Nat} : direct ops i j = true → Tr ops i j
  | step {i m j : Nat} : direct ops i m = true → Tr ops m j → Tr ops i j
def pairOK (ops : Array Oper) (g f : Foot) : Prop := Tr ops f.i g.i ∨ indep f g = true
def chkDone (ops : Array Oper) (f : Foot) (l : List Foot) : Prop := ∀ g ∈ l, pairOK ops g f

section
variable (Γ : Ctx) (P : Program) (Q : Act → World → Prop) (ops : Array Oper) (k' : List Item)
def SoundAt (i : Nat) (e : Eff) (σ : St) : Prop :=
  ∀ σ1 : St, Agree e.f.rd σ.τ σ1.τ → Agree e.f.rr σ.r σ1.r → Alive σ1.r e.f.rl → freshL σ1.us e.f.nm = true → ∀ l,
    W Γ P Q [] (.inRegion ops l :: k') (σ1.add e).τ (σ1.add e).r (σ1.add e).us → W Γ P Q [] (.inRegion ops (i :: l) :: k') σ1.τ σ1.r σ1.us

/-- The operations l, in the order of the text, from the state σ on; those of 'done' were before. -/
inductive Run : List Foot → List Nat → St → Prop
  | nil {done : List Foot} {σ : St} : W Γ P Q [] (.inRegion ops [] :: k') σ.τ σ.r σ.us → Run done [] σ
  | cons {done : List Foot} {i : Nat} {l : List Nat} {σ : St} (e : Eff) : e.f.i = i → e.ok → SoundAt Γ P Q ops k' i e σ → Alive σ.r e.f.rl → freshL σ.us e.f.nm = true → chkDone ops e.f done →
      Run (e.f :: done) l (σ.add e) → Run done (i :: l) σ
end

def St.eqv (σ σ' : St) : Prop := (∀ t, look σ.τ t = look σ'.τ t) ∧ (∀ n, look σ.r n = look σ'.r n) ∧ (∀ n, hasN σ.us n = hasN σ'.us n)

theorem hasN_append (l k : List Nat) (n : Nat) : hasN (l ++ k) n = (hasN l n || hasN k n) := by
  induction l with
  | nil => simp [hasN]
  | cons m l ih => rw [List.cons_append, hasN_cons, ih, hasN_cons, Bool.or_assoc]
theorem usedN_eq {us us' : List Nat} (h : ∀ n, hasN us n = hasN us' n) (n : Nat) : usedN us n = usedN us' n := by
  unfold usedN; rw [h]
theorem freshL_eq {us us' : List Nat} (h : ∀ n, hasN us n = hasN us' n) : ∀ (l : List Nat), freshL us l = freshL us' l
  | [] => rfl
  | n :: l => by rw [freshL, freshL, usedN_eq h, freshL_eq h l]
theorem freshL_sub {us us' : List Nat} (h : ∀ n, hasN us' n = true → hasN us n = true) : ∀ {l : List Nat}, freshL us l = true → freshL us' l = true
  | [], _ => rfl
  | n :: l, hf => by
    rw [freshL, Bool.and_eq_true, Bool.not_eq_true'] at hf ⊢
    refine ⟨?_, freshL_sub h hf.2⟩
    have h1 := hf.1
    unfold usedN at h1 ⊢
    cases e : Nat.ble 1000 n with
    | true => rw [e] at h1; cases h1
    | false =>
      rw [e] at h1
      simp only [cond_false] at h1 ⊢
      cases e2 : hasN us' n with
      | false => rfl
      | true => rw [h n e2] at h1; cases h1
theorem freshL_app {us nm : List Nat} : ∀ {l : List Nat}, freshL us l = true → apartN nm l = true → freshL (nm ++ us) l = true
  | [], _, _ => rfl
  | n :: l, hf, ha => by
    rw [freshL, Bool.and_eq_true, Bool.not_eq_true'] at hf ⊢
    rw [apartN, Bool.and_eq_true, Bool.not_eq_true'] at ha
    exact ⟨by rw [usedN_append, ha.1, hf.1]; rfl, freshL_app hf.2 ha.2⟩

theorem St.eqv.refl (σ : St) : σ.eqv σ := ⟨fun _ => rfl, fun _ => rfl, fun _ => rfl⟩
theorem St.eqv.symm {σ σ' : St} (h : σ.eqv σ') : σ'.eqv σ := ⟨fun t => (h.1 t).symm, fun t => (h.2.1 t).symm, fun t => (h.2.2 t).symm⟩
theorem St.eqv.add {σ σ' : St} (h : σ.eqv σ') (e : Eff) : (σ.add e).eqv (σ'.add e) := by
  refine ⟨fun t => ?_, fun t => ?_, fun n => ?_⟩
  · simp only [St.add, appT_eq, look_append, h.1 t]
  · simp only [St.add, appT_eq, look_append, h.2.1 t]
  · simp only [St.add, appN_eq, hasN_append, h.2.2 n]

theorem W.eqv {Γ : Ctx} {P : Program} {Q : Act → World → Prop} {k : List Item} {σ σ' : St} (h : W Γ P Q [] k σ.τ σ.r σ.us) (he : σ.eqv σ') : W Γ P Q [] k σ'.τ σ'.r σ'.us :=
  ⟨fun a w I ρ hR hS _ => h.ok a w I ρ
    ⟨hR.imm, fun n ob hn => hR.own n ob (by rw [← he.2.1]; exact hn), fun m n ob ob' b N N' hm hn => hR.inj m n ob ob' b N N' (by rw [← he.2.1]; exact hm) (by rw [← he.2.1]; exact hn),
      fun n hn => hR.names n (by rw [← usedN_eq he.2.2]; exact hn), hR.frame, hR.keep⟩
    ⟨hS.size, hS.defers, fun t x hx => hS.at_ t x (by rw [← he.1]; exact hx)⟩ .nil⟩

section
variable {Γ : Ctx} {P : Program} {Q : Act → World → Prop} {ops : Array Oper} {k' : List Item}

theorem Run.eqv {done : List Foot} {l : List Nat} {σ σ' : St} (h : Run Γ P Q ops k' done l σ) : σ.eqv σ' → Run Γ P Q ops k' done l σ' := by
  induction h generalizing σ' with
  | nil hw => exact fun he => .nil (hw.eqv he)
  | cons e h1 h2 h3 hA h4 h5 _ ih =>
    exact fun he => .cons e h1 h2 (fun σ1 a1 a2 => h3 σ1 (fun t ht => by rw [a1 t ht, he.1 t]) (fun t ht => by rw [a2 t ht, he.2.1 t])) (fun n hn => by rw [← he.2.1 n]; exact hA n hn) (by rw [← freshL_eq he.2.2]; exact h4) h5 (ih (he.add e))

theorem Run.sub {done done' : List Foot} {l : List Nat} {σ : St} (h : Run Γ P Q ops k' done l σ) : (∀ f ∈ done', f ∈ done) → Run Γ P Q ops k' done' l σ := by
  induction h generalizing done' with
  | nil hw => exact fun _ => .nil hw
  | cons e h1 h2 h3 hA h4 h5 _ ih =>
    refine fun hs => .cons e h1 h2 h3 hA h4 (fun g hg => h5 g (hs g hg)) (ih fun f hf => ?_)
    rcases List.mem_cons.1 hf with rfl | hf
    · exact List.mem_cons_self
    · exact List.mem_cons_of_mem _ (hs f hf)

theorem look_app_off {α : Type} {l k : List (Nat × α)} {t : Nat} (h : hasN (keys l) t = false) : look (appT l k) t = look k t := by
  rw [appT_eq, look_append]
  cases e : look l t with
  | none => rfl
  | some v => rw [look_keys e] at h; cases h

theorem Run.swap {done : List Foot} {i j : Nat} {l : List Nat} {σ : St} (h : Run Γ P Q ops k' done (i :: j :: l) σ) (hd : ¬ Tr ops j i) : Run Γ P Q ops k' done (j :: i :: l) σ := by
  cases h with
  | cons ei hi1 hi2 hi3 hiA hi4 hi5 h =>
    cases h with
    | cons ej hj1 hj2 hj3 hjA hj4 hj5 h =>
      have hin : indep ej.f ei.f = true := by
        rcases hj5 ei.f List.mem_cons_self with h1 | h1
        · rw [hi1, hj1] at h1; exact absurd h1 hd
        · exact h1
      unfold indep at hin
      obtain ⟨q1, hin⟩ := andb hin
      obtain ⟨q2, hin⟩ := andb hin
      obtain ⟨q3, hin⟩ := andb hin
      obtain ⟨q4, hin⟩ := andb hin
      obtain ⟨q5, hin⟩ := andb hin
      obtain ⟨q6, hin⟩ := andb hin
      obtain ⟨q7, hin⟩ := andb hin
      obtain ⟨q8, hin⟩ := andb hin
      obtain ⟨q9, hin⟩ := andb hin
      obtain ⟨q10, q11⟩ := andb hin
      have flip : ∀ {l m : List Nat}, apartN l m = true → ∀ {n : Nat}, hasN l n = true → hasN m n = false := fun {l m} h n hn => by
        cases e : hasN m n with
        | false => rfl
        | true => rw [apartN_ok h e] at hn; cases hn
      have flipB : ∀ {l m : List Nat}, apartN l m = true → apartN m l = true := fun {l m} h => by
        induction l with
        | nil => rfl
        | cons n l ih =>
          rw [apartN, flip h (n := n) (by rw [hasN_cons]; simp)]
          exact ih (by
            clear ih
            induction m with
            | nil => rfl
            | cons k m ih2 =>
              rw [apartN, Bool.and_eq_true, Bool.not_eq_true'] at h ⊢
              rw [hasN_cons, Bool.or_eq_false_iff] at h
              exact ⟨h.1.2, ih2 h.2⟩)
      have disj : ∀ {α : Type} {a b c : List (Nat × α)}, apartN (keys a) (keys b) = true → ∀ t, look (appT a (appT b c)) t = look (appT b (appT a c)) t := fun {α a b c} h t => by
        rw [appT_eq, appT_eq, appT_eq, appT_eq, look_append, look_append, look_append, look_append]
        cases e : look a t with
        | none => rfl
        | some v =>
          have := flip h (look_keys e)
          cases e' : look b t with
          | none => rfl
          | some v' => rw [look_keys e'] at this; cases this
      refine .cons ej hj1 hj2 (fun σ1 a1 a2 => hj3 σ1 (fun t ht => ?_) (fun t ht => ?_)) (fun n hn => ?_) ?_ (fun g hg => hj5 g (List.mem_cons_of_mem _ hg)) (.cons ei hi1 hi2 (fun σ1 a1 a2 => hi3 σ1 (fun t ht => ?_) (fun t ht => ?_)) (fun n hn => ?_) ?_ ?_ ?_)
      · rw [a1 t ht]
        exact (look_app_off (by rw [hi2.ds]; exact apartN_ok q2 ht)).symm
      · rw [a2 t ht]
        exact (look_app_off (by rw [hi2.rw_]; exact apartN_ok q5 ht)).symm
      · obtain ⟨ob, hob⟩ := hjA n hn
        by_cases e : hasN (keys ei.r) n = true
        · rcases hi2.old n (by rw [← hi2.rw_]; exact e) with h1 | h1
          · rw [apartN_ok q9 hn] at h1; cases h1
          · exact hiA n h1
        · rw [Bool.not_eq_true] at e
          exact ⟨ob, by rw [← hob]; exact (look_app_off e).symm⟩
      · exact freshL_sub (fun n hn => by simp only [St.add, appN_eq, hasN_append, hn, Bool.or_true]) hj4
      · rw [a1 t ht]
        exact look_app_off (by rw [hj2.ds]; exact apartN_ok q1 ht)
      · rw [a2 t ht]
        exact look_app_off (by rw [hj2.rw_]; exact apartN_ok q4 ht)
      · obtain ⟨ob, hob⟩ := hiA n hn
        show ∃ ob, look (appT ej.r σ.r) n = some (some ob)
        rw [appT_eq, look_append]
        cases e : look ej.r n with
        | none => exact ⟨ob, hob⟩
        | some o =>
          cases o with
          | none => have := hj2.kill n e; rw [apartN_ok q10 hn] at this; cases this
          | some ob' => exact ⟨ob', rfl⟩
      · simp only [St.add, appN_eq]
        exact freshL_app hi4 q7
      · intro g hg
        rcases List.mem_cons.1 hg with rfl | hg
        · right
          unfold indep
          rw [flipB q3, flipB q6, q1, q2, q4, q5, flipB q7, q8, q9, q10, q11]
          rfl
        · exact hi5 g hg
      · refine (h.eqv ⟨fun t => ?_, fun t => ?_, fun n => ?_⟩).sub fun f hf => ?_
        · exact disj (by rw [hj2.ds, hi2.ds]; exact q3) t
        · exact disj (by rw [hj2.rw_, hi2.rw_]; exact q6) t
        · simp only [St.add, appN_eq, hasN_append]
          cases hasN ei.f.nm n <;> cases hasN ej.f.nm n <;> rfl
        · simp only [List.mem_cons] at hf ⊢
          rcases hf with h | h | h
          · exact .inr (.inl h)
          · exact .inl h
          · exact .inr (.inr h)

theorem Run.front {i : Nat} {l2 : List Nat} : ∀ (l1 : List Nat) {done : List Foot} {σ : St}, Run Γ P Q ops k' done (l1 ++ i :: l2) σ → (∀ j ∈ l1, ¬ Tr ops i j) → Run Γ P Q ops k' done (i :: (l1 ++ l2)) σ
  | [], _, _, h, _ => h
  | j :: l1, done, σ, h, hd => by
    cases h with
    | cons e h1 h2 h3 hA h4 h5 h =>
      exact Run.swap (.cons e h1 h2 h3 hA h4 h5 (Run.front l1 h fun j' hj => hd j' (List.mem_cons_of_mem _ hj))) (hd j List.mem_cons_self)

/-- Every edge leads to an earlier operation. -/
def edgesOK (ops : Array Oper) : Bool := go 0 ops.toList
where
  go : Nat → List Oper → Bool
    | _, [] => true
    | n, o :: l => (o.after.toList.all fun e => !Region.binds .any e || Nat.blt e.on n) && go (n + 1) l
theorem edgesOK_go : ∀ (l : List Oper) (n : Nat), edgesOK.go n l = true → ∀ (i : Nat) (o : Oper), l[i]? = some o → ∀ e ∈ o.after.toList, Region.binds .any e = true → e.on < n + i
  | [], _, _, i, o, h => by simp at h
  | x :: l, n, hg, i, o, h => by
    rw [edgesOK.go, Bool.and_eq_true, List.all_eq_true] at hg
    cases i with
    | zero =>
      simp at h
      subst h
      intro e he hb
      have := hg.1 e he
      rw [hb, Bool.not_true, Bool.false_or] at this
      exact blt_lt this
    | succ i =>
      intro e he hb
      have := edgesOK_go l (n + 1) hg.2 i o (by simpa using h) e he hb
      omega
theorem edgesOK_ok (h : edgesOK ops = true) {i : Nat} {o : Oper} (ho : ops[i]? = some o) : ∀ e ∈ o.after.toList, Region.binds .any e = true → e.on < i := fun e he hb => by
  have := edgesOK_go ops.toList 0 h i o (by simpa using ho) e he hb
  omega

theorem Tr.closed {listed : Array Bool} (hc : ∀ m, m < ops.size → listed.getD m true = true → ∀ j, direct ops m j = true → listed.getD j true = true) {i j : Nat} (h : Tr ops i j) : i < ops.size → listed.getD i true = true → listed.getD j true = true := by
  induction h with
  | one h => exact fun a b => hc _ a b _ h
  | step h _ ih =>
    intro a b
    have hm := hc _ a b _ h
    refine ih ?_ hm
    refine Nat.lt_of_not_le fun hge => ?_
    rename_i i m j ht
    have : ops.toList[m]? = none := by simp; omega
    cases ht with
    | one h => unfold direct at h; rw [this] at h; cases h
    | step h _ => unfold direct at h; rw [this] at h; cases h
theorem onIn_true {l : List Edge} {j : Nat} (h : onIn l j = true) : ∃ e ∈ l, Region.binds .any e = true ∧ e.on = j := by
  induction l with
  | nil => cases h
  | cons e l ih =>
    rw [onIn, Bool.or_eq_true] at h
    rcases h with h | h
    · rw [Bool.and_eq_true] at h
      exact ⟨e, List.mem_cons_self, h.1, Nat.eq_of_beq_eq_true h.2⟩
    · obtain ⟨e', h1, h2⟩ := ih h
      exact ⟨e', List.mem_cons_of_mem _ h1, h2⟩
theorem direct_true {i j : Nat} (h : direct ops i j = true) : ∃ o, ops[i]? = some o ∧ ∃ e ∈ o.after.toList, Region.binds .any e = true ∧ e.on = j := by
  unfold direct at h
  cases ho : ops.toList[i]? with
  | none => rw [ho] at h; cases h
  | some o => rw [ho] at h; exact ⟨o, by simpa using ho, onIn_true h⟩

/-- Whatever the order is. -/
theorem Run.lin (hE : edgesOK ops = true) : ∀ (fuel t : Nat) (listed : Array Bool) (L : List Nat) (done : List Foot) (σ : St), L.Pairwise (· < ·) → listed.size = ops.size → (∀ i, i ∈ L ↔ i < ops.size ∧ listed.getD i true = false) → (∀ m, m < ops.size → listed.getD m true = true → ∀ j, direct ops m j = true → listed.getD j true = true) → L.length ≤ fuel →
    Run Γ P Q ops k' done L σ → W Γ P Q [] (.inRegion ops (Region.linearise.go .any ops fuel t listed []) :: k') σ.τ σ.r σ.us
  | 0, t, listed, L, done, σ, hs, hsz, hL, hc, hf, h => by
    have : L = [] := List.length_eq_zero_iff.1 (by omega)
    subst this
    cases h with
    | nil hw => exact hw
  | fuel + 1, t, listed, L, done, σ, hs, hsz, hL, hc, hf, h => by
    simp only [Region.linearise.go]
    change W Γ P Q [] (.inRegion ops (match (Region.ready .any ops listed)[t % (Region.ready .any ops listed).length]? with
      | some i => Region.linearise.go .any ops fuel (t / (Region.ready .any ops listed).length) (listed.setIfInBounds i true) [i]
      | none => [].reverse) :: k') σ.τ σ.r σ.us
    cases L with
    | nil =>
      have hnil : Region.ready .any ops listed = [] := by
        unfold Region.ready
        rw [List.filter_eq_nil_iff]
        intro i hi hr
        rw [Bool.and_eq_true, Bool.not_eq_true'] at hr
        have := (hL i).2 ⟨List.mem_range.1 hi, hr.1⟩
        cases this
      rw [hnil]
      cases h with
      | nil hw => exact hw
    | cons i0 L0 =>
      have h0 := (hL i0).1 List.mem_cons_self
      have hfirst : i0 ∈ Region.ready .any ops listed := by
        unfold Region.ready
        rw [List.mem_filter]
        refine ⟨List.mem_range.2 h0.1, ?_⟩
        rw [h0.2, Array.getElem?_eq_getElem h0.1]
        simp only [Bool.not_false, Bool.true_and, Option.map_some, Option.getD_some]
        rw [Array.all_eq_true']
        intro e he
        cases hbd : Region.binds .any e with
        | false => rfl
        | true =>
        have hlt := edgesOK_ok hE (Array.getElem?_eq_getElem h0.1) e (by simpa using he) hbd
        have hnot : e.on ∉ i0 :: L0 := fun hm => by
          rcases List.mem_cons.1 hm with hm | hm
          · omega
          · have := (List.pairwise_cons.1 hs).1 _ hm
            omega
        have : listed.getD e.on true = true := by
          cases e2 : listed.getD e.on true with
          | true => rfl
          | false => exact absurd ((hL e.on).2 ⟨by omega, e2⟩) hnot
        have hin : e.on < listed.size := by omega
        rw [Array.getD_eq_getD_getElem?, Array.getElem?_eq_getElem hin, Option.getD_some] at this
        rw [Array.getD_eq_getD_getElem?, Array.getElem?_eq_getElem hin, Option.getD_some, this, Bool.or_true]
      have hpos : 0 < (Region.ready .any ops listed).length := List.length_pos_of_mem hfirst
      have hlt := Nat.mod_lt t hpos
      rw [List.getElem?_eq_getElem hlt]
      simp only
      generalize hi : (Region.ready .any ops listed)[t % (Region.ready .any ops listed).length] = i
      have him : i ∈ Region.ready .any ops listed := hi ▸ List.getElem_mem hlt
      generalize t / (Region.ready .any ops listed).length = t'
      rw [linearise_go_acc, List.reverse_singleton, List.singleton_append]
      have hi2 := him
      unfold Region.ready at hi2
      rw [List.mem_filter, List.mem_range, Bool.and_eq_true, Bool.not_eq_true'] at hi2
      obtain ⟨hin, hun, hedge⟩ := hi2
      have hiL : i ∈ i0 :: L0 := (hL i).2 ⟨hin, hun⟩
      rw [Array.getElem?_eq_getElem hin, Option.map_some, Option.getD_some, Array.all_eq_true'] at hedge
      obtain ⟨l1, l2, hsplit⟩ := List.append_of_mem hiL
      rw [hsplit] at h hs hL hf
      have hdi : ∀ j, direct ops i j = true → listed.getD j true = true := fun j hj => by
        obtain ⟨o, ho, e, he, hb, hon⟩ := direct_true hj
        rw [Array.getElem?_eq_getElem hin] at ho
        cases ho
        have := hedge e (by simpa using he)
        rw [hb, Bool.not_true, Bool.false_or, hon] at this
        by_cases hjs : j < listed.size
        · rw [Array.getD_eq_getD_getElem?, Array.getElem?_eq_getElem hjs, Option.getD_some] at this ⊢
          exact this
        · rw [Array.getD_eq_getD_getElem?, Array.getElem?_eq_none (by omega)]; rfl
      have hd : ∀ j ∈ l1, ¬ Tr ops i j := fun j hj ht => by
        have hj2 := (hL j).1 (by simp [hj])
        have : listed.getD j true = true := by
          cases ht with
          | one h => exact hdi _ h
          | step h ht =>
            have hm := hdi _ h
            refine ht.closed hc ?_ hm
            refine Nat.lt_of_not_le fun hge => ?_
            rename_i m
            have : ops.toList[m]? = none := by simp; omega
            cases ht with
            | one h => unfold direct at h; rw [this] at h; cases h
            | step h _ => unfold direct at h; rw [this] at h; cases h
        rw [this] at hj2
        cases hj2.2
      have hr := Run.front l1 h hd
      cases hr with
      | cons e h1 h2 h3 hA h4 h5 h =>
        refine h3 σ (fun _ _ => rfl) (fun _ _ => rfl) hA h4 _ ?_
        have hs' := hs
        rw [List.pairwise_append] at hs
        refine Run.lin hE fuel t' _ (l1 ++ l2) _ _ ?_ (by simpa using hsz) (fun j => ?_) (fun m hm hlm j hj => ?_) (by simp at hf ⊢; omega) h
        · rw [List.pairwise_append]
          exact ⟨hs.1, (List.pairwise_cons.1 hs.2.1).2, fun a ha b hb => hs.2.2 a ha b (List.mem_cons_of_mem _ hb)⟩
        · have hji := hL j
          simp only [List.mem_append, List.mem_cons] at hji ⊢
          by_cases e : j = i
          · subst e
            have hnl1 : j ∉ l1 := fun hm => by
              have := hs.2.2 j hm j List.mem_cons_self
              omega
            have hnl2 : j ∉ l2 := fun hm => by
              have := (List.pairwise_cons.1 hs.2.1).1 j hm
              omega
            simp only [hnl1, hnl2, false_or, false_iff, not_and, Bool.not_eq_false]
            intro _
            have : j < listed.size := by omega
            simp [Array.getD_eq_getD_getElem?, Array.getElem?_setIfInBounds, this]
          · have hgd : (listed.setIfInBounds i true).getD j true = listed.getD j true := by
              simp [Array.getD_eq_getD_getElem?, Array.getElem?_setIfInBounds, Ne.symm e]
            rw [hgd, ← hji]
            simp [e]
        · have up : ∀ q, listed.getD q true = true → (listed.setIfInBounds i true).getD q true = true := fun q hq => by
            by_cases e : q = i
            · subst e
              have : q < listed.size := by omega
              simp [Array.getD_eq_getD_getElem?, Array.getElem?_setIfInBounds, this]
            · have hgd : (listed.setIfInBounds i true).getD q true = listed.getD q true := by
                simp [Array.getD_eq_getD_getElem?, Array.getElem?_setIfInBounds, Ne.symm e]
              rw [hgd]; exact hq
          by_cases e : m = i
          · subst e
            exact up j (hdi j hj)
          · have hgd : (listed.setIfInBounds i true).getD m true = listed.getD m true := by
              simp [Array.getD_eq_getD_getElem?, Array.getElem?_setIfInBounds, Ne.symm e]
            rw [hgd] at hlm
            exact up j (hc m hm hlm j hj)

/-- A region whose order is drawn. -/
theorem W.draw (hm : P.follows .mixedOrders = true) (hE : edgesOK ops = true) {id : Nat} {g : List (Nat × Nat × Bool)} {τ : List (Nat × A)} {r : List (Nat × Option Obj)} {us : List Nat}
    (h : Run Γ P Q ops k' [] (List.range ops.size) ⟨τ, r, us⟩) : W Γ P Q g (.code (.region id ops true) :: k') τ r us := by
  refine ⟨fun a w I ρ hR hS _ b cs => ?_⟩
  have hl := Run.lin hE ops.size (w.tape w.drawn (.order b.fn id)) (Array.replicate ops.size false) (List.range ops.size) [] ⟨τ, r, us⟩ List.pairwise_lt_range (by simp) (fun i => by
    rw [List.mem_range]
    constructor
    · intro hi
      exact ⟨hi, by simp [Array.getD_eq_getD_getElem?, hi]⟩
    · exact fun hi => hi.1) (fun m hm hl => by
      simp [Array.getD_eq_getD_getElem?, hm] at hl) (by simp) h
  obtain ⟨a', w', todo, hq, hs⟩ := hl.ok a _ I ρ hR.drew hS .nil b cs
  refine ⟨a', w', todo, hq, .head step_region_draw ?_⟩
  simp only [Region.schedule, hm, Bool.true_or, if_true, Region.linearise]
  exact hs
end
end VX

/- VX 33: walking through a region whose order is drawn, in the order of the text. -/
namespace VX
open Go

/-! ### which slots and objects an operation meets, as bits of a number -/
def maskF : List Nat → Nat → Nat
  | [], a => a
  | n :: l, a => maskF l (Nat.lor (Nat.shiftLeft 1 n) a)
def maskN (l : List Nat) : Nat := maskF l 0
/-- The same, handed on as a closed number. -/
def maskK {α : Sort _} : List Nat → Nat → (Nat → α) → α
  | [], a, k => k a
  | n :: l, a, k => maskK l (Nat.lor (Nat.shiftLeft 1 n) a) k
theorem maskK_eq {α : Sort _} (k : Nat → α) : ∀ (l : List Nat) (a : Nat), maskK l a k = k (maskF l a)
  | [], _ => rfl
  | n :: l, a => maskK_eq k l _
def cls (k : Nat) : List Nat → List Nat
  | [] => []
  | n :: l => Nat.add (Nat.mul 3 n) k :: cls k l
def wL (f : Foot) : List Nat := appN (cls 0 f.ds) (appN (cls 1 f.rw) (appN (cls 1 f.nm) (appN (cls 2 f.nm) (cls 2 f.kw))))
def aL (f : Foot) : List Nat := appN (cls 0 f.rd) (appN (cls 1 f.rr) (appN (cls 2 f.rl) (wL f)))
def edgeL : List Edge → List Nat
  | [] => []
  | e :: l => match Region.binds .any e with
    | true => e.on :: edgeL l
    | false => edgeL l
def afterM (ops : Array Oper) (i : Nat) : Nat := match ops.toList[i]? with
  | some o => maskN (edgeL o.after.toList)
  | none => 0
structure FM where
  i : Nat
  w : Nat
  a : Nat
def Foot.m (f : Foot) : FM := ⟨f.i, maskN (wL f), maskN (aL f)⟩
def anyE (f : Nat → Bool) (j : Nat) : List Edge → Bool
  | [] => false
  | e :: l => match Region.binds .any e with
    | true => (match Nat.beq e.on j with
      | true => true
      | false => (match Nat.blt j e.on with
        | true => (match f e.on with
          | true => true
          | false => anyE f j l)
        | false => anyE f j l))
    | false => anyE f j l
/-- By whatever is between, but for no more than so many. -/
def trB (ops : Array Oper) : Nat → Nat → Nat → Bool
  | 0, _, _ => false
  | n + 1, i, j => match ops.toList[i]? with
    | some o => anyE (fun m => trB ops n m j) j o.after.toList
    | none => false
def fmOK (ops : Array Oper) (i em w a : Nat) : List FM → Bool
  | [] => true
  | g :: l => match Nat.beq (Nat.land (Nat.shiftRight em g.i) 1) 1 with
    | true => fmOK ops i em w a l
    | false => match Nat.beq (Nat.lor (Nat.land w g.a) (Nat.land a g.w)) 0 with
      | true => fmOK ops i em w a l
      | false => match trB ops 12 i g.i with
        | true => fmOK ops i em w a l
        | false => false
/-- The check, and what to do then. -/
def chkK {α : Sort _} (ops : Array Oper) (i : Nat) (f : Foot) (l : List FM) (yes : FM → α) (no : α) : α :=
  maskK (wL f) 0 fun w => maskK (aL f) 0 fun a => match ops.toList[i]? with
    | some o => maskK (edgeL o.after.toList) 0 fun em => (match fmOK ops i em w a l with
      | true => yes ⟨i, w, a⟩
      | false => no)
    | none => no
def chkM (ops : Array Oper) (f : Foot) (l : List FM) : Bool := fmOK ops f.i (afterM ops f.i) (maskN (wL f)) (maskN (aL f)) l

theorem testBit_maskF (l : List Nat) (n : Nat) : ∀ a : Nat, (maskF l a).testBit n = (hasN l n || a.testBit n) := by
  induction l with
  | nil => intro a; simp [maskF, hasN]
  | cons m l ih =>
    intro a
    rw [maskF, ih, hasN_cons, show Nat.lor (Nat.shiftLeft 1 m) a = (1 <<< m) ||| a from rfl, Nat.testBit_or, Nat.testBit_shiftLeft, ← Bool.or_assoc, Bool.or_comm (decide (m = n))]
    congr 2
    by_cases h : m = n
    · subst h; simp
    · simp only [h, decide_false, Bool.and_eq_false_iff, decide_eq_false_iff_not]
      by_cases h2 : n ≥ m
      · right
        have : n - m ≠ 0 := by omega
        rw [← Bool.not_eq_true, Nat.testBit_one_eq_true_iff_self_eq_zero]
        exact this
      · left; omega
theorem testBit_maskN (l : List Nat) (n : Nat) : (maskN l).testBit n = hasN l n := by rw [maskN, testBit_maskF]; simp
theorem hasN_cls (k : Nat) (hk : k < 3) (l : List Nat) (n : Nat) : hasN (cls k l) (3 * n + k) = hasN l n := by
  induction l with
  | nil => rfl
  | cons m l ih =>
    rw [cls, hasN_cons, hasN_cons, ih]
    congr 1
    have : (Nat.add (Nat.mul 3 m) k = 3 * n + k) ↔ (m = n) := by show 3 * m + k = 3 * n + k ↔ _; omega
    simp only [this]
theorem apartN_of {l : List Nat} : ∀ {m : List Nat}, (∀ n, hasN m n = true → hasN l n = false) → apartN l m = true
  | [], _ => rfl
  | n :: m, h => by
    rw [apartN, h n (by rw [hasN_cons]; simp), Bool.not_false, Bool.true_and]
    exact apartN_of fun k hk => h k (by rw [hasN_cons, hk, Bool.or_true])
theorem land_apart {a b n : Nat} (h : Nat.land a b = 0) (h1 : a.testBit n = true) : b.testBit n = false := by
  have : (a &&& b).testBit n = false := by rw [show a &&& b = 0 from h]; simp
  rw [Nat.testBit_and, h1, Bool.true_and] at this
  exact this

theorem has_app {l k : List Nat} {n : Nat} : hasN (appN l k) n = (hasN l n || hasN k n) := by rw [appN_eq, hasN_append]
theorem wL_ds {f : Foot} {n : Nat} (h : hasN f.ds n = true) : hasN (wL f) (3 * n + 0) = true := by
  rw [wL, has_app, hasN_cls 0 (by omega), h, Bool.true_or]
theorem wL_rw {f : Foot} {n : Nat} (h : hasN f.rw n = true) : hasN (wL f) (3 * n + 1) = true := by
  rw [wL, has_app, has_app, hasN_cls 1 (by omega), h, Bool.true_or, Bool.or_true]
theorem wL_nm {f : Foot} {n : Nat} (h : hasN f.nm n = true) : hasN (wL f) (3 * n + 1) = true := by
  rw [wL, has_app, has_app, has_app, hasN_cls 1 (by omega) f.nm, h, Bool.true_or, Bool.or_true, Bool.or_true]
theorem wL_nm2 {f : Foot} {n : Nat} (h : hasN f.nm n = true) : hasN (wL f) (3 * n + 2) = true := by
  rw [wL, has_app, has_app, has_app, has_app, hasN_cls 2 (by omega) f.nm, h, Bool.true_or, Bool.or_true, Bool.or_true, Bool.or_true]
theorem wL_kw {f : Foot} {n : Nat} (h : hasN f.kw n = true) : hasN (wL f) (3 * n + 2) = true := by
  rw [wL, has_app, has_app, has_app, has_app, hasN_cls 2 (by omega) f.kw, h, Bool.or_true, Bool.or_true, Bool.or_true, Bool.or_true]
theorem aL_rd {f : Foot} {n : Nat} (h : hasN f.rd n = true) : hasN (aL f) (3 * n + 0) = true := by
  rw [aL, has_app, hasN_cls 0 (by omega), h, Bool.true_or]
theorem aL_rr {f : Foot} {n : Nat} (h : hasN f.rr n = true) : hasN (aL f) (3 * n + 1) = true := by
  rw [aL, has_app, has_app, hasN_cls 1 (by omega), h, Bool.true_or, Bool.or_true]
theorem aL_rl {f : Foot} {n : Nat} (h : hasN f.rl n = true) : hasN (aL f) (3 * n + 2) = true := by
  rw [aL, has_app, has_app, has_app, hasN_cls 2 (by omega), h, Bool.true_or, Bool.or_true, Bool.or_true]
theorem aL_wL {f : Foot} {n : Nat} (h : hasN (wL f) n = true) : hasN (aL f) n = true := by
  rw [aL, has_app, has_app, has_app, h, Bool.or_true, Bool.or_true, Bool.or_true]

theorem indep_of {f g : Foot} (h1 : Nat.land (maskN (wL f)) (maskN (aL g)) = 0) (h2 : Nat.land (maskN (aL f)) (maskN (wL g)) = 0) : indep f g = true := by
  have k1 : ∀ n, hasN (wL f) n = true → hasN (aL g) n = false := fun n hn => by
    rw [← testBit_maskN] at hn ⊢; exact land_apart h1 hn
  have k2 : ∀ n, hasN (aL f) n = true → hasN (wL g) n = false := fun n hn => by
    rw [← testBit_maskN] at hn ⊢; exact land_apart h2 hn
  have no : ∀ {p q : Bool}, (p = true → q = false) → (q = true → p = false) := fun {p q} h hq => by
    cases p
    · rfl
    · rw [h rfl] at hq; cases hq
  have up : ∀ {p q : Bool}, (p = true → q = true) → (q = false → p = false) := fun {p q} h hq => by
    cases p
    · rfl
    · rw [h rfl] at hq; cases hq
  unfold indep
  rw [apartN_of (l := f.ds) (m := g.rd) fun n hn => no (fun hd => up aL_rd (k1 _ (wL_ds hd))) hn,
    apartN_of (l := g.ds) (m := f.rd) fun n hn => up wL_ds (k2 _ (aL_rd hn)),
    apartN_of (l := f.ds) (m := g.ds) fun n hn => no (fun hd => up (fun h => aL_wL (wL_ds h)) (k1 _ (wL_ds hd))) hn,
    apartN_of (l := f.rw) (m := g.rr) fun n hn => no (fun hd => up aL_rr (k1 _ (wL_rw hd))) hn,
    apartN_of (l := g.rw) (m := f.rr) fun n hn => up wL_rw (k2 _ (aL_rr hn)),
    apartN_of (l := f.rw) (m := g.rw) fun n hn => no (fun hd => up (fun h => aL_wL (wL_rw h)) (k1 _ (wL_rw hd))) hn,
    apartN_of (l := f.nm) (m := g.nm) fun n hn => no (fun hd => up (fun h => aL_wL (wL_nm h)) (k1 _ (wL_nm hd))) hn,
    apartN_of (l := f.nm) (m := g.rl) fun n hn => no (fun hd => up aL_rl (k1 _ (wL_nm2 hd))) hn,
    apartN_of (l := g.nm) (m := f.rl) fun n hn => up wL_nm2 (k2 _ (aL_rl hn)),
    apartN_of (l := f.kw) (m := g.rl) fun n hn => no (fun hd => up aL_rl (k1 _ (wL_kw hd))) hn,
    apartN_of (l := g.kw) (m := f.rl) fun n hn => up wL_kw (k2 _ (aL_rl hn))]
  rfl

theorem onIn_edgeL (l : List Edge) (j : Nat) : onIn l j = hasN (edgeL l) j := by
  induction l with
  | nil => rfl
  | cons e l ih =>
    rw [onIn, edgeL, ih]
    cases Region.binds .any e with
    | false => rfl
    | true =>
      rw [hasN_cons, Bool.true_and]
      congr 1
      by_cases h : e.on = j
      · simp [h]
      · simp [nbeq_ne h, h]
theorem direct_of {ops : Array Oper} {i j : Nat} (h : Nat.beq (Nat.land (Nat.shiftRight (afterM ops i) j) 1) 1 = true) : direct ops i j = true := by
  have h := Nat.eq_of_beq_eq_true h
  have ht : (afterM ops i).testBit j = true := by
    rw [Nat.testBit]
    have : 1 &&& (afterM ops i >>> j) = 1 := by rw [Nat.and_comm]; exact h
    rw [this]; rfl
  unfold afterM at ht
  unfold direct
  cases ho : ops.toList[i]? with
  | none => rw [ho] at ht; simp at ht
  | some o =>
    rw [ho] at ht
    have ht : (maskN (edgeL o.after.toList)).testBit j = true := ht
    show onIn o.after.toList j = true
    rw [onIn_edgeL, ← testBit_maskN]; exact ht

theorem edgeL_has {l : List Edge} {e : Edge} (h1 : e ∈ l) (h2 : Region.binds .any e = true) : hasN (edgeL l) e.on = true := by
  induction l with
  | nil => cases h1
  | cons x l ih =>
    rw [edgeL]
    rcases List.mem_cons.1 h1 with rfl | h1
    · rw [h2, hasN_cons]; simp
    · cases Region.binds .any x with
      | true => rw [hasN_cons, ih h1, Bool.or_true]
      | false => exact ih h1
def fms : List Foot → List FM
  | [] => []
  | f :: l => f.m :: fms l
theorem anyE_ok {f : Nat → Bool} {j : Nat} : ∀ (l : List Edge), anyE f j l = true → ∃ e ∈ l, Region.binds .any e = true ∧ (e.on = j ∨ f e.on = true)
  | [], h => by simp [anyE] at h
  | e :: l, h => by
    rw [anyE] at h
    have tl : anyE f j l = true → ∃ e' ∈ e :: l, Region.binds .any e' = true ∧ (e'.on = j ∨ f e'.on = true) := fun h =>
      let ⟨e', h1, h2⟩ := anyE_ok l h
      ⟨e', List.mem_cons_of_mem _ h1, h2⟩
    split at h
    · rename_i hb
      split at h
      · rename_i hj
        exact ⟨e, List.mem_cons_self, hb, .inl (Nat.eq_of_beq_eq_true hj)⟩
      · split at h
        · split at h
          · rename_i ht
            exact ⟨e, List.mem_cons_self, hb, .inr ht⟩
          · exact tl h
        · exact tl h
    · exact tl h
theorem trB_ok {ops : Array Oper} : ∀ (n i j : Nat), trB ops n i j = true → Tr ops i j
  | 0, _, _, h => by simp [trB] at h
  | n + 1, i, j, h => by
    rw [trB] at h
    cases ho : ops.toList[i]? with
    | none => rw [ho] at h; cases h
    | some o =>
      rw [ho] at h
      obtain ⟨e, h1, h2, h3⟩ := anyE_ok o.after.toList h
      have hd : direct ops i e.on = true := by
        unfold direct
        rw [ho]
        simp only []
        rw [onIn_edgeL]
        exact edgeL_has h1 h2
      rcases h3 with h3 | h3
      · exact h3 ▸ .one hd
      · exact .step hd (trB_ok n _ _ h3)
theorem chkM_ok {ops : Array Oper} {f : Foot} : ∀ {done : List Foot}, chkM ops f (fms done) = true → chkDone ops f done
  | [], _ => fun g hg => by cases hg
  | g :: l, h => by
    unfold chkM at h
    rw [fms, fmOK] at h
    have tl : fmOK ops f.i (afterM ops f.i) (maskN (wL f)) (maskN (aL f)) (fms l) = true → pairOK ops g f → chkDone ops f (g :: l) := fun h hp g' hg' => by
      rcases List.mem_cons.1 hg' with rfl | hg'
      · exact hp
      · exact chkM_ok (done := l) (f := f) (ops := ops) h g' hg'
    split at h
    · rename_i hb
      exact tl h (.inl (.one (direct_of hb)))
    · split at h
      · rename_i hb
        have hb := Nat.eq_of_beq_eq_true hb
        have hb : (Nat.land (maskN (wL f)) g.m.a) ||| (Nat.land (maskN (aL f)) g.m.w) = 0 := hb
        rw [Nat.or_eq_zero_iff] at hb
        exact tl h (.inr (indep_of hb.1 hb.2))
      · split at h
        · rename_i ht
          exact tl h (.inl (trB_ok 12 f.i g.m.i ht))
        · cases h

/-! ### what is looked at -/
def rdO : Operand → List Nat
  | .tmp t => [t]
  | _ => []
def rdsO : List Operand → List Nat
  | [] => []
  | x :: xs => appN (rdO x) (rdsO xs)
def grdS (ops : Array Oper) (o : Oper) : List Nat := match o.guard with
  | none => []
  | some (j, _) => match ops.toList[j]? with
    | some o' => (match o'.dst with
      | some t => [t]
      | none => [])
    | none => []

theorem Agree.of_left {α : Type} {l m : List Nat} {τ τ' : List (Nat × α)} (h : Agree (appN l m) τ τ') : Agree l τ τ' := fun t ht => h t (by rw [appN_eq, hasN_append, ht, Bool.true_or])
theorem Agree.of_right {α : Type} {l m : List Nat} {τ τ' : List (Nat × α)} (h : Agree (appN l m) τ τ') : Agree m τ τ' := fun t ht => h t (by rw [appN_eq, hasN_append, ht, Bool.or_true])
theorem ev_agree {τ τ' : List (Nat × A)} {x : Operand} (h : Agree (rdO x) τ τ') : ev τ' x = ev τ x := by
  cases x <;> simp only [ev]
  exact h _ (by simp [rdO, hasN_cons])
theorem evs_agree {τ τ' : List (Nat × A)} : ∀ {xs : List Operand}, Agree (rdsO xs) τ τ' → evs τ' xs = evs τ xs
  | [], _ => rfl
  | x :: xs, h => by rw [evs, evs, ev_agree h.of_left, evs_agree h.of_right]
theorem looks_agree {r r' : List (Nat × Option Obj)} : ∀ {l : List Nat}, Agree l r r' → looks r' l = looks r l
  | [], _ => rfl
  | n :: l, h => by
    rw [looks, looks, h n (by rw [hasN_cons]; simp), looks_agree (l := l) fun t ht => h t (by rw [hasN_cons, ht, Bool.or_true])]

def dsL : Option Tmp → List Nat
  | some d => [d]
  | none => []
def putL : Option Tmp → A → List (Nat × A)
  | some d, v => [(d, v)]
  | none, _ => []
def revA {α : Type} : List α → List α → List α
  | [], a => a
  | x :: l, a => revA l (x :: a)
theorem revA_eq {α : Type} (l : List α) : ∀ a, revA l a = l.reverse ++ a := by
  induction l with
  | nil => intro a; rfl
  | cons x l ih => intro a; rw [revA, ih]; simp
theorem addW_eq (w : List (Nat × Option Obj)) : ∀ r, addW r w = appT (revA w []) r := by
  induction w with
  | nil => intro r; rfl
  | cons x l ih => intro r; rw [addW, ih, appT_eq, appT_eq, revA_eq, revA_eq]; simp
def alN : Bool → Option Tmp → List Nat
  | true, some d => [d]
  | _, _ => []
/-- What is there no more. -/
def killL : List (Nat × Option Obj) → List Nat
  | [] => []
  | (_, some _) :: l => killL l
  | (n, none) :: l => n :: killL l
theorem killL_ok : ∀ {w : List (Nat × Option Obj)} {n : Nat}, look w n = some none → hasN (killL w) n = true
  | [], _, h => by cases h
  | (m, some ob) :: w, n, h => by
    rw [look_cons] at h
    split at h
    · cases h
    · exact killL_ok (w := w) h
  | (m, none) :: w, n, h => by
    rw [killL, hasN_cons]
    rw [look_cons] at h
    split at h
    · rename_i e; simp [e]
    · rw [killL_ok (w := w) h, Bool.or_true]
/-- Each is new, or was there. -/
def oldN (nm rl : List Nat) : List Nat → Bool
  | [] => true
  | n :: l => match hasN nm n with
    | true => oldN nm rl l
    | false => match hasN rl n with
      | true => oldN nm rl l
      | false => false
theorem oldN_ok {nm rl : List Nat} : ∀ {l : List Nat}, oldN nm rl l = true → ∀ n, hasN l n = true → hasN nm n = true ∨ hasN rl n = true
  | [], _, n, h => by cases h
  | m :: l, ho, n, h => by
    rw [hasN_cons, Bool.or_eq_true, decide_eq_true_eq] at h
    rw [oldN] at ho
    split at ho
    · rename_i e
      rcases h with rfl | h
      · exact .inl e
      · exact oldN_ok ho n h
    · split at ho
      · rename_i e
        rcases h with rfl | h
        · exact .inr e
        · exact oldN_ok ho n h
      · cases ho
def effOf (i : Nat) (rd : List Nat) (d : Option Tmp) (v : A) (rr rl : List Nat) (w : List (Nat × Option Obj)) (nm : List Nat) : Eff :=
  ⟨⟨i, rd, dsL d, rr, keys w, nm, rl, killL w⟩, putL d v, w⟩
theorem effOf_ok {i : Nat} {rd : List Nat} {d : Option Tmp} {v : A} {rr rl : List Nat} {w : List (Nat × Option Obj)} {nm : List Nat} (ho : oldN nm rl (keys w) = true) : (effOf i rd d v rr rl w nm).ok := by
  refine ⟨?_, rfl, fun n h => killL_ok h, oldN_ok ho⟩
  cases d <;> rfl
/-- Does it look into objects? -/
def needR : Op → Bool
  | .move _ | .assign _ | .pick .. | .alloc _ | .box .. | .build .. | .buildSlice .. | .nilCheck _ | .binOp .. | .unOp .. | .makeInterface .. | .makeFunc .. | .makeSlice .. | .fieldAddr .. | .field .. | .indexAddr .. | .index .. | .extract .. | .typeAssert .. => false
  | _ => true
theorem needR_ok {T : Tab} {op : Op} {vs : List A} {obs obs' : List Obj} {nm : Nat} (h : needR op = false) : primF T op vs obs nm = primF T op vs obs' nm := by
  cases op <;> first | rfl | cases h
def rrOf (op : Op) (l : List Nat) : List Nat := match needR op with
  | true => l
  | false => []

/-- What is said to be known of the guards is so. -/
def GD (ops : Array Oper) (g : List (Nat × Nat × Bool)) (τ : List (Nat × A)) : Prop :=
  ∀ j t b, (j, t, b) ∈ g → ∃ o, ops.toList[j]? = some o ∧ o.dst = some t ∧ look τ t = some (.bool b)

section
variable {Γ : Ctx} {P : Program} {Q : Act → World → Prop} {ops : Array Oper} {k' : List Item}

theorem W.dropG {g : List (Nat × Nat × Bool)} {l : List Nat} {τ : List (Nat × A)} {r : List (Nat × Option Obj)} {us : List Nat} (hG : GD ops g τ) (h : W Γ P Q g (.inRegion ops l :: k') τ r us) : W Γ P Q [] (.inRegion ops l :: k') τ r us :=
  ⟨fun a w I ρ hR hS _ => h.ok a w I ρ hR hS fun j t b hm => hG j t b hm⟩
theorem W.anyG {g : List (Nat × Nat × Bool)} {k : List Item} {τ : List (Nat × A)} {r : List (Nat × Option Obj)} {us : List Nat} (h : W Γ P Q [] k τ r us) : W Γ P Q g k τ r us :=
  ⟨fun a w I ρ hR hS _ => h.ok a w I ρ hR hS .nil⟩

/-- The part of what is known of the guards that an operation asks for. -/
def gFor (o : Oper) (g : List (Nat × Nat × Bool)) : List (Nat × Nat × Bool) := match o.guard with
  | none => []
  | some (j, _) => g.filter fun x => Nat.beq x.1 j
theorem gAt_filter {g : List (Nat × Nat × Bool)} {j : Nat} : gAt (g.filter fun x => Nat.beq x.1 j) j = gAt g j := by
  induction g with
  | nil => rfl
  | cons x g ih =>
    obtain ⟨i, t, b⟩ := x
    rw [gAt]
    cases e : Nat.beq i j with
    | true => rw [List.filter_cons_of_pos (by simpa using e), gAt, e]; rfl
    | false => rw [List.filter_cons_of_neg (by simp [e]), ih]; rfl
theorem guardOf_gFor (o : Oper) (g : List (Nat × Nat × Bool)) : guardOf o (gFor o g) = guardOf o g := by
  unfold guardOf gFor
  cases o.guard with
  | none => rfl
  | some q => obtain ⟨j, want⟩ := q; simp only [gAt_filter]
theorem gFor_GD {o : Oper} {g : List (Nat × Nat × Bool)} {τ τ' : List (Nat × A)} (hG : GD ops g τ) (h : Agree (grdS ops o) τ τ') : GD ops (gFor o g) τ' := fun j t b hm => by
  unfold gFor at hm
  cases hg : o.guard with
  | none => rw [hg] at hm; cases hm
  | some q =>
    obtain ⟨j', want⟩ := q
    rw [hg] at hm
    simp only [List.mem_filter] at hm
    obtain ⟨hm, hj⟩ := hm
    have := Nat.eq_of_beq_eq_true hj
    subst this
    obtain ⟨o', h1, h2, h3⟩ := hG _ t b hm
    refine ⟨o', h1, h2, ?_⟩
    rw [h t ?_, h3]
    unfold grdS
    rw [hg]
    simp only [h1, h2]
    rw [hasN_cons]; simp
theorem dstOk_gFor {nt : Nat} {g : List (Nat × Nat × Bool)} {o : Oper} {d : Option Tmp} (h : dstOk nt g d = true) : dstOk nt (gFor o g) d = true := by
  cases d with
  | none => rfl
  | some d =>
    have h' := dstOk_some h
    simp only [dstOk]
    have : Nat.blt d nt = true := by
      simp only [dstOk] at h
      cases e : Nat.blt d nt with
      | false => rw [e] at h; cases h
      | true => rfl
    rw [this, cond_true]
    have key : ∀ g', (∀ x ∈ g', x ∈ g) → offG d g' = true := by
      intro g' hs
      induction g' with
      | nil => rfl
      | cons x g' ih =>
        obtain ⟨i, t, b⟩ := x
        rw [offG, ih fun x hx => hs x (List.mem_cons_of_mem _ hx)]
        have := offG_mem h'.2 (hs _ List.mem_cons_self)
        rw [nbeq_ne this]; rfl
    exact key _ fun x hx => by
      unfold gFor at hx
      split at hx
      · cases hx
      · exact (List.mem_filter.1 hx).1

/-- In a region whose order is drawn: what is left, in the order of the text. -/
structure D (Γ : Ctx) (P : Program) (Q : Act → World → Prop) (ops : Array Oper) (k' : List Item) (g : List (Nat × Nat × Bool)) (done : List FM) (l : List Nat) (τ : List (Nat × A)) (r : List (Nat × Option Obj)) (us : List Nat) : Prop where
  ok : ∀ fs, done = fms fs → GD ops g τ → Run Γ P Q ops k' fs l ⟨τ, r, us⟩

theorem D.fin {g : List (Nat × Nat × Bool)} {done : List FM} {τ : List (Nat × A)} {r : List (Nat × Option Obj)} {us : List Nat} (h : W Γ P Q [] k' τ r us) : D Γ P Q ops k' g done [] τ r us :=
  ⟨fun fs _ _ => .nil ⟨fun a w I ρ hR hS _ => WK.step (fun b cs => step_region_end) (h.ok a w I ρ hR hS .nil)⟩⟩

theorem GD.put {g : List (Nat × Nat × Bool)} {τ : List (Nat × A)} (h : GD ops g τ) {nt : Nat} {d : Option Tmp} (hd : dstOk nt g d = true) {v : A} : GD ops g (putO d v τ) := fun j t b hm => by
  obtain ⟨o, h1, h2, h3⟩ := h j t b hm
  refine ⟨o, h1, h2, ?_⟩
  cases d with
  | none => exact h3
  | some d => rw [putO, look_cons, if_neg (offG_mem (dstOk_some hd).2 hm).symm]; exact h3
theorem appT_putL (d : Option Tmp) (v : A) (τ : List (Nat × A)) : appT (putL d v) τ = putO d v τ := by cases d <;> rfl
theorem looks_alive {r : List (Nat × Option Obj)} : ∀ {l : List Nat}, Alive r l → ∃ obs, looks r l = some obs
  | [], _ => ⟨[], rfl⟩
  | n :: l, h => by
    obtain ⟨ob, h1⟩ := h n (by rw [hasN_cons]; simp)
    obtain ⟨obs, h2⟩ := looks_alive (l := l) fun m hm => h m (by rw [hasN_cons, hm, Bool.or_true])
    exact ⟨ob :: obs, by rw [looks, h1]; simp only []; rw [h2]⟩
theorem alive_looks {r : List (Nat × Option Obj)} : ∀ {l : List Nat} {obs : List Obj}, looks r l = some obs → Alive r l
  | [], _, _ => fun n h => by cases h
  | m :: l, obs, h => by
    obtain ⟨ob, obs', rfl, h1, h2⟩ := looks_cons h
    intro n hn
    rw [hasN_cons, Bool.or_eq_true, decide_eq_true_eq] at hn
    rcases hn with rfl | hn
    · exact ⟨ob, h1⟩
    · exact alive_looks h2 n hn
/-- One operation. -/
theorem D.op {T : Tab} (hT : TabOK P T.l) {nt : Nat} (hnt : nt = Γ.n) {i : Nat} {l : List Nat} {o : Oper} (ho : ops.toList[i]? = some o) {g : List (Nat × Nat × Bool)} (hd : dstOk nt g o.dst = true) (hg : guardOf o g = some true)
    {τ : List (Nat × A)} {r : List (Nat × Option Obj)} {us : List Nat} {vs : List A} {obs : List Obj} {out : Out} (hvs : evs τ (opnds o.op) = some vs) (hobs : looks r (idsOf vs) = some obs) (h1 : primF T o.op vs obs (nameOf o.dst) = some out) (hc : allP out.c)
    (hal : out.al = true → ∃ d, o.dst = some d) (hfr : freshL us (alN out.al o.dst) = true) {done : List FM} (hold : oldN (alN out.al o.dst) (idsOf vs) (keys (revA out.w [])) = true)
    (hchk : chkM ops (effOf i (appN (rdsO (opnds o.op)) (grdS ops o)) o.dst out.v (rrOf o.op (idsOf vs)) (idsOf vs) (revA out.w []) (alN out.al o.dst)).f done = true)
    (h : D Γ P Q ops k' g ((effOf i (appN (rdsO (opnds o.op)) (grdS ops o)) o.dst out.v (rrOf o.op (idsOf vs)) (idsOf vs) (revA out.w []) (alN out.al o.dst)).f.m :: done) l (putO o.dst out.v τ) (addW r out.w) (appN (alN out.al o.dst) us)) :
    D Γ P Q ops k' g done (i :: l) τ r us := by
  refine ⟨fun fs hfs hG => ?_⟩
  subst hfs
  have hn := h.ok (_ :: fs) rfl (hG.put hd)
  refine .cons (effOf i (appN (rdsO (opnds o.op)) (grdS ops o)) o.dst out.v (rrOf o.op (idsOf vs)) (idsOf vs) (revA out.w []) (alN out.al o.dst)) rfl (effOf_ok hold) ?_ (alive_looks hobs) hfr (chkM_ok hchk) ?_
  · intro σ1 a1 a2 aA f1 l W1
    have ho' : ops[i]? = some o := by simpa using ho
    have e1 : evs σ1.τ (opnds o.op) = some vs := (evs_agree a1.of_left).trans hvs
    obtain ⟨obs', e2⟩ := looks_alive (l := idsOf vs) aA
    have h1' : primF T o.op vs obs' (nameOf o.dst) = some out := by
      cases hn : needR o.op with
      | true =>
        have a2 : Agree (rrOf o.op (idsOf vs)) r σ1.r := a2
        unfold rrOf at a2
        rw [hn] at a2
        rw [looks_agree (l := idsOf vs) a2, hobs] at e2
        cases e2
        exact h1
      | false => rw [needR_ok hn (obs' := obs)]; exact h1
    have hstep : step1 T o σ1.τ σ1.r = some out := by
      unfold step1
      rw [e1]; simp only []
      rw [e2]; exact h1'
    refine W.dropG (gFor_GD (o := o) hG a1.of_right) (W.op hT hnt ho' (dstOk_gFor hd) ((guardOf_gFor o g).trans hg) hstep hc (fun ha => ?_) (τ' := (σ1.add (effOf i (appN (rdsO (opnds o.op)) (grdS ops o)) o.dst out.v (rrOf o.op (idsOf vs)) (idsOf vs) (revA out.w []) (alN out.al o.dst))).τ) (r' := (σ1.add (effOf i (appN (rdsO (opnds o.op)) (grdS ops o)) o.dst out.v (rrOf o.op (idsOf vs)) (idsOf vs) (revA out.w []) (alN out.al o.dst))).r) (us' := (σ1.add (effOf i (appN (rdsO (opnds o.op)) (grdS ops o)) o.dst out.v (rrOf o.op (idsOf vs)) (idsOf vs) (revA out.w []) (alN out.al o.dst))).us) ?_ ?_ ?_ (W.anyG W1))
    · obtain ⟨d, hd'⟩ := hal ha
      refine ⟨d, hd', ?_⟩
      have : alN out.al o.dst = [d] := by rw [ha, hd']; rfl
      rw [show (effOf i (appN (rdsO (opnds o.op)) (grdS ops o)) o.dst out.v (rrOf o.op (idsOf vs)) (idsOf vs) (revA out.w []) (alN out.al o.dst)).f.nm = [d] from this] at f1
      exact freshL_ok f1 (by rw [hasN_cons]; simp)
    · show appT (putL o.dst _) _ = _
      cases o.dst <;> rfl
    · exact (addW_eq _ _).symm
    · show appN (alN out.al o.dst) σ1.us = _
      cases e : out.al with
      | false => cases o.dst <;> rfl
      | true =>
        obtain ⟨d, hd'⟩ := hal e
        rw [hd']; rfl
  · have : (St.add ⟨τ, r, us⟩ (effOf i (appN (rdsO (opnds o.op)) (grdS ops o)) o.dst out.v (rrOf o.op (idsOf vs)) (idsOf vs) (revA out.w []) (alN out.al o.dst))) = ⟨putO o.dst out.v τ, addW r out.w, appN (alN out.al o.dst) us⟩ := by
      unfold St.add
      rw [addW_eq, ← appT_putL]; rfl
    rw [this]
    exact hn

/-- One that is passed by. -/
theorem D.skip {nt : Nat} (hnt : nt = Γ.n) {i : Nat} {l : List Nat} {o : Oper} (ho : ops.toList[i]? = some o) {g : List (Nat × Nat × Bool)} (hd : dstOk nt g o.dst = true) (hg : guardOf o g = some false)
    {τ : List (Nat × A)} {r : List (Nat × Option Obj)} {us : List Nat} {done : List FM}
    (hchk : chkM ops (effOf i (grdS ops o) o.dst (.tup []) [] [] [] []).f done = true)
    (h : D Γ P Q ops k' g ((effOf i (grdS ops o) o.dst (.tup []) [] [] [] []).f.m :: done) l (putO o.dst (.tup []) τ) r us) :
    D Γ P Q ops k' g done (i :: l) τ r us := by
  refine ⟨fun fs hfs hG => ?_⟩
  subst hfs
  have hn := h.ok (_ :: fs) rfl (hG.put hd)
  refine .cons (effOf i (grdS ops o) o.dst (.tup []) [] [] [] []) rfl (effOf_ok rfl) ?_ (fun n h => by cases h) rfl (chkM_ok hchk) ?_
  · intro σ1 a1 a2 aA f1 l W1
    have ho' : ops[i]? = some o := by simpa using ho
    refine W.dropG (gFor_GD (o := o) hG a1) (W.skip hnt ho' (dstOk_gFor hd) ((guardOf_gFor o g).trans hg) (τ' := (σ1.add (effOf i (grdS ops o) o.dst (.tup []) [] [] [] [])).τ) ?_ (W.anyG W1))
    show appT (putL o.dst _) _ = _
    cases o.dst <;> rfl
  · have : (St.add ⟨τ, r, us⟩ (effOf i (grdS ops o) o.dst (.tup []) [] [] [] [])) = ⟨putO o.dst (.tup []) τ, r, us⟩ := by
      unfold St.add
      rw [← appT_putL]; rfl
    rw [this]
    exact hn

theorem undefG_agree {ops : Array Oper} {o : Oper} {τ τ' : List (Nat × A)} (h : Agree (grdS ops o) τ τ') : undefG ops o τ' = undefG ops o τ := by
  unfold undefG
  unfold grdS at h
  cases hg : o.guard with
  | none => rfl
  | some q =>
    obtain ⟨j, want⟩ := q
    rw [hg] at h
    simp only at h ⊢
    cases ho : ops.toList[j]? with
    | none => rfl
    | some o' =>
      rw [ho] at h
      simp only at h ⊢
      cases ht : o'.dst with
      | none => rfl
      | some t =>
        rw [ht] at h
        simp only at h ⊢
        rw [h t (by rw [hasN_cons]; simp)]
/-- One that is passed by, as what it hangs on was. -/
theorem D.skipU {nt : Nat} (hnt : nt = Γ.n) {i : Nat} {l : List Nat} {o : Oper} (ho : ops.toList[i]? = some o) {g : List (Nat × Nat × Bool)} (hd : dstOk nt g o.dst = true)
    {τ : List (Nat × A)} (hg : undefG ops o τ = true) {r : List (Nat × Option Obj)} {us : List Nat} {done : List FM}
    (hchk : chkM ops (effOf i (grdS ops o) o.dst (.tup []) [] [] [] []).f done = true)
    (h : D Γ P Q ops k' g ((effOf i (grdS ops o) o.dst (.tup []) [] [] [] []).f.m :: done) l (putO o.dst (.tup []) τ) r us) :
    D Γ P Q ops k' g done (i :: l) τ r us := by
  refine ⟨fun fs hfs hG => ?_⟩
  subst hfs
  have hn := h.ok (_ :: fs) rfl (hG.put hd)
  refine .cons (effOf i (grdS ops o) o.dst (.tup []) [] [] [] []) rfl (effOf_ok rfl) ?_ (fun n h => by cases h) rfl (chkM_ok hchk) ?_
  · intro σ1 a1 a2 aA f1 l W1
    have ho' : ops[i]? = some o := by simpa using ho
    refine W.dropG (gFor_GD (o := o) hG a1) (W.skipU hnt ho' (dstOk_gFor hd) ((undefG_agree a1).trans hg) (τ' := (σ1.add (effOf i (grdS ops o) o.dst (.tup []) [] [] [] [])).τ) ?_ (W.anyG W1))
    show appT (putL o.dst _) _ = _
    cases o.dst <;> rfl
  · have : (St.add ⟨τ, r, us⟩ (effOf i (grdS ops o) o.dst (.tup []) [] [] [] [])) = ⟨putO o.dst (.tup []) τ, r, us⟩ := by
      unfold St.add
      rw [← appT_putL]; rfl
    rw [this]
    exact hn

/-- Where it parts. -/
def branchD (ops : Array Oper) (g : List (Nat × Nat × Bool)) (τ : List (Nat × A)) : List Nat → Option (Bool × Nat × Nat)
  | i :: _ => match ops.toList[i]? with
    | some o => (match o.guard with
      | some (j, _) => (match ops.toList[j]? with
        | some o' => (match o'.dst with
          | some t => (match look τ t with
            | some (.bool b) => (match gAt g j with
              | none => some (b, j, t)
              | some _ => none)
            | _ => none)
          | none => none)
        | none => none)
      | none => none)
    | none => none
  | [] => none
theorem D.branch {g : List (Nat × Nat × Bool)} {l : List Nat} {τ : List (Nat × A)} {r : List (Nat × Option Obj)} {us : List Nat} {done : List FM} {b : Bool} {j t : Nat}
    (he : branchD ops g τ l = some (b, j, t)) (h1 : b = true → D Γ P Q ops k' ((j, t, true) :: g) done l ((t, .bool true) :: τ) r us)
    (h2 : b = false → D Γ P Q ops k' ((j, t, false) :: g) done l ((t, .bool false) :: τ) r us) : D Γ P Q ops k' g done l τ r us := by
  refine ⟨fun fs hfs hG => ?_⟩
  have key : ∃ o', ops.toList[j]? = some o' ∧ o'.dst = some t ∧ look τ t = some (.bool b) := by
    unfold branchD at he
    split at he <;> (try (cases he; done))
    split at he <;> (try (cases he; done))
    split at he <;> (try (cases he; done))
    split at he <;> (try (cases he; done))
    rename_i o' ho'
    split at he <;> (try (cases he; done))
    rename_i t' ht'
    split at he <;> (try (cases he; done))
    rename_i b' hb'
    split at he <;> (try (cases he; done))
    simp only [Option.some.injEq, Prod.mk.injEq] at he
    obtain ⟨rfl, rfl, rfl⟩ := he
    exact ⟨o', ho', ht', hb'⟩
  obtain ⟨o', q1, q2, q3⟩ := key
  have same : ∀ s, look ((t, A.bool b) :: τ) s = look τ s := fun s => by
    rw [look_cons]
    by_cases e : t = s
    · subst e; rw [if_pos rfl, q3]
    · rw [if_neg e]
  have hG' : GD ops ((j, t, b) :: g) ((t, .bool b) :: τ) := fun j2 t2 b2 hm => by
    rcases List.mem_cons.1 hm with hm | hm
    · cases hm
      exact ⟨o', q1, q2, by rw [same]; exact q3⟩
    · obtain ⟨o2, p1, p2, p3⟩ := hG j2 t2 b2 hm
      exact ⟨o2, p1, p2, by rw [same]; exact p3⟩
  have : Run Γ P Q ops k' fs l ⟨(t, .bool b) :: τ, r, us⟩ := by
    cases b with
    | true => exact (h1 rfl).ok fs hfs hG'
    | false => exact (h2 rfl).ok fs hfs hG'
  exact this.eqv ⟨fun s => same s, fun _ => rfl, fun _ => rfl⟩
end

/-- The state, laid out. -/
def putK {α : Sort _} (d : Option Tmp) (v : A) (τ : List (Nat × A)) (k : List (Nat × A) → α) : α := match d with
  | some d => k ((d, v) :: τ)
  | none => k τ
def addK {α : Sort _} : List (Nat × Option Obj) → List (Nat × Option Obj) → (List (Nat × Option Obj) → α) → α
  | [], r, k => k r
  | x :: w, r, k => addK w (x :: r) k
def namK {α : Sort _} (al : Bool) (d : Option Tmp) (us : List Nat) (k : List Nat → α) : α := match al with
  | true => (match d with
    | some d => k (d :: us)
    | none => k us)
  | false => k us
theorem putK_eq {α : Sort _} (d : Option Tmp) (v : A) (τ : List (Nat × A)) (k : List (Nat × A) → α) : putK d v τ k = k (putO d v τ) := by cases d <;> rfl
theorem addK_eq {α : Sort _} (k : List (Nat × Option Obj) → α) : ∀ (w r : List (Nat × Option Obj)), addK w r k = k (addW r w)
  | [], _ => rfl
  | _ :: w, r => addK_eq k w _
theorem namK_eq {α : Sort _} (al : Bool) (d : Option Tmp) (us : List Nat) (k : List Nat → α) : namK al d us k = k (appN (alN al d) us) := by
  cases al <;> cases d <;> rfl
def renK {α : Sort _} (f : Nat → Nat) : List (Nat × Option Obj) → List (Nat × Option Obj) → (List (Nat × Option Obj) → α) → α
  | [], b, k => k b
  | (n, some ob) :: l, b, k => renK f l b fun t => k ((f n, some (ob.ren f)) :: t)
  | (n, none) :: l, b, k => renK f l b fun t => k ((f n, none) :: t)
theorem renK_eq {α : Sort _} (f : Nat → Nat) (b : List (Nat × Option Obj)) : ∀ (l : List (Nat × Option Obj)) (k : List (Nat × Option Obj) → α), renK f l b k = k (appR (renR f l) b)
  | [], _ => rfl
  | (n, some ob) :: l, k => renK_eq f b l _
  | (n, none) :: l, k => renK_eq f b l _
/-! ### calls -/
theorem liveN_agree {r r' : List (Nat × Option Obj)} : ∀ {l : List Nat}, Agree l r r' → liveN r' l = liveN r l
  | [], _ => rfl
  | n :: l, h => by
    rw [liveN, liveN, h n (by rw [hasN_cons]; simp), liveN_agree (l := l) fun t ht => h t (by rw [hasN_cons, ht, Bool.or_true])]
theorem lent_agree {π : List (Nat × Nat)} {r r' : List (Nat × Option Obj)} {ld : List Nat} (ha : Agree ld r r') {v x : A} (h : lent π r ld v x) : lent π r' ld v x := by
  unfold lent at h ⊢
  split at h
  · exact ⟨h.1, h.2.1, h.2.2.1, by rw [ha _ h.1]; exact h.2.2.2⟩
  · exact ⟨h.1, h.2.1, h.2.2.1, by rw [ha _ h.1]; exact h.2.2.2⟩
  · exact ⟨h.1, h.2.1, by rw [ha _ h.1]; exact h.2.2⟩
  · exact h
theorem lentL_agree {π : List (Nat × Nat)} {r r' : List (Nat × Option Obj)} {ld : List Nat} (ha : Agree ld r r') : ∀ {vs xs : List A}, lentL π r ld vs xs → lentL π r' ld vs xs
  | [], [], h => h
  | v :: vs, x :: xs, h => ⟨lent_agree ha h.1, lentL_agree ha h.2⟩
  | [], _ :: _, h => h.elim
  | _ :: _, [], h => h.elim
theorem subR_agree {π : List (Nat × Nat)} {r r' : List (Nat × Option Obj)} (ha : Agree (vals π) r r') : ∀ {rc : List (Nat × Option Obj)}, subR π r rc → subR π r' rc
  | [], _ => trivial
  | (m, none) :: l, h => ⟨trivial, subR_agree ha h.2⟩
  | (m, some ob) :: l, h => by
    refine ⟨?_, subR_agree ha h.2⟩
    have h1 := h.1
    simp only at h1 ⊢
    cases hn : look π m with
    | none => rw [hn] at h1; exact h1
    | some n =>
      rw [hn] at h1
      simp only [] at h1 ⊢
      rw [ha n (look_vals hn)]
      exact h1

theorem callee_agree {τ τ' : List (Nat × A)} {o : Oper} (h : Agree (rdsO (opnds o.op)) τ τ') : callee τ' o = callee τ o := by
  unfold callee
  cases ho : o.op <;> try rfl
  rename_i c
  rw [ho] at h
  simp only []
  cases hc : c.callee <;> try rfl
  rename_i f
  simp only [opnds, hc] at h
  have h' : Agree (appN (rdO f) (rdsO c.args.toList)) τ τ' := h
  simp only []
  rw [ev_agree h'.of_left, evs_agree h'.of_right]

section
variable {Γ : Ctx} {P : Program} {Q : Act → World → Prop} {ops : Array Oper} {k' : List Item}

/-- What a call does. -/
def callEff (ops : Array Oper) (i : Nat) (o : Oper) (v : A) (ld : List Nat) (π : List (Nat × Nat)) (w : List (Nat × Option Obj)) (ns : List Nat) : Eff :=
  effOf i (appN (rdsO (opnds o.op)) (grdS ops o)) o.dst v (appN ld (vals π)) (appN ld (vals π)) w ns

/-- A call whose contract tells the result outright. -/
theorem D.callF0 {done : List FM} {f : FuncId} {xs : List A} {rc : List (Nat × Option Obj)} {new : List Nat} {y0 : A} {r0 : List (Nat × Option Obj)} (hS : Does P f xs rc new (Is y0 r0)) (hf : callOK P f = true)
    {g : List (Nat × Nat × Bool)} {i : Nat} {l : List Nat} {τ : List (Nat × A)} {r : List (Nat × Option Obj)} {us : List Nat} {o : Oper} {vs : List A} (ho : ops.toList[i]? = some o) (hg : guardOf o g = some true)
    (hcal : callee τ o = some (f, vs)) (π : List (Nat × Nat)) (ld ns : List Nat) (hk : keys π = keys rc) (hchk : callChk us r π ld new ns rc = true) {nt : Nat} (hnt : nt = Γ.n) (hdst : dstOk nt g o.dst = true)
    (hargs : lentL π r ld vs xs) (hsub : subR π r rc) (hfl : ld = [] ∨ (y0.flat ∧ flatR r0))
    (hold : oldN ns (appN ld (vals π)) (keys (appR (renR (callRen (zipN new ns) π) r0) (gone (vals π) []))) = true)
    (hchk2 : chkM ops (callEff ops i o (y0.ren (callRen (zipN new ns) π)) ld π (appR (renR (callRen (zipN new ns) π) r0) (gone (vals π) [])) ns).f done = true)
    (h : D Γ P Q ops k' g ((callEff ops i o (y0.ren (callRen (zipN new ns) π)) ld π (appR (renR (callRen (zipN new ns) π) r0) (gone (vals π) [])) ns).f.m :: done) l (putO o.dst (y0.ren (callRen (zipN new ns) π)) τ) (appR (renR (callRen (zipN new ns) π) r0) (gone (vals π) r)) (appN ns us)) :
    D Γ P Q ops k' g done (i :: l) τ r us := by
  refine ⟨fun fs hfs hG => ?_⟩
  subst hfs
  have hn := h.ok (_ :: fs) rfl (hG.put hdst)
  have hchk' := hchk
  unfold callChk at hchk'
  obtain ⟨c1, hchk'⟩ := andb hchk'
  obtain ⟨c2, hchk'⟩ := andb hchk'
  obtain ⟨c3, hchk'⟩ := andb hchk'
  obtain ⟨c4, hchk'⟩ := andb hchk'
  obtain ⟨c5, hchk'⟩ := andb hchk'
  obtain ⟨c6, c7⟩ := andb hchk'
  have gone_app : ∀ (l : List Nat) (r : List (Nat × Option Obj)), gone l r = gone l [] ++ r := fun l r => by
    induction l with
    | nil => rfl
    | cons n l ih => rw [gone, gone, ih]; rfl
  refine .cons (callEff ops i o (y0.ren (callRen (zipN new ns) π)) ld π (appR (renR (callRen (zipN new ns) π) r0) (gone (vals π) [])) ns) rfl (effOf_ok hold) ?_ (fun n hn => ?_) c6 (chkM_ok hchk2) ?_
  · intro σ1 a1 a2 aA f1 l W1
    refine W.dropG (gFor_GD (o := o) hG a1.of_right) (W.callF hS hf ho ((guardOf_gFor o g).trans hg) ((callee_agree a1.of_left).trans hcal) π ld ns hk ?_ hnt (dstOk_gFor hdst) (lentL_agree a2.of_left hargs) (subR_agree a2.of_right hsub) hfl (W.anyG ?_))
    · unfold callChk
      rw [liveN_agree a2.of_left, liveN_agree a2.of_right, c1, c2, c3, c4, c5, c7]
      rw [show freshL σ1.us ns = true from f1]; rfl
    · have q1 : (σ1.add (callEff ops i o (y0.ren (callRen (zipN new ns) π)) ld π (appR (renR (callRen (zipN new ns) π) r0) (gone (vals π) [])) ns)).τ = putO o.dst (y0.ren (callRen (zipN new ns) π)) σ1.τ := appT_putL _ _ _
      have q2 : (σ1.add (callEff ops i o (y0.ren (callRen (zipN new ns) π)) ld π (appR (renR (callRen (zipN new ns) π) r0) (gone (vals π) [])) ns)).r = appR (renR (callRen (zipN new ns) π) r0) (gone (vals π) σ1.r) := by
        show appT (appR _ (gone (vals π) [])) σ1.r = _
        rw [appT_eq, appR_eq, appR_eq, gone_app (vals π) σ1.r]; simp
      have q3 : (σ1.add (callEff ops i o (y0.ren (callRen (zipN new ns) π)) ld π (appR (renR (callRen (zipN new ns) π) r0) (gone (vals π) [])) ns)).us = appN ns σ1.us := rfl
      rw [← q1, ← q2, ← q3]
      exact W1
  · have hn : hasN (appN ld (vals π)) n = true := hn
    rw [has_app, Bool.or_eq_true] at hn
    rcases hn with hn | hn
    · exact liveN_ok c1 hn
    · exact liveN_ok c3 hn
  · have : (St.add ⟨τ, r, us⟩ (callEff ops i o (y0.ren (callRen (zipN new ns) π)) ld π (appR (renR (callRen (zipN new ns) π) r0) (gone (vals π) [])) ns)) = ⟨putO o.dst (y0.ren (callRen (zipN new ns) π)) τ, appR (renR (callRen (zipN new ns) π) r0) (gone (vals π) r), appN ns us⟩ := by
      unfold St.add
      rw [show appT (callEff ops i o (y0.ren (callRen (zipN new ns) π)) ld π (appR (renR (callRen (zipN new ns) π) r0) (gone (vals π) [])) ns).τ τ = putO o.dst (y0.ren (callRen (zipN new ns) π)) τ from appT_putL _ _ _]
      rw [show appT (callEff ops i o (y0.ren (callRen (zipN new ns) π)) ld π (appR (renR (callRen (zipN new ns) π) r0) (gone (vals π) [])) ns).r r = appR (renR (callRen (zipN new ns) π) r0) (gone (vals π) r) by
        show appT (appR _ (gone (vals π) [])) r = _
        rw [appT_eq, appR_eq, appR_eq, gone_app (vals π) r]; simp]
      rfl
    rw [this]
    exact hn
end

section
variable {Γ : Ctx} {P : Program} {Q : Act → World → Prop} {ops : Array Oper} {k' : List Item}
theorem chkK_eq {α : Sort _} {ops : Array Oper} {i : Nat} {f : Foot} (hf : f.i = i) {o : Oper} (ho : ops.toList[i]? = some o) (l : List FM) (yes : FM → α) (no : α) :
    chkK ops i f l yes no = match chkM ops f l with
      | true => yes f.m
      | false => no := by
  unfold chkK chkM afterM
  simp only [maskK_eq, ho, hf, maskN, Foot.m]
/-- A call whose contract tells the result outright. -/
theorem D.callF {done : List FM} {f : FuncId} {xs : List A} {rc : List (Nat × Option Obj)} {new : List Nat} {y0 : A} {r0 : List (Nat × Option Obj)} (hS : Does P f xs rc new (Is y0 r0)) (hf : callOK P f = true)
    {g : List (Nat × Nat × Bool)} {i : Nat} {l : List Nat} {τ : List (Nat × A)} {r : List (Nat × Option Obj)} {us : List Nat} {o : Oper} {vs : List A} (ho : ops.toList[i]? = some o) (hg : guardOf o g = some true)
    (hcal : callee τ o = some (f, vs)) (π : List (Nat × Nat)) (ld ns : List Nat) (hk : keys π = keys rc) (hchk : callChk us r π ld new ns rc = true) {nt : Nat} (hnt : nt = Γ.n) (hdst : dstOk nt g o.dst = true)
    (hargs : lentL π r ld vs xs) (hsub : subR π r rc) (hfl : ld = [] ∨ (y0.flat ∧ flatR r0)) (hold : oldN ns (appN ld (vals π)) (keys (appR (renR (callRen (zipN new ns) π) r0) (gone (vals π) []))) = true)
    (h : chkK ops i (callEff ops i o (y0.ren (callRen (zipN new ns) π)) ld π (appR (renR (callRen (zipN new ns) π) r0) (gone (vals π) [])) ns).f done
      (fun m => putK o.dst (y0.ren (callRen (zipN new ns) π)) τ fun τ' => renK (callRen (zipN new ns) π) r0 (gone (vals π) r) fun r' => D Γ P Q ops k' g (m :: done) l τ' r' (appN ns us)) False) :
    D Γ P Q ops k' g done (i :: l) τ r us := by
  rw [chkK_eq (by rfl) ho] at h
  split at h
  · rename_i hc
    rw [putK_eq, renK_eq] at h
    exact D.callF0 hS hf ho hg hcal π ld ns hk hchk hnt hdst hargs hsub hfl hold hc h
  · exact h.elim
end

/-! ### the executor -/
inductive ResD where
  | fin (c : List Prop) (τ : List (Nat × A)) (r : List (Nat × Option Obj)) (us : List Nat)
  | at_ (c : List Prop) (g : List (Nat × Nat × Bool)) (done : List FM) (l : List Nat) (τ : List (Nat × A)) (r : List (Nat × Option Obj)) (us : List Nat)
def FinD (Γ : Ctx) (P : Program) (Q : Act → World → Prop) (ops : Array Oper) (k' : List Item) : ResD → Prop
  | .fin c τ r us => allP c ∧ W Γ P Q [] k' τ r us
  | .at_ c g done l τ r us => allP c ∧ D Γ P Q ops k' g done l τ r us
def nameK {α : Sort _} (d : Option Tmp) (k : Nat → α) : α := match d with
  | some d => k d
  | none => k 0
theorem nameK_eq {α : Sort _} (d : Option Tmp) (k : Nat → α) : nameK d k = k (nameOf d) := by cases d <;> rfl
def isCall : Op → Bool
  | .call c => (match c.callee with | .builtin _ => false | _ => true)
  | _ => false
def runD (T : Tab) (nt : Nat) (ops : Array Oper) : Nat → List (Nat × Nat × Bool) → List FM → List Nat → List (Nat × A) → List (Nat × Option Obj) → List Nat → List Prop → ResD
  | 0, g, done, l, τ, r, us, c => .at_ c g done l τ r us
  | n + 1, g, done, l, τ, r, us, c => match l with
    | [] => .fin c τ r us
    | i :: l' => match ops.toList[i]? with
      | none => .at_ c g done (i :: l') τ r us
      | some o => match dstOk nt g o.dst with
        | false => .at_ c g done (i :: l') τ r us
        | true => match guardOf o g with
          | none => (match undefG ops o τ with
            | true => chkK ops i (effOf i (grdS ops o) o.dst (.tup []) [] [] [] []).f done (fun m => putK o.dst (.tup []) τ fun τ' => runD T nt ops n g (m :: done) l' τ' r us c) (.at_ c g done (i :: l') τ r us)
            | false => .at_ c g done (i :: l') τ r us)
          | some false => chkK ops i (effOf i (grdS ops o) o.dst (.tup []) [] [] [] []).f done (fun m => putK o.dst (.tup []) τ fun τ' => runD T nt ops n g (m :: done) l' τ' r us c) (.at_ c g done (i :: l') τ r us)
          | some true => match isCall o.op with
            | true => .at_ c g done (i :: l') τ r us
            | false => match evs τ (opnds o.op) with
              | none => .at_ c g done (i :: l') τ r us
              | some vs => match looks r (idsOf vs) with
                | none => .at_ c g done (i :: l') τ r us
                | some obs => match nameK o.dst (primF T o.op vs obs) with
                  | none => .at_ c g done (i :: l') τ r us
                  | some ⟨c', v, w, al⟩ => match alOk us al o.dst with
                    | false => .at_ c g done (i :: l') τ r us
                    | true => match oldN (alN al o.dst) (idsOf vs) (keys (revA w [])) with
                      | false => .at_ c g done (i :: l') τ r us
                      | true => chkK ops i (effOf i (appN (rdsO (opnds o.op)) (grdS ops o)) o.dst v (rrOf o.op (idsOf vs)) (idsOf vs) (revA w []) (alN al o.dst)).f done
                        (fun m => putK o.dst v τ fun τ' => addK w r fun r' => namK al o.dst us fun us' => runD T nt ops n g (m :: done) l' τ' r' us' (c' ++ c)) (.at_ c g done (i :: l') τ r us)

section
variable {Γ : Ctx} {P : Program} {Q : Act → World → Prop} {ops : Array Oper} {k' : List Item} {T : Tab}
theorem FinD.run (hT : TabOK P T.l) {nt : Nat} (hnt : nt = Γ.n) : ∀ (n : Nat) (g : List (Nat × Nat × Bool)) (done : List FM) (l : List Nat) (τ : List (Nat × A)) (r : List (Nat × Option Obj)) (us : List Nat) (c : List Prop),
    FinD Γ P Q ops k' (runD T nt ops n g done l τ r us c) → allP c ∧ D Γ P Q ops k' g done l τ r us
  | 0, g, done, l, τ, r, us, c, h => h
  | n + 1, g, done, l, τ, r, us, c, h => by
    have ih := FinD.run hT hnt n
    unfold runD at h
    split at h
    · exact ⟨h.1, D.fin h.2⟩
    · rename_i i l'
      split at h
      · exact h
      · rename_i o ho
        split at h
        · exact h
        · rename_i hd
          split at h
          · split at h
            · rename_i hu
              rw [chkK_eq (by rfl) ho] at h
              split at h
              · rename_i hchk
                rw [putK_eq] at h
                have h := ih _ _ _ _ _ _ _ h
                exact ⟨h.1, D.skipU hnt ho hd hu hchk h.2⟩
              · exact h
            · exact h
          · rename_i hg
            rw [chkK_eq (by rfl) ho] at h
            split at h
            · rename_i hchk
              rw [putK_eq] at h
              have h := ih _ _ _ _ _ _ _ h
              exact ⟨h.1, D.skip hnt ho hd hg hchk h.2⟩
            · exact h
          · rename_i hg
            split at h
            · exact h
            · split at h
              · exact h
              · rename_i vs hvs
                split at h
                · exact h
                · rename_i obs hobs
                  rw [nameK_eq] at h
                  split at h
                  · exact h
                  · rename_i c' v w al h1
                    split at h
                    · exact h
                    · rename_i hal
                      split at h
                      · exact h
                      rename_i hold
                      rw [chkK_eq (by rfl) ho] at h
                      split at h
                      · rename_i hchk
                        rw [putK_eq, addK_eq, namK_eq] at h
                        have h := ih _ _ _ _ _ _ _ h
                        obtain ⟨hc1, hc2⟩ := allP_append.1 h.1
                        refine ⟨hc2, D.op hT hnt ho hd hg hvs hobs h1 hc1 ?_ ?_ hold hchk h.2⟩
                        · intro ha
                          simp only at ha
                          subst ha
                          cases hdst : o.dst with
                          | none => rw [hdst] at hal; cases hal
                          | some d => exact ⟨d, rfl⟩
                        · cases al with
                          | false => cases o.dst <;> rfl
                          | true =>
                            cases hdst : o.dst with
                            | none => rw [hdst] at hal; cases hal
                            | some d =>
                              rw [hdst] at hal
                              simp only [alOk, Bool.not_eq_true'] at hal
                              simp only [alN, freshL, hal]; rfl
                      · exact h
/-- Walk on in the region as far as it goes. -/
theorem D.run (hT : TabOK P T.l) (nt : Nat) (hnt : nt = Γ.n) (n : Nat) {g : List (Nat × Nat × Bool)} {done : List FM} {l : List Nat} {τ : List (Nat × A)} {r : List (Nat × Option Obj)} {us : List Nat}
    (h : FinD Γ P Q ops k' (runD T nt ops n g done l τ r us [])) : D Γ P Q ops k' g done l τ r us :=
  (FinD.run hT hnt n g done l τ r us [] h).2
/-- Can it walk on? -/
def lenN : List Nat → Nat
  | [] => 0
  | _ :: l => Nat.succ (lenN l)
def moved (l : List Nat) : ResD → Bool
  | .fin .. => true
  | .at_ _ _ _ l' _ _ _ => Nat.blt (lenN l') (lenN l)
theorem D.go (hT : TabOK P T.l) (nt : Nat) (hnt : nt = Γ.n) (n : Nat) {g : List (Nat × Nat × Bool)} {done : List FM} {l : List Nat} {τ : List (Nat × A)} {r : List (Nat × Option Obj)} {us : List Nat} (_ : moved l (runD T nt ops 1 g done l τ r us []) = true)
    (h : FinD Γ P Q ops k' (runD T nt ops n g done l τ r us [])) : D Γ P Q ops k' g done l τ r us := D.run hT nt hnt n h
/-- Into a region whose order is drawn. -/
theorem W.drawn (hm : P.follows .mixedOrders = true) {id : Nat} {g : List (Nat × Nat × Bool)} {τ : List (Nat × A)} {r : List (Nat × Option Obj)} {us : List Nat} (hE : edgesOK ops = true)
    (h : D Γ P Q ops k' [] [] (List.range ops.size) τ r us) : W Γ P Q g (.code (.region id ops true) :: k') τ r us :=
  W.draw hm hE (h.ok [] rfl fun j t b hm => by cases hm)
end
end VX

