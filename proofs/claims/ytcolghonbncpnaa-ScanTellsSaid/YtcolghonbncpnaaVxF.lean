/- A symbolic executor for the model's code, and its soundness (part 6 of 9): a general tool, no statement about this program. -/
import Derived.Test.YtcolghonbncpnaaVxE
import Derived.OpenShut
import Derived.Below
import Derived.WideShapes
import Derived.Carry
set_option linter.unusedSimpArgs false
set_option linter.unusedVariables false
/- VX 27: calls. -/
namespace VX
open Go

/-! ### what is lent for the time of a call -/
/-- v, handed over as x; ld: the names of what is lent. -/
def lent (π : List (Nat × Nat)) (r : List (Nat × Option Obj)) (ld : List Nat) (v x : A) : Prop :=
  match v, x with
  | .own sz id off n, .ro sz' n' g' => hasN ld id = true ∧ sz = sz' ∧ n = n' ∧ (match look r id with
    | some (some (.arr s m g)) => s = sz ∧ off + n ≤ m ∧ ∀ i, i < n → (g (off + i)).sim (g' i)
    | _ => False)
  | .vsl sz id path o n, .ro sz' n' g' => hasN ld id = true ∧ sz = sz' ∧ n = n' ∧ (match look r id with
    | some (some (.var x)) => (match getP path x with
      | some (.vec s m g, c) => s = sz ∧ allP c ∧ o + n ≤ m ∧ ∀ i, i < n → (g (o + i)).sim (g' i)
      | _ => False)
    | _ => False)
  | .ptr id path, .rop y => hasN ld id = true ∧ y.pureP ∧ (match look r id with
    | some (some ob) => (match loadO ob path y.size with
      | some (z, c) => allP c ∧ z.pureP ∧ z.sim y
      | none => False)
    | _ => False)
  | v, x => A.le π v x
def lentL (π : List (Nat × Nat)) (r : List (Nat × Option Obj)) (ld : List Nat) : List A → List A → Prop
  | [], [] => True
  | v :: vs, x :: xs => lent π r ld v x ∧ lentL π r ld vs xs
  | _, _ => False

def Lends (ρ : Ren) (ld : List Nat) (b : Nat) : Prop := ∃ id N, hasN ld id = true ∧ ρ id = some (.blk b N)
open Classical in
noncomputable def lendI (w : World) (ρ : Ren) (ld : List Nat) (I : Imm) : Imm := fun b o => if Lends ρ ld b then w.cell? ⟨b, o, none⟩ else I b o
open Classical in
noncomputable def backI (ρ : Ren) (ld : List Nat) (I : Imm) : Imm := fun b o => if Lends ρ ld b then none else I b o

def liveN (r : List (Nat × Option Obj)) : List Nat → Bool
  | [] => true
  | n :: l => (match look r n with | some (some _) => true | _ => false) && liveN r l
def apartN (l : List Nat) : List Nat → Bool
  | [] => true
  | n :: m => !hasN l n && apartN l m
def freshL (us : List Nat) : List Nat → Bool
  | [] => true
  | n :: l => !usedN us n && freshL us l
def geL : List Nat → Bool
  | [] => true
  | n :: l => Nat.ble 1000 n && geL l
def zipN : List Nat → List Nat → List (Nat × Nat)
  | n :: l, m :: k => (n, m) :: zipN l k
  | _, _ => []
def callRen (πn π : List (Nat × Nat)) (n : Nat) : Nat :=
  match look πn n with
  | some m => m
  | none => match look π n with
    | some m => m
    | none => 0
def renR (f : Nat → Nat) : List (Nat × Option Obj) → List (Nat × Option Obj)
  | [] => []
  | (n, some ob) :: l => (f n, some (ob.ren f)) :: renR f l
  | (n, none) :: l => (f n, none) :: renR f l
def gone : List Nat → List (Nat × Option Obj) → List (Nat × Option Obj)
  | [], r => r
  | n :: l, r => (n, none) :: gone l r
def appR : List (Nat × Option Obj) → List (Nat × Option Obj) → List (Nat × Option Obj)
  | [], r => r
  | x :: l, r => x :: appR l r
def appN : List Nat → List Nat → List Nat
  | [], r => r
  | x :: l, r => x :: appN l r
def flatR : List (Nat × Option Obj) → Prop
  | [] => True
  | (_, some ob) :: l => ob.flat ∧ flatR l
  | (_, none) :: l => flatR l

theorem appN_eq (l k : List Nat) : appN l k = l ++ k := by induction l <;> simp_all [appN]
theorem appR_eq (l k : List (Nat × Option Obj)) : appR l k = l ++ k := by induction l <;> simp_all [appR]
theorem usedN_append (l k : List Nat) (n : Nat) : usedN (l ++ k) n = (hasN l n || usedN k n) := by
  induction l with
  | nil => simp [hasN]
  | cons m l ih => rw [List.cons_append, usedN_cons, ih, hasN_cons, Bool.or_assoc]
theorem liveN_ok {r : List (Nat × Option Obj)} : ∀ {l : List Nat}, liveN r l = true → ∀ {n : Nat}, hasN l n = true → ∃ ob, look r n = some (some ob)
  | [], _, n, h => by simp [hasN] at h
  | m :: l, hl, n, h => by
    rw [liveN, Bool.and_eq_true] at hl
    rw [hasN_cons, Bool.or_eq_true, decide_eq_true_eq] at h
    rcases h with rfl | h
    · have := hl.1
      split at this
      · exact ⟨_, ‹_›⟩
      · cases this
    · exact liveN_ok hl.2 h
theorem apartN_ok {l : List Nat} : ∀ {m : List Nat}, apartN l m = true → ∀ {n : Nat}, hasN m n = true → hasN l n = false
  | [], _, n, h => by simp [hasN] at h
  | k :: m, hl, n, h => by
    rw [apartN, Bool.and_eq_true, Bool.not_eq_true'] at hl
    rw [hasN_cons, Bool.or_eq_true, decide_eq_true_eq] at h
    rcases h with rfl | h
    · exact hl.1
    · exact apartN_ok hl.2 h
theorem freshL_ok {us : List Nat} : ∀ {l : List Nat}, freshL us l = true → ∀ {n : Nat}, hasN l n = true → usedN us n = false
  | [], _, n, h => by simp [hasN] at h
  | k :: m, hl, n, h => by
    rw [freshL, Bool.and_eq_true, Bool.not_eq_true'] at hl
    rw [hasN_cons, Bool.or_eq_true, decide_eq_true_eq] at h
    rcases h with rfl | h
    · exact hl.1
    · exact freshL_ok hl.2 h
theorem geL_ok : ∀ {l : List Nat}, geL l = true → ∀ {n : Nat}, hasN l n = true → 1000 ≤ n
  | [], _, n, h => by simp [hasN] at h
  | k :: m, hl, n, h => by
    rw [geL, Bool.and_eq_true] at hl
    rw [hasN_cons, Bool.or_eq_true, decide_eq_true_eq] at h
    rcases h with rfl | h
    · exact Nat.le_of_ble_eq_true hl.1
    · exact geL_ok hl.2 h
theorem zipN_look : ∀ {l k : List Nat}, l.length = k.length → nodupN k = true → ∀ {n m : Nat}, look (zipN l k) n = some m → look (zipN k l) m = some n ∧ hasN k m = true
  | [], _, _, _, n, m, h => by simp [zipN, look] at h
  | a :: l, [], hl, _, n, m, h => by simp at hl
  | a :: l, b :: k, hl, hk, n, m, h => by
    rw [nodupN, Bool.and_eq_true, Bool.not_eq_true'] at hk
    rw [zipN, look_cons] at h
    rw [zipN, look_cons, hasN_cons]
    by_cases e : a = n
    · rw [if_pos e] at h
      cases h
      subst e
      simp
    · rw [if_neg e] at h
      obtain ⟨h1, h2⟩ := zipN_look (by simpa using hl) hk.2 h
      by_cases e' : b = m
      · subst e'
        rw [hk.1] at h2; cases h2
      · rw [if_neg e']
        exact ⟨h1, by simp [h2]⟩
theorem zipN_mem : ∀ {l k : List Nat}, l.length = k.length → ∀ {n : Nat}, hasN l n = true → ∃ m, look (zipN l k) n = some m
  | [], _, _, n, h => by simp [hasN] at h
  | a :: l, [], hl, n, h => by simp at hl
  | a :: l, b :: k, hl, n, h => by
    rw [zipN, look_cons]
    rw [hasN_cons, Bool.or_eq_true, decide_eq_true_eq] at h
    by_cases e : a = n
    · exact ⟨b, by rw [if_pos e]⟩
    · rw [if_neg e]
      exact zipN_mem (by simpa using hl) (h.resolve_left e)
theorem zipN_has : ∀ {l k : List Nat} {n m : Nat}, look (zipN l k) n = some m → hasN l n = true
  | [], _, n, m, h => by simp [zipN, look] at h
  | a :: l, [], n, m, h => by simp [zipN, look] at h
  | a :: l, b :: k, n, m, h => by
    rw [zipN, look_cons] at h
    rw [hasN_cons]
    by_cases e : a = n
    · simp [e]
    · rw [if_neg e] at h
      simp [zipN_has h]
theorem look_append {α : Type} : ∀ (l k : List (Nat × α)) (n : Nat), look (l ++ k) n = match look l n with | some v => some v | none => look k n
  | [], k, n => rfl
  | (m, v) :: l, k, n => by
    rw [List.cons_append, look_cons, look_cons, look_append l k n]
    by_cases e : m = n <;> simp [e]
theorem renR_look {f : Nat → Nat} : ∀ {r : List (Nat × Option Obj)} {m : Nat} {o : Option Obj}, look (renR f r) m = some o → ∃ n o', look r n = some o' ∧ f n = m ∧ o = o'.map (Obj.ren f)
  | [], m, o, h => by simp [renR, look] at h
  | (k, some ob) :: l, m, o, h => by
    rw [renR, look_cons] at h
    by_cases e : f k = m
    · rw [if_pos e] at h
      cases h
      exact ⟨k, some ob, by rw [look_cons, if_pos rfl], e, rfl⟩
    · rw [if_neg e] at h
      obtain ⟨n, o', h1, h2, h3⟩ := renR_look h
      refine ⟨n, o', ?_, h2, h3⟩
      rw [look_cons, if_neg (by rintro rfl; exact e h2)]
      exact h1
  | (k, none) :: l, m, o, h => by
    rw [renR, look_cons] at h
    by_cases e : f k = m
    · rw [if_pos e] at h
      cases h
      exact ⟨k, none, by rw [look_cons, if_pos rfl], e, rfl⟩
    · rw [if_neg e] at h
      obtain ⟨n, o', h1, h2, h3⟩ := renR_look h
      refine ⟨n, o', ?_, h2, h3⟩
      rw [look_cons, if_neg (by rintro rfl; exact e h2)]
      exact h1
theorem gone_look : ∀ {l : List Nat} {r : List (Nat × Option Obj)} {m : Nat} {ob : Obj}, look (gone l r) m = some (some ob) → hasN l m = false ∧ look r m = some (some ob)
  | [], r, m, ob, h => ⟨rfl, h⟩
  | k :: l, r, m, ob, h => by
    rw [gone, look_cons] at h
    by_cases e : k = m
    · rw [if_pos e] at h; cases h
    · rw [if_neg e] at h
      have := gone_look h
      rw [hasN_cons]
      simp [e, this]
theorem flatR_look : ∀ {r : List (Nat × Option Obj)} {m : Nat} {ob : Obj}, flatR r → look r m = some (some ob) → ob.flat
  | [], _, _, _, h => by simp [look] at h
  | (k, some ob') :: l, m, ob, hf, h => by
    rw [look_cons] at h
    by_cases e : k = m
    · rw [if_pos e] at h; cases h; exact hf.1
    · rw [if_neg e] at h; exact flatR_look hf.2 h
  | (k, none) :: l, m, ob, hf, h => by
    rw [look_cons] at h
    by_cases e : k = m
    · rw [if_pos e] at h; cases h
    · rw [if_neg e] at h; exact flatR_look (r := l) hf h
section
variable {P : Program} {Γ : Ctx} {I : Imm} {ρ : Ren} {r : List (Nat × Option Obj)} {us : List Nat} {w : World} {ld : List Nat} {π : List (Nat × Nat)}

/-- What is lent lies in blocks of its own. -/
theorem Lends.own (hR : RW Γ I ρ r us w) (hl : liveN r ld = true) {b : Nat} (h : Lends ρ ld b) : ∃ id N ob, hasN ld id = true ∧ look r id = some (some ob) ∧ ρ id = some (.blk b N) ∧ OwnB Γ I ρ w b N ob := by
  obtain ⟨id, N, h1, h2⟩ := h
  obtain ⟨ob, hob⟩ := liveN_ok hl h1
  exact ⟨id, N, ob, h1, hob, h2, hR.lt_of_own hob h2⟩

theorem le_lendI (hR : RW Γ I ρ r us w) (hl : liveN r ld = true) : I.le (lendI w ρ ld I) := fun b o v h => by
  unfold lendI
  split
  · rename_i hL
    obtain ⟨id, N, ob, _, _, _, hO⟩ := hL.own hR hl
    rw [hO.noI] at h; cases h
  · exact h

theorem lent_ok (hR : RW Γ I ρ r us w) (hl : liveN r ld = true) {v x : A} {u : Value} (h : lent π r ld v x) (hv : R I ρ v u) : R (lendI w ρ ld I) (viaRen π ρ) x u := by
  have hle := le_lendI (ld := ld) hR hl
  have cells : ∀ {id b N : Nat} {vs : Array Value} {e : TypeId} {fz : Nat × Nat}, hasN ld id = true → ρ id = some (.blk b N) → w.heap[b]? = some (.cells vs e fz) → (∀ v ∈ vs.toList, v.oneCell' = true) →
      ∀ (o m : Nat) (j : Nat) (u : Value), ((vs.toList.drop o).take m)[j]? = some u → lendI w ρ ld I b (o + j) = some u ∧ u.oneCell' = true := fun {id b N vs e fz} h1 h2 h3 h4 o m j u hu => by
    rw [slice_get] at hu
    split at hu
    · refine ⟨?_, h4 u (List.mem_of_getElem? hu)⟩
      unfold lendI
      rw [if_pos ⟨id, N, h1, h2⟩]
      simp only [World.cell?, h3]
      simpa using hu
    · cases hu
  unfold lent at h
  split at h
  · rename_i sz id off n sz' n' g'
    obtain ⟨h1, rfl, rfl, h⟩ := h
    split at h
    · rename_i s m g hlk
      obtain ⟨rfl, hm, hg⟩ := h
      cases hv with
      | agg hv _ _ => cases hv
      | own a b c =>
        rename_i b' N c'
        obtain ⟨vs, e, fz, hh, hN, hfz, hH, h1c⟩ := hR.cells hlk a (by simp)
        refine .ro b (fun i hi => (hg i hi).three (hH.2.1 (off + i) (by omega))) fun i hi => ?_
        have hsz := hH.2.1 (off + i) (by omega)
        have hr := ((hg i hi).RL (ρ' := nr) hsz.1 hsz.2.2 (hH.2.2 (off + i) (by omega))).mono hle (Ren.le.refl nr)
        have := RA.of (o := (off + i) * s) hr (fun j u hu => cells h1 a hh h1c _ _ j u hu)
        rwa [Nat.add_mul] at this
      | own0 => exact .ro0
    · exact h.elim
  · rename_i sz id path o n sz' n' g'
    obtain ⟨h1, rfl, rfl, h⟩ := h
    split at h
    · rename_i x hlk
      split at h
      · rename_i s m g c hgp
        obtain ⟨rfl, hc, hm, hg⟩ := h
        cases hv with
        | agg hv _ _ => cases hv
        | vsl a b c' =>
          rename_i b' N c''
          obtain ⟨vs, e, fz, hh, hN, hfz, hH, h1c⟩ := hR.cells hlk a (by simp)
          obtain ⟨k1, k2, k3, _, _, k5⟩ := getP_ok (I := I) (ρ := ρ) path x _ c hH.1 hgp hc
          have hr5 := k5 _ hH.2
          refine .ro b (fun i hi => (hg i hi).three (k1 (o + i) (by omega))) fun i hi => ?_
          have hwi := k1 (o + i) (by omega)
          have hr := vec_at k1 hr5 (i := o + i) (by omega)
          have hr := ((hg i hi).RL (ρ' := nr) hwi.1 hwi.2.2 hr).mono hle (Ren.le.refl nr)
          have e1 : (o + i) * s + s ≤ m * s := by
            have := Nat.mul_le_mul_right s (show o + i + 1 ≤ m by omega)
            rw [Nat.succ_mul] at this
            exact this
          have e2 : (((List.drop (addr path) vs.toList).take (A.vec s m g).size).drop ((o + i) * s)).take s = (vs.toList.drop (addr path + (o + i) * s)).take s := by
            simp only [A.size]
            rw [List.drop_take, List.drop_drop, List.take_take, Nat.min_eq_left (by omega)]
          rw [e2] at hr
          have := RA.of (o := addr path + (o + i) * s) hr (fun j u hu => cells h1 a hh h1c _ _ j u hu)
          rwa [Nat.add_mul, ← Nat.add_assoc] at this
        | vsl0 => exact .ro0
      · exact h.elim
    · exact h.elim
  · rename_i id path y
    obtain ⟨h1, hp, h⟩ := h
    split at h
    · rename_i ob hlk
      split at h
      · rename_i z c hlo
        obtain ⟨hc, hzp, hs⟩ := h
        obtain ⟨b, N, rfl, hb⟩ := hv.ptr_inv
        obtain ⟨vs, e, fz, hh, hN, hfz, hH, h1c⟩ := hR.cells hlk hb (by rintro z ks g rfl; simp [loadO] at hlo) (by rintro ks xs rfl; simp [loadO] at hlo)
        obtain ⟨k1, k2, k3, k4⟩ := loadO_ok hlo hc hH
        have k1' : y.wf := (hs.three ⟨k1, rfl, hzp⟩).1
        have hr := (hs.RL (ρ' := nr) k1 hzp k4).mono hle (Ren.le.refl nr)
        exact .rop k1' hp (RA.of hr (fun j u hu => cells h1 hb hh h1c _ _ j u hu))
      · exact h.elim
    · exact h.elim
  · exact (A.le_ok (viaRen_via π ρ) h hv).mono hle (Ren.le.refl _)

theorem lentL_ok (hR : RW Γ I ρ r us w) (hl : liveN r ld = true) : ∀ {vs xs : List A} {us : List Value}, lentL π r ld vs xs → RL I ρ vs us → RL (lendI w ρ ld I) (viaRen π ρ) xs us
  | [], [], _, _, .nil => .nil
  | v :: vs, x :: xs, _, h, .cons a b => .cons (lent_ok hR hl h.1 a) (lentL_ok hR hl h.2 b)
  | [], _ :: _, _, h, _ => h.elim
  | _ :: _, [], _, h, _ => h.elim

/-- The world, as the callee finds it. -/
theorem RW.enter (hR : RW Γ I ρ r us w) (hl : liveN r ld = true) (hap : apartN ld (vals π) = true) (hn : nodupN (vals π) = true) {rc : List (Nat × Option Obj)} (hk : keys π = keys rc) (hsub : subR π r rc) (n : Nat) :
    RW (entry w (lendI w ρ ld I) (viaRen π ρ) (keys rc) n) (lendI w ρ ld I) (viaRen π ρ) rc (keys rc) w := by
  have hv := viaRen_via π ρ
  have hle := le_lendI (ld := ld) hR hl
  refine ⟨fun b o v h => ?_, fun m ob' hm => ?_, fun m m' ob ob' b N N' hm hm' hb hb' => ?_, fun m hm => ?_, ⟨Nat.le_refl _, fun _ _ _ => rfl, fun _ _ _ _ => rfl, Imm.le.refl _, rfl, rfl, rfl⟩, fun m l _ h => h⟩
  · unfold lendI at h
    split at h
    · exact h
    · exact hR.imm _ _ _ h
  · obtain ⟨id, ob, h1, h2, h3⟩ := subR_look hsub hm
    obtain ⟨l, hl', ho⟩ := hR.own id ob h2
    refine ⟨l, hv _ _ _ h1 hl', ?_⟩
    cases l with
    | nil => cases ob <;> cases ob' <;> simp_all [Own, Obj.le]
    | blk b N =>
      obtain ⟨o, hb, hh⟩ := ho.blk
      refine ⟨fun o => ?_, .inl ⟨m, N, look_keys hm, hv _ _ _ h1 hl'⟩, o, hb, ?_⟩
      · unfold lendI
        rw [if_neg]
        · exact ho.noI o
        · intro hL
          obtain ⟨id2, N2, ob2, g1, g2, g3, _⟩ := hL.own hR hl
          have := hR.inj id id2 _ _ b N N2 h2 g2 hl' g3
          subst this
          rw [apartN_ok hap (look_vals h1)] at g1
          cases g1
      · cases o with
        | cells vs e fz => exact ⟨hh.1, hh.2.1, (Obj.le_ok hv h3 hh.2.2.1).mono hle (Ren.le.refl _), hh.2.2.2⟩
        | map es c =>
          obtain ⟨h0, hh⟩ := hh
          cases ob <;> simp only at hh
          · cases ob' <;> simp [Obj.le] at h3
            obtain ⟨rfl, rfl, rfl⟩ := h3
            exact ⟨h0, hh.mono hle⟩
          · cases ob' <;> simp [Obj.le] at h3
            obtain ⟨rfl, h3⟩ := h3
            exact ⟨h0, PMapC.mono hle (Ren.le.refl _) ⟨hh.1, hh.2.1, hh.2.2.1, (A.leL_both hv _).1 _ _ h3 hh.2.2.2⟩⟩
        | _ => simp [BlkHolds] at hh
  · obtain ⟨n, o1, h1, h2, _⟩ := subR_look hsub hm
    obtain ⟨n', o1', h1', h2', _⟩ := subR_look hsub hm'
    simp only [viaRen, h1, h1', Option.bind_some] at hb hb'
    have := hR.inj n n' o1 o1' b N N' h2 h2' hb hb'
    subst this
    exact nodup_inj hn h1 h1'
  · cases e : look π m with
    | none => simp [viaRen, e]
    | some n =>
      have := look_keys e
      rw [hk, usedN_hasN hm] at this
      cases this

/-- What a name leads to when the call is over. -/
def backRen (πi : List (Nat × Nat)) (ρ ρ' : Ren) : Ren := fun m => match look πi m with
  | some n => ρ' n
  | none => ρ m

theorem Own.flat {I I' : Imm} {ρ : Ren} {w : World} {l : Loc} {ob : Obj} {Γ : Ctx} (h : Own Γ I ρ w l ob) (hf : I.le I' ∨ ob.flat) (hno : ∀ b N, l = .blk b N → ∀ o, I' b o = none) : Own Γ I' ρ w l ob := by
  cases l with
  | nil => exact h.nil_iff
  | blk b N =>
    obtain ⟨o, hb, hh⟩ := h.blk
    refine ⟨hno b N rfl, h.mine, o, hb, ?_⟩
    cases o with
    | cells vs e fz =>
      refine ⟨hh.1, hh.2.1, ?_, hh.2.2.2⟩
      rcases hf with hf | hf
      · exact hh.2.2.1.mono hf (Ren.le.refl _)
      · exact Obj.flat_ok hf hh.2.2.1
    | map es c =>
      refine ⟨hh.1, ?_⟩
      have h2 := hh.2
      cases ob <;> simp only at h2 ⊢
      rotate_left
      · rcases hf with hf | hf
        · exact PMapC.mono hf (Ren.le.refl _) h2
        · exact ⟨h2.1, h2.2.1, h2.2.2.1, (A.flat_bothL _).1 _ hf h2.2.2.2⟩
      rcases hf with hf | hf
      · exact h2.mono hf
      · exact ⟨h2.1, h2.2.1, fun i e he => let ⟨s, a, b, c⟩ := h2.2.2.1 i e he; ⟨s, a, b, (A.flat_both _).1 _ (hf s (List.mem_of_getElem? a)) c⟩, h2.2.2.2⟩
    | _ => simp [BlkHolds] at hh
end
end VX

/- VX 28: calls (2). -/
namespace VX
open Go

section
variable {P : Program} {Γ : Ctx} {I : Imm} {ρ : Ren} {r : List (Nat × Option Obj)} {us : List Nat} {w : World} {ld : List Nat} {π : List (Nat × Nat)}

/-- What is asked of the names in a call. -/
def callChk (us : List Nat) (r : List (Nat × Option Obj)) (π : List (Nat × Nat)) (ld new ns : List Nat) (rc : List (Nat × Option Obj)) : Bool :=
  liveN r ld && (apartN ld (vals π) && (liveN r (vals π) && (nodupN (vals π) && (nodupN ns && (freshL us ns && (geL (keys rc) && (Nat.beq new.length ns.length)))))))

/-- The world, after the call. -/
theorem RW.leave (hR : RW Γ I ρ r us w) {rc : List (Nat × Option Obj)} (hk : keys π = keys rc) {new ns : List Nat} (hchk : callChk us r π ld new ns rc = true) {n : Nat}
    {I' : Imm} {ρ' : Ren} {r' : List (Nat × Option Obj)} {w' : World} (hR' : RW (entry w (lendI w ρ ld I) (viaRen π ρ) (keys rc) n) I' ρ' r' (new ++ keys rc) w') (hfl : ld = [] ∨ flatR r') :
    ∃ I'' ρ'', I.le I'' ∧ ρ.le ρ'' ∧ (∀ n l, ρ' n = some l → ρ'' (callRen (zipN new ns) π n) = some l) ∧ (I'.le I'' ∨ ld ≠ []) ∧
      RW Γ I'' ρ'' (appR (renR (callRen (zipN new ns) π) r') (gone (vals π) r)) (appN ns us) w' := by
  unfold callChk at hchk
  obtain ⟨hl, hchk⟩ := andb hchk
  obtain ⟨hap, hchk⟩ := andb hchk
  obtain ⟨hlv, hchk⟩ := andb hchk
  obtain ⟨hn, hchk⟩ := andb hchk
  obtain ⟨hns, hchk⟩ := andb hchk
  obtain ⟨hfr, hchk⟩ := andb hchk
  obtain ⟨hge, hlen⟩ := andb hchk
  have hlen := beqn hlen
  rw [appR_eq, appN_eq]
  -- the names
  have fresh : ∀ m, hasN ns m = true → ρ m = none := fun m hm => hR.names m (freshL_ok hfr hm)
  have inv_ns : ∀ m n, look (zipN ns new) m = some n → hasN ns m = true := fun m n h => zipN_has h
  have hρ : ρ.le (backRen (zipN ns new) ρ ρ') := fun m l hm => by
    unfold backRen
    split
    · rename_i n hn'
      rw [fresh m (inv_ns m n hn')] at hm
      cases hm
    · exact hm
  have kept : ∀ n l, hasN new n = false → ρ' n = some l → ∃ id, look π n = some id ∧ ρ id = some l := fun n l hnew hl' => by
    have h1 : 1000 ≤ n := by
      rcases Nat.lt_or_ge n 1000 with h | h
      · have hu : usedN (new ++ keys rc) n = true := by
          cases e : usedN (new ++ keys rc) n with
          | true => rfl
          | false => rw [hR'.names n e] at hl'; cases hl'
        rw [usedN_append, hnew, Bool.false_or] at hu
        unfold usedN at hu
        have hb : Nat.ble 1000 n = false := by
          cases e : Nat.ble 1000 n with
          | false => rfl
          | true => have := Nat.le_of_ble_eq_true e; omega
        rw [hb] at hu
        exact geL_ok hge hu
      · exact h
    have := hR'.keep n l h1 hl'
    simp only [entry, viaRen] at this
    cases e : look π n with
    | none => rw [e] at this; cases this
    | some id => rw [e] at this; exact ⟨id, rfl, this⟩
  have hren : ∀ n l, ρ' n = some l → backRen (zipN ns new) ρ ρ' (callRen (zipN new ns) π n) = some l := fun n l hl' => by
    unfold callRen
    cases e : look (zipN new ns) n with
    | some m =>
      simp only
      unfold backRen
      rw [(zipN_look hlen hns e).1]
      exact hl'
    | none =>
      have hnew : hasN new n = false := by
        cases e' : hasN new n with
        | false => rfl
        | true =>
          obtain ⟨m, hm⟩ := zipN_mem hlen e'
          rw [e] at hm; cases hm
      obtain ⟨id, h1, h2⟩ := kept n l hnew hl'
      simp only [h1]
      exact hρ _ _ h2
  -- what is lent
  have hI : I.le (backI ρ ld I') := fun b o v h => by
    unfold backI
    split
    · rename_i hL
      obtain ⟨id, N, ob, _, _, _, hO⟩ := hL.own hR hl
      rw [hO.noI] at h; cases h
    · exact hR'.frame.le _ _ _ (le_lendI hR hl _ _ _ h)
  have hI' : ld = [] → I'.le (backI ρ ld I') := fun h b o v hv => by
    subst h
    unfold backI
    rw [if_neg]
    · exact hv
    · rintro ⟨id, N, h1, _⟩
      simp [hasN] at h1
  -- blocks of the callee
  have fpc : ∀ b, (entry w (lendI w ρ ld I) (viaRen π ρ) (keys rc) n).fp b → ∃ id N ob, hasN (vals π) id = true ∧ look r id = some (some ob) ∧ ρ id = some (.blk b N) ∧ OwnB Γ I ρ w b N ob := fun b hb => by
    obtain ⟨n', N, h1, h2⟩ := hb
    simp only [viaRen] at h2
    cases e : look π n' with
    | none => rw [e] at h2; cases h2
    | some id =>
      rw [e, Option.bind_some] at h2
      obtain ⟨ob, hob⟩ := liveN_ok hlv (look_vals e)
      exact ⟨id, N, ob, look_vals e, hob, h2, hR.lt_of_own hob h2⟩
  have notLent : ∀ b, (entry w (lendI w ρ ld I) (viaRen π ρ) (keys rc) n).fp b ∨ w.heap.size ≤ b → ¬ Lends ρ ld b := fun b hb hL => by
    obtain ⟨id2, N2, ob2, g1, g2, g3, g4⟩ := hL.own hR hl
    rcases hb with hb | hb
    · obtain ⟨id, N, ob, h1, h2, h3, h4⟩ := fpc b hb
      have := hR.inj id id2 _ _ b N N2 h2 g2 h3 g3
      subst this
      rw [apartN_ok hap h1] at g1
      cases g1
    · have := g4.lt
      omega
  refine ⟨backI ρ ld I', backRen (zipN ns new) ρ ρ', hI, hρ, hren, ?_, ⟨fun b o v h => ?_, fun m ob hm => ?_, fun m m' ob ob' b N N' hm hm' hb hb' => ?_, fun m hm => ?_, ⟨?_, fun b hb hf => ?_, fun b hb hf o => ?_, ?_, ?_, ?_, ?_⟩, fun m l hm hl' => ?_⟩⟩
  · by_cases h : ld = []
    · exact .inl (hI' h)
    · exact .inr h
  · unfold backI at h
    split at h
    · cases h
    · exact hR'.imm _ _ _ h
  · -- owned
    rw [look_append] at hm
    split at hm
    · rename_i o ho
      obtain ⟨n', o', h1, h2, h3⟩ := renR_look ho
      cases hm
      cases o' with
      | none => cases h3
      | some ob' =>
        simp only [Option.map_some, Option.some.injEq] at h3
        subst h3
        obtain ⟨l, hl', hO⟩ := hR'.own n' ob' h1
        refine ⟨l, by rw [← h2]; exact hren _ _ hl', ?_⟩
        have hO2 : Own (entry w (lendI w ρ ld I) (viaRen π ρ) (keys rc) n) (backI ρ ld I') ρ' w' l ob' := hO.flat (by
          rcases hfl with h | h
          · exact .inl (hI' h)
          · exact .inr (flatR_look h h1)) (fun b N e o => by
          subst e
          unfold backI
          split
          · rfl
          · exact hO.noI o)
        cases l with
        | nil =>
          cases ob' with
          | arr => exact hO2
          | _ => exact hO2.elim
        | blk b N =>
          refine ⟨hO2.noI, ?_, ?_⟩
          · rcases hO2.mine with h | h
            · obtain ⟨id, N, ob, _, _, _, h4⟩ := fpc b h
              exact h4.mine
            · exact .inr (Nat.le_trans hR.frame.size h)
          · obtain ⟨o, hb, hh⟩ := hO2.blk
            refine ⟨o, hb, ?_⟩
            cases o with
            | cells vs e fz => exact ⟨hh.1, hh.2.1, Obj.ren_ok hren hh.2.2.1, hh.2.2.2⟩
            | map es c =>
              refine ⟨hh.1, ?_⟩
              have h2 := hh.2
              cases ob' <;> simp only [Obj.ren] at h2 ⊢
              · exact h2
              · exact ⟨h2.1, h2.2.1, h2.2.2.1, (A.ren_bothL hren _).1 _ h2.2.2.2⟩
            | _ => simp [BlkHolds] at hh
    · obtain ⟨hm1, hm2⟩ := gone_look hm
      obtain ⟨l, hl', hO⟩ := hR.own m ob hm2
      refine ⟨l, hρ _ _ hl', ?_⟩
      cases l with
      | nil => exact hO.nil_iff
      | blk b N =>
        have hlt := hO.lt
        have hnf : ¬ (entry w (lendI w ρ ld I) (viaRen π ρ) (keys rc) n).fp b := fun hb => by
          obtain ⟨id, N', ob', h1, h2, h3, _⟩ := fpc b hb
          have := hR.inj m id _ _ b N N' hm2 h2 hl' h3
          subst this
          rw [hm1] at h1; cases h1
        have hO2 : OwnB Γ (backI ρ ld I') (backRen (zipN ns new) ρ ρ') w' b N ob := by
          refine ⟨fun o => ?_, hO.mine, ?_⟩
          · unfold backI
            split
            · rfl
            · rename_i hL
              have := hR'.frame.imm b hlt hnf o
              rw [this]
              show lendI w ρ ld I b o = none
              unfold lendI
              rw [if_neg hL]
              exact hO.noI o
          · obtain ⟨o, hb, hh⟩ := hO.blk
            exact ⟨o, by rw [hR'.frame.blocks b hlt hnf]; exact hb, hh.mono hI hρ⟩
        exact hO2
  · -- injective
    have side : ∀ m ob b N, look (renR (callRen (zipN new ns) π) r' ++ gone (vals π) r) m = some (some ob) → backRen (zipN ns new) ρ ρ' m = some (.blk b N) →
        (∃ n' ob', look r' n' = some (some ob') ∧ callRen (zipN new ns) π n' = m ∧ ρ' n' = some (.blk b N) ∧ ((entry w (lendI w ρ ld I) (viaRen π ρ) (keys rc) n).fp b ∨ w.heap.size ≤ b)) ∨
        (look r m = some (some ob) ∧ hasN (vals π) m = false ∧ ρ m = some (.blk b N)) := fun m ob b N hm hb => by
      rw [look_append] at hm
      split at hm
      · rename_i o ho
        obtain ⟨n', o', h1, h2, h3⟩ := renR_look ho
        cases hm
        cases o' with
        | none => cases h3
        | some ob' =>
          obtain ⟨l, hl', hO⟩ := hR'.own n' ob' h1
          have h5 := hren _ _ hl'
          rw [h2, hb] at h5
          cases h5
          exact .inl ⟨n', ob', h1, h2, hl', hO.mine⟩
      · obtain ⟨hm1, hm2⟩ := gone_look hm
        obtain ⟨l, hl', hO⟩ := hR.own m ob hm2
        have h5 := hρ _ _ hl'
        rw [hb] at h5
        cases h5
        exact .inr ⟨hm2, hm1, hl'⟩
    have apart : ∀ m ob b N, look r m = some (some ob) → hasN (vals π) m = false → ρ m = some (.blk b N) → ((entry w (lendI w ρ ld I) (viaRen π ρ) (keys rc) n).fp b ∨ w.heap.size ≤ b) → False := fun m ob b N h1 h2 h3 h4 => by
      rcases h4 with h4 | h4
      · obtain ⟨id, N', ob', k1, k2, k3, _⟩ := fpc b h4
        have := hR.inj m id _ _ b N N' h1 k2 h3 k3
        subst this
        rw [h2] at k1; cases k1
      · have := (hR.lt_of_own h1 h3).lt
        omega
    rcases side m ob b N hm hb with ⟨n1, o1, a1, a2, a3, a4⟩ | ⟨a1, a2, a3⟩ <;> rcases side m' ob' b N' hm' hb' with ⟨n2, o2, b1, b2, b3, b4⟩ | ⟨b1, b2, b3⟩
    · have := hR'.inj n1 n2 _ _ b N N' a1 b1 a3 b3
      subst this
      exact a2.symm.trans b2
    · exact (apart m' ob' b N' b1 b2 b3 a4).elim
    · exact (apart m ob b N a1 a2 a3 b4).elim
    · exact hR.inj m m' _ _ b N N' a1 b1 a3 b3
  · rw [usedN_append, Bool.or_eq_false_iff] at hm
    unfold backRen
    split
    · rename_i n' hn'
      rw [inv_ns m n' hn'] at hm
      cases hm.1
    · exact hR.names m hm.2
  · exact Nat.le_trans hR.frame.size hR'.frame.size
  · have hnf : ¬ (entry w (lendI w ρ ld I) (viaRen π ρ) (keys rc) n).fp b := fun h => by
      obtain ⟨id, N, ob, _, _, _, h4⟩ := fpc b h
      rcases h4.mine with h | h
      · exact hf h
      · omega
    rw [hR'.frame.blocks b (Nat.lt_of_lt_of_le hb hR.frame.size) hnf]
    exact hR.frame.blocks b hb hf
  · have hnf : ¬ (entry w (lendI w ρ ld I) (viaRen π ρ) (keys rc) n).fp b := fun h => by
      obtain ⟨id, N, ob, _, _, _, h4⟩ := fpc b h
      rcases h4.mine with h | h
      · exact hf h
      · omega
    have hnl : ¬ Lends ρ ld b := fun h => by
      obtain ⟨id, N, ob, _, _, _, h4⟩ := h.own hR hl
      rcases h4.mine with h | h
      · exact hf h
      · omega
    unfold backI
    rw [if_neg hnl, hR'.frame.imm b (Nat.lt_of_lt_of_le hb hR.frame.size) hnf o]
    show lendI w ρ ld I b o = _
    unfold lendI
    rw [if_neg hnl]
    exact hR.frame.imm b hb hf o
  · exact hR.frame.le.trans hI
  · exact hR'.frame.os.trans hR.frame.os
  · exact hR'.frame.tape.trans hR.frame.tape
  · exact hR'.frame.output.trans hR.frame.output
  · have : look (zipN ns new) m = none := by
      cases e : look (zipN ns new) m with
      | none => rfl
      | some n' =>
        have := usedN_lt (freshL_ok hfr (inv_ns m n' e))
        omega
    simp only [backRen, this] at hl'
    exact hR.keep m l hm hl'

/-- The function that a call goes to, and its arguments. -/
def callee (τ : List (Nat × A)) (o : Oper) : Option (FuncId × List A) :=
  match o.op with
  | .call c => match c.callee with
    | .value f => (match ev τ f with
      | some (.func (.func fid) first cap) => (match evs τ c.args.toList with
        | some vs => some (fid, first ++ (vs ++ cap))
        | none => none)
      | _ => none)
    | _ => none
  | _ => none
def callOK (P : Program) (f : FuncId) : Bool := match P.funcs[f]? with
  | some fn => !(fn.name == "runtime.NumGoroutine") && fn.body.isSome
  | none => false

theorem callee_ok {n : Nat} {τ : List (Nat × A)} {a : Act} {o : Oper} {f : FuncId} {vs : List A} (hS : Slots I ρ n τ a) (h : callee τ o = some (f, vs)) (hf : callOK P f = true) :
    ∃ args, (execOp a.eval o).run P w = .ok (.enter f args) w ∧ RL I ρ vs args.toList := by
  unfold callee at h
  split at h
  · rename_i c hop
    split at h
    · rename_i fo hcal
      split at h
      · rename_i fid first cap hev
        split at h
        · rename_i vs' hvs
          simp only [Option.some.injEq, Prod.mk.injEq] at h
          obtain ⟨rfl, rfl⟩ := h
          obtain ⟨fs, cs, he, h1, h2⟩ := (ev_ok hS hev).func_inv
          have h3 := evs_ok hS hvs
          unfold callOK at hf
          split at hf
          · rename_i fn hfn
            rw [Bool.and_eq_true, Bool.not_eq_true'] at hf
            refine ⟨fs.toArray ++ c.args.map a.eval ++ cs.toArray, ?_, ?_⟩
            · have hb : fn.body.isNone = false := by
                cases hb : fn.body with
                | none => rw [hb] at hf; cases hf.2
                | some _ => rfl
              simp only [execOp, hop, resolve, hcal, he, Deferred.ofValue, Sem.run_bind, Sem.run_pure, Result.andThen_ok, invoke, callFunc, run_program, hfn, hf.1, hb]
              simp
            · have := RL.append h1 (RL.append h3 h2)
              simpa using this
          · cases hf
        · cases h
      · cases h
    · cases h
  · cases h

theorem step_call {b : Frame} {a : Act} {k : List Item} {cs : List Frame} {ops : Array Oper} {i : Nat} {l : List Nat} {o : Oper} (ho : ops[i]? = some o)
    (hw : Region.wanted o (yielded ops a.tmps) = true) {f : FuncId} {args : Array Value} (hx : (execOp a.eval o).run P w = .ok (.enter f args) w) {R : Value → World → Prop}
    (hc : Calls P f args w fun | .returned v, w' => R v w' | _, _ => False) :
    ∃ v w', R v w' ∧ Steps P (lone (b.at a (.inRegion ops (i :: l) :: k)) cs w) (lone (b.at (a.put o.dst v) (.inRegion ops l :: k)) cs w') := by
  have hg := stepG_op (P := P) (b := b) (k := k) (cs := cs) (w := w) (rest := l) ho hw
  have hfin : ∀ v, (b.at a (.inRegion ops (i :: l) :: k)).finish v = b.at (a.put o.dst v) (.inRegion ops l :: k) := by
    intro v; rw [Frame.finish_at, ho]; rfl
  obtain ⟨e, w'', fr, hR, hsteps, _, hleave⟩ := hc (b.at a (.inRegion ops (i :: l) :: k) :: cs)
  have henter : step P (lone (b.at a (.inRegion ops (i :: l) :: k)) cs w) =
      .next (lone (Frame.enter P f args .normal) (b.at a (.inRegion ops (i :: l) :: k) :: cs) w) :=
    step_lone_go (by rw [hg]; simp [stepG.apply, hx, Frame.at])
  cases e with
  | returned v =>
    refine ⟨v, w'', hR, .head henter (Steps.trans hsteps (.one ?_))⟩
    rw [← hfin]; exact step_leave_returned hleave
  | panicked chain => exact hR.elim
  | outgrown => exact hR.elim

def putO : Option Tmp → A → List (Nat × A) → List (Nat × A)
  | some d, v, τ => (d, v) :: τ
  | none, _, τ => τ

/-- A call. -/
theorem W.call {Q : Act → World → Prop} {f : FuncId} {xs : List A} {rc : List (Nat × Option Obj)} {new : List Nat} {Y : A → List (Nat × Option Obj) → Prop} (hS : Does P f xs rc new Y) (hf : callOK P f = true)
    {g : List (Nat × Nat × Bool)} {ops : Array Oper} {i : Nat} {l : List Nat} {k : List Item} {τ : List (Nat × A)} {o : Oper} {vs : List A} (ho : ops.toList[i]? = some o) (hg : guardOf o g = some true)
    (hcal : callee τ o = some (f, vs)) (π : List (Nat × Nat)) (ld ns : List Nat) (hk : keys π = keys rc) (hchk : callChk us r π ld new ns rc = true) {nt : Nat} (hnt : nt = Γ.n) (hdst : dstOk nt g o.dst = true)
    (hargs : lentL π r ld vs xs) (hsub : subR π r rc) (hfl : ld = [] ∨ ∀ y r', Y y r' → y.flat ∧ flatR r')
    (h : ∀ y r', Y y r' → W Γ P Q g (.inRegion ops l :: k) (putO o.dst (y.ren (callRen (zipN new ns) π)) τ) (appR (renR (callRen (zipN new ns) π) r') (gone (vals π) r)) (appN ns us)) :
    W Γ P Q g (.inRegion ops (i :: l) :: k) τ r us := by
  refine ⟨fun a w I ρ hR hSl hG => ?_⟩
  have ho : ops[i]? = some o := by simpa using ho
  have hw := guardOf_ok hSl hG hg
  have hchk' := hchk
  unfold callChk at hchk'
  obtain ⟨hl, hchk'⟩ := andb hchk'
  obtain ⟨hap, hchk'⟩ := andb hchk'
  obtain ⟨hlv, hchk'⟩ := andb hchk'
  obtain ⟨hn, _⟩ := andb hchk'
  obtain ⟨args, hx, ha⟩ := callee_ok (P := P) (w := w) hSl hcal hf
  have hargs' := lentL_ok hR hl hargs ha
  have hcalls := hS (lendI w ρ ld I) (viaRen π ρ) w args.toList hargs' (hR.enter hl hap hn hk hsub (nOf P f))
  rw [Array.toArray_toList] at hcalls
  intro b cs
  obtain ⟨v, w', ⟨y, r', I', ρ', hY, hv, hR'⟩, hsteps⟩ := step_call (b := b) (k := k) (cs := cs) (l := l) ho hw hx hcalls
  obtain ⟨I'', ρ'', hI, hρ, hren, hI2, hR''⟩ := hR.leave hk hchk hR' (hfl.imp id fun h => (h y r' hY).2)
  have hv' : R I'' ρ'' (y.ren (callRen (zipN new ns) π)) v := by
    refine (A.ren_both (f := callRen (zipN new ns) π) hren y).1 v ?_
    rcases hI2 with h | h
    · exact hv.mono h (Ren.le.refl _)
    · rcases hfl with h' | h'
      · exact (h h').elim
      · exact (A.flat_both y).1 v (h' y r' hY).1 hv
  have hSl' : Slots I'' ρ'' Γ.n (putO o.dst (y.ren (callRen (zipN new ns) π)) τ) (a.put o.dst v) ∧ GOK g (.inRegion ops l :: k) (putO o.dst (y.ren (callRen (zipN new ns) π)) τ) := by
    have := hSl.mono hI hρ
    cases hd : o.dst with
    | none => exact ⟨this.skip, hG.next⟩
    | some d =>
      rw [hd] at hdst
      obtain ⟨hlt, hoff⟩ := dstOk_some hdst
      exact ⟨this.put (hnt ▸ hlt) hv', hG.put hoff⟩
  obtain ⟨a2, w2, todo, hq, hs⟩ := (h y r' hY).ok _ w' I'' ρ'' hR'' hSl'.1 hSl'.2 b cs
  exact ⟨a2, w2, todo, hq, Steps.trans hsteps hs⟩

/-- A contract that tells the result outright. -/
def Is (y0 : A) (r0 : List (Nat × Option Obj)) (y : A) (r : List (Nat × Option Obj)) : Prop := y = y0 ∧ r = r0
/-- A call of a function whose contract tells the result outright. -/
theorem W.callF {Q : Act → World → Prop} {f : FuncId} {xs : List A} {rc : List (Nat × Option Obj)} {new : List Nat} {y0 : A} {r0 : List (Nat × Option Obj)} (hS : Does P f xs rc new (Is y0 r0)) (hf : callOK P f = true)
    {g : List (Nat × Nat × Bool)} {ops : Array Oper} {i : Nat} {l : List Nat} {k : List Item} {τ : List (Nat × A)} {o : Oper} {vs : List A} (ho : ops.toList[i]? = some o) (hg : guardOf o g = some true)
    (hcal : callee τ o = some (f, vs)) (π : List (Nat × Nat)) (ld ns : List Nat) (hk : keys π = keys rc) (hchk : callChk us r π ld new ns rc = true) {nt : Nat} (hnt : nt = Γ.n) (hdst : dstOk nt g o.dst = true)
    (hargs : lentL π r ld vs xs) (hsub : subR π r rc) (hfl : ld = [] ∨ (y0.flat ∧ flatR r0))
    (h : W Γ P Q g (.inRegion ops l :: k) (putO o.dst (y0.ren (callRen (zipN new ns) π)) τ) (appR (renR (callRen (zipN new ns) π) r0) (gone (vals π) r)) (appN ns us)) :
    W Γ P Q g (.inRegion ops (i :: l) :: k) τ r us :=
  W.call hS hf ho hg hcal π ld ns hk hchk hnt hdst hargs hsub (hfl.imp id fun h y r' hY => by obtain ⟨rfl, rfl⟩ := hY; exact h) (fun y r' hY => by obtain ⟨rfl, rfl⟩ := hY; exact h)
end
end VX

/- VX 29: a table of types, checked by counting out. -/
namespace VX
open Go

mutual
def A.pureB : A → Bool
  | .int .. | .bool _ | .str _ | .nils | .nilp | .nilm | .nilf | .nili => true
  | .vec _ n g => (List.range n).all fun i => (g i).pureB
  | .agg ps => A.pureBL ps
  | _ => false
def A.pureBL : List A → Bool
  | [] => true
  | x :: xs => x.pureB && A.pureBL xs
end
mutual
def A.wfB : A → Bool
  | .vec sz n g => (List.range n).all fun i => (g i).wfB && (Nat.beq (g i).size sz && (g i).pureB)
  | .agg ps => A.wfBL ps
  | _ => true
def A.wfBL : List A → Bool
  | [] => true
  | x :: xs => x.wfB && A.wfBL xs
end
mutual
def A.sureB : A → Bool
  | .any => false
  | .tup _ => false
  | .agg ps => A.sureBL ps
  | _ => true
def A.sureBL : List A → Bool
  | [] => true
  | x :: xs => x.sureB && A.sureBL xs
end

mutual
theorem A.pureB_ok : ∀ (x : A), x.pureB = true → x.pureP
  | .vec _ n g, h => fun i hi => A.pureB_ok (g i) (by
    simp only [A.pureB, List.all_eq_true] at h
    exact h i (List.mem_range.2 hi))
  | .agg ps, h => A.pureBL_ok ps h
  | .int .., _ | .bool _, _ | .str _, _ | .nils, _ | .nilp, _ | .nilm, _ | .nilf, _ | .nili, _ => trivial
  | .ro .., h | .rol .., h | .own .., h | .owl .., h | .owk .., h | .ptr .., h | .vsl .., h | .rop _, h | .map _, h | .func .., h | .iface .., h | .tup _, h | .any, h => by simp [A.pureB] at h
theorem A.pureBL_ok : ∀ (l : List A), A.pureBL l = true → A.purePL l
  | [], _ => trivial
  | x :: xs, h => by
    rw [A.pureBL, Bool.and_eq_true] at h
    exact ⟨A.pureB_ok x h.1, A.pureBL_ok xs h.2⟩
end
mutual
theorem A.wfB_ok : ∀ (x : A), x.wfB = true → x.wf
  | .vec _ n g, h => fun i hi => by
    simp only [A.wfB, List.all_eq_true] at h
    have := h i (List.mem_range.2 hi)
    obtain ⟨h1, h2⟩ := andb this
    obtain ⟨h2, h3⟩ := andb h2
    exact ⟨A.wfB_ok (g i) h1, beqn h2, A.pureB_ok _ h3⟩
  | .agg ps, h => A.wfBL_ok ps h
  | .int .., _ | .bool _, _ | .str _, _ | .nils, _ | .nilp, _ | .nilm, _ | .nilf, _ | .nili, _ => trivial
  | .ro .., h | .rol .., h | .own .., h | .owl .., h | .owk .., h | .ptr .., h | .vsl .., h | .rop _, h | .map _, h | .func .., h | .iface .., h | .tup _, h | .any, h => trivial
theorem A.wfBL_ok : ∀ (l : List A), A.wfBL l = true → A.wfL l
  | [], _ => trivial
  | x :: xs, h => by
    rw [A.wfBL, Bool.and_eq_true] at h
    exact ⟨A.wfB_ok x h.1, A.wfBL_ok xs h.2⟩
end
mutual
theorem A.sureB_ok : ∀ (x : A), x.sureP → x.sureB = true
  | .agg ps, h => A.sureBL_ok ps h
  | .any, h => h.elim
  | .tup _, h => h.elim
  | .vec .., _ | .int .., _ | .bool _, _ | .str _, _ | .nils, _ | .nilp, _ | .nilm, _ | .nilf, _ | .nili, _ => rfl
  | .ro .., h | .rol .., h | .own .., h | .owl .., h | .owk .., h | .ptr .., h | .vsl .., h | .rop _, h | .map _, h | .func .., h | .iface .., h => rfl
theorem A.sureBL_ok : ∀ (l : List A), A.surePL l → A.sureBL l = true
  | [], _ => rfl
  | x :: xs, h => by rw [A.sureBL, A.sureB_ok x h.1, A.sureBL_ok xs h.2]; rfl
end

def zCell : A → Value → Bool
  | .int k n, .int k' n' => decide (k = k') && decide (n = n')
  | .bool a, .bool b => a == b
  | .str l, .string s => l.isEmpty && s.data.toList.isEmpty
  | .nils, .slice none 0 0 => true
  | .nilp, .pointer none => true
  | .nilm, .map none => true
  | .nilf, .nilFunc => true
  | .nili, .nilIface => true
  | .any, _ => true
  | _, _ => false
def zCells : List A → List Value → Bool
  | [], [] => true
  | x :: xs, v :: vs => zCell x v && zCells xs vs
  | _, _ => false
def zOK (x : A) (v : Value) : Bool := match isAgg x with
  | true => (match v with
    | .agg cs => x.wfB && zCells x.cells cs.toList
    | _ => false)
  | false => zCell x v

theorem zCell_ok {I : Imm} {ρ : Ren} {x : A} {v : Value} (h : zCell x v = true) : R I ρ x v := by
  unfold zCell at h
  split at h <;> (try (cases h; done)) <;> (try (constructor; done))
  · rw [Bool.and_eq_true, decide_eq_true_eq, decide_eq_true_eq] at h
    obtain ⟨rfl, rfl⟩ := h
    exact .int
  · have := eq_of_beq h
    subst this
    exact .bool
  · rename_i l s
    rw [Bool.and_eq_true, List.isEmpty_iff, List.isEmpty_iff] at h
    obtain ⟨rfl, h⟩ := h
    have : s = ⟨([] : List UInt8).toArray⟩ := by
      obtain ⟨d⟩ := s
      congr 1
      simpa using h
    rw [this]
    exact .str
theorem zCells_ok {I : Imm} {ρ : Ren} : ∀ {xs : List A} {vs : List Value}, zCells xs vs = true → RL I ρ xs vs
  | [], [], _ => .nil
  | x :: xs, v :: vs, h => by
    rw [zCells, Bool.and_eq_true] at h
    exact .cons (zCell_ok h.1) (zCells_ok h.2)
  | [], _ :: _, h => by simp [zCells] at h
  | _ :: _, [], h => by simp [zCells] at h
theorem zOK_ok {I : Imm} {ρ : Ren} {x : A} {v : Value} (h : zOK x v = true) : R I ρ x v := by
  unfold zOK at h
  split at h
  · rename_i hx
    split at h
    · obtain ⟨h1, h2⟩ := andb h
      have := R.agg hx (A.wfB_ok x h1) (zCells_ok (I := I) (ρ := ρ) h2)
      simpa using this
    · cases h
  · exact zCell_ok h

def places : Nat → List A → List (Nat × Nat)
  | _, [] => []
  | o, x :: xs => (o, x.size) :: places (o + x.size) xs
theorem places_get : ∀ {zs : List A} {o : Nat}, (places o zs).length = zs.length ∧ ∀ (i : Nat) (x : A), zs[i]? = some x → (places o zs)[i]? = some (o + A.sizeL (zs.take i), x.size)
  | [], o => ⟨rfl, by simp⟩
  | z :: zs, o => by
    obtain ⟨h1, h2⟩ := places_get (zs := zs) (o := o + z.size)
    refine ⟨by simp [places, h1], fun i x hx => ?_⟩
    cases i with
    | zero =>
      simp at hx
      subst hx
      simp [places, A.sizeL]
    | succ i =>
      have := h2 i x (by simpa using hx)
      simp only [places, List.getElem?_cons_succ, this, List.take_succ_cons, A.sizeL, Nat.add_assoc]

def bldB (P : Program) (t : Nat) (ti : TI) : Bool :=
  match ti.d, ti.zero with
  | .struct _, .agg zs => (match P.underlying t with
    | some (.struct u) => (match u.toList.mapM (fun f => (P.info? f.type).map fun i => (f.offset, i.size)) with
      | some pl => decide (pl = places 0 zs)
      | none => false)
    | _ => false)
  | _, _ => true

/-- Is what the table tells of a type so? -/
def chkTI (P : Program) (t : Nat) (ti : TI) : Bool :=
  (match P.underlying t with
    | some u => decide (tdOf u = ti.d)
    | none => false) &&
  ((match P.info? t with
    | some i => Nat.beq i.size ti.size && (Nat.beq i.bytes ti.bytes && (!ti.zero.sureB || (match i.zero with
      | some z => zOK ti.zero z && (Nat.beq ti.zero.size ti.size && ti.zero.pureB)
      | none => false)))
    | none => false) &&
  (bldB P t ti && (!ti.eqok || (!P.eqGuardType P.depth t && eqTypeOK P 10 t))))

theorem chkTI_ok {P : Program} {t : Nat} {ti : TI} (h : chkTI P t ti = true) : TIok P t ti := by
  unfold chkTI at h
  obtain ⟨h1, h⟩ := andb h
  obtain ⟨h2, h⟩ := andb h
  obtain ⟨h3, h4⟩ := andb h
  refine ⟨?_, ?_, fun fs zs hd hz => ?_, fun he => ?_⟩
  · split at h1
    · rename_i u hu
      exact ⟨u, hu, of_decide_eq_true h1⟩
    · cases h1
  · split at h2
    · rename_i i hi
      obtain ⟨a, b⟩ := andb h2
      obtain ⟨b, c⟩ := andb b
      refine ⟨i, hi, beqn a, beqn b, fun hs => ?_⟩
      rw [A.sureB_ok _ hs] at c
      simp only [Bool.not_true, Bool.false_or] at c
      split at c
      · rename_i z hz
        obtain ⟨c1, c2⟩ := andb c
        obtain ⟨c2, c3⟩ := andb c2
        exact ⟨z, hz, fun I ρ => zOK_ok c1, beqn c2, A.pureB_ok _ c3⟩
      · cases c
    · cases h2
  · unfold bldB at h3
    rw [hd, hz] at h3
    simp only at h3
    split at h3
    · rename_i u hu
      split at h3
      · rename_i pl hpl
        have := of_decide_eq_true h3
        subst this
        obtain ⟨k1, k2⟩ := places_get (zs := zs) (o := 0)
        exact ⟨u, _, hu, hpl, k1, fun i x hx => by simpa using k2 i x hx⟩
      · cases h3
    · cases h3
  · rw [he] at h4
    simp only [Bool.not_true, Bool.false_or, Bool.and_eq_true, Bool.not_eq_true'] at h4
    exact h4

def chkTab (P : Program) : Nat → List TI → Bool
  | _, [] => true
  | t, ti :: l => chkTI P t ti && chkTab P (t + 1) l
theorem chkTab_nth {P : Program} : ∀ {l : List TI} {k : Nat}, chkTab P k l = true → ∀ t ti, nth l t = some ti → TIok P (k + t) ti
  | [], k, _, t, ti, h => by simp [nth] at h
  | x :: xs, k, hc, t, ti, h => by
    obtain ⟨h1, h2⟩ := andb hc
    cases t with
    | zero =>
      simp [nth] at h
      subst h
      exact chkTI_ok h1
    | succ t =>
      have e : Nat.beq (t + 1) 0 = false := rfl
      simp only [nth, e, cond_false, Nat.add_sub_cancel] at h
      have := chkTab_nth h2 t ti h
      rwa [show k + (t + 1) = k + 1 + t by omega]
theorem TabOK.of_chk {P : Program} {l : List TI} (h : chkTab P 0 l = true) : TabOK P l := fun t ti ht => by
  have := chkTab_nth h t ti ht
  rwa [Nat.zero_add] at this
end VX

/- VX 30: the arguments of a statement; a statement from what its function does. -/
namespace VX
open Go

mutual
/-- The shapes of arguments. -/
inductive Sh where
  | int (k : IntKind) | bool | str | slice (e : Sh) | arr (n : Nat) (e : Sh) | strct (l : ShL)
inductive ShL where
  | nil | cons (s : Sh) (l : ShL)
end
mutual
def Sh.size : Sh → Nat
  | .arr n e => n * e.size
  | .strct l => l.size
  | _ => 1
def ShL.size : ShL → Nat
  | .nil => 0
  | .cons s l => s.size + l.size
end
mutual
/-- x has that shape. -/
def Shaped : Sh → A → Prop
  | .int k, x => ∃ n, x = .int k n ∧ inr k n
  | .bool, x => ∃ b, x = .bool b
  | .str, x => ∃ l, x = .str l ∧ l.length ≤ 9223372036854775807
  | .slice e, x => ∃ n g, x = .ro e.size n g ∧ n ≤ 9223372036854775807 ∧ ∀ i, i < n → Shaped e (g i)
  | .arr n e, x => ∃ g, x = .vec e.size n g ∧ ∀ i, i < n → Shaped e (g i)
  | .strct l, x => ∃ ps, x = .agg ps ∧ ShapedL l ps
def ShapedL : ShL → List A → Prop
  | .nil, ps => ps = []
  | .cons s l, ps => ∃ x xs, ps = x :: xs ∧ Shaped s x ∧ ShapedL l xs
end
mutual
/-- How much of it there is (for statements about small arguments). -/
def weight : A → Nat
  | .str l => l.length + 1
  | .ro _ n g => ((List.range n).map fun i => weight (g i)).sum + 1
  | .vec _ n g => ((List.range n).map fun i => weight (g i)).sum + 1
  | .agg ps => weightL ps + 1
  | _ => 1
def weightL : List A → Nat
  | [] => 0
  | x :: xs => weight x + weightL xs
end
mutual
def bulk {H : Type} : DataW H → Nat
  | .lit (.string bytes) => bytes.length + 1
  | .lit _ => 1
  | .nil => 1
  | .ptr d => bulk d + 1
  | .slice elems spare => bulkL elems + bulkL spare + 1
  | .agg parts => bulkL parts + 1
  | .iface _ d => bulk d + 1
  | .map entries => bulkE entries + 1
  | .held _ => 1
def bulkL {H : Type} : List (DataW H) → Nat
  | [] => 0
  | d :: r => bulk d + bulkL r
def bulkE {H : Type} : List (Lit × DataW H) → Nat
  | [] => 0
  | x :: r => bulk1 x + bulkE r
def bulk1 {H : Type} : Lit × DataW H → Nat
  | (.string bytes, d) => bytes.length + bulk d + 1
  | (_, d) => bulk d + 1
end
theorem bulkL_sum {H : Type} : ∀ (l : List (DataW H)), bulkL l = (l.map bulk).sum
  | [] => by simp [bulkL]
  | d :: l => by simp [bulkL, bulkL_sum l]

mutual
/-- The type t has that shape. -/
def shOK (P : Program) : Sh → TypeId → Bool
  | .int k, t => (match P.underlying t with
    | some (.int k') => decide (k' = k)
    | _ => false)
  | .bool, t => (match P.underlying t with
    | some .bool => true
    | _ => false)
  | .str, t => (match P.underlying t with
    | some .string => true
    | _ => false)
  | .slice e, t => (match P.underlying t with
    | some (.slice et) => shOK P e et && (Nat.beq (P.cellsOf et) e.size && Nat.blt 0 e.size)
    | _ => false)
  | .arr n e, t => (match P.underlying t with
    | some (.array m et) => decide (m = n) && (shOK P e et && (Nat.beq (P.cellsOf et) e.size && Nat.beq (P.cellsOf t) (n * e.size)))
    | _ => false)
  | .strct l, t => (match P.underlying t with
    | some (.struct fs) => shOKL P l fs.toList 0 && Nat.beq (P.cellsOf t) l.size
    | _ => false)
def shOKL (P : Program) : ShL → List Field → Nat → Bool
  | .nil, [], _ => true
  | .cons s l, f :: fs, o => Nat.beq f.offset o && (shOK P s f.type && (Nat.beq (P.cellsOf f.type) s.size && shOKL P l fs (o + s.size)))
  | _, _, _ => false
end

/-- Every cell that is there. -/
def allI (w : World) : Imm := fun b o => w.cell? ⟨b, o, none⟩

structure Opened (w : World) (s : Sh) (cs : List Value) (n : Nat) (x : A) : Prop where
  sh : Shaped s x
  wf : x.wf
  size : x.size = s.size
  pure : x.pureP
  cells : RL (allI w) nr x.cells cs
  one : ∀ c ∈ cs, c.oneCell' = true
  wt : weight x ≤ n

section
variable {H : Type} {enc : TypeId × Value → H} {P : Program} {w : World} {base : Nat} {spare : Nat → Bool} {held : Bool}

theorem sum_le {f g : Nat → Nat} : ∀ (l : List Nat), (∀ i ∈ l, f i ≤ g i) → (l.map f).sum ≤ (l.map g).sum
  | [], _ => by simp
  | i :: l, h => by
    have h1 := h i List.mem_cons_self
    have h2 := sum_le l fun j hj => h j (List.mem_cons_of_mem _ hj)
    simp only [List.map_cons, List.sum_cons]
    omega

def optF {α : Type} (f : α → Nat) : Option α → Nat
  | some x => f x
  | none => 0
theorem sum_range {α : Type} (f : α → Nat) : ∀ (l : List α), (l.map f).sum = ((List.range l.length).map fun i => optF f l[i]?).sum
  | [] => by simp
  | x :: l => by
    rw [List.length_cons, List.range_succ_eq_map, List.map_cons, List.map_cons, List.sum_cons, List.sum_cons, List.map_map, sum_range f l]
    rfl

theorem choose_fun {p : Nat → A → Prop} {n : Nat} (h : ∀ i, i < n → ∃ x, p i x) : ∃ g : Nat → A, ∀ i, i < n → p i (g i) := by
  classical
  refine ⟨fun i => if hi : i < n then Classical.choose (h i hi) else .any, fun i hi => ?_⟩
  simp only [dif_pos hi]
  exact Classical.choose_spec (h i hi)

theorem cellsOf_eq {e : TypeId} {n : Nat} (h : Nat.beq (P.cellsOf e) n = true) : P.cellsOf e = n := Nat.eq_of_beq_eq_true h

mutual
theorem open_sh : ∀ (s : Sh) (t : TypeId) (fuel : Nat) (cs : List Value) (y : DataW H × List MemPlace), shOK P s t = true → DataW.trod enc P w base spare held fuel t cs = some y → ∃ x, Opened w s cs (bulk y.1) x
  | .int k, t, fuel, cs, y, hs, h => by
    simp only [shOK] at hs
    split at hs
    · rename_i k' hk
      have := of_decide_eq_true hs
      subst this
      obtain ⟨n, rfl, rfl, hwf⟩ := DataW.trod_int hk h
      simp only [Lit.wf, Bool.and_eq_true, decide_eq_true_eq] at hwf
      exact ⟨.int k' n, ⟨n, rfl, hwf⟩, trivial, rfl, trivial, .cons .int .nil, by simp [Value.oneCell'], by simp [weight, bulk]⟩
    · cases hs
  | .bool, t, fuel, cs, y, hs, h => by
    simp only [shOK] at hs
    split at hs
    · rename_i hk
      obtain ⟨b, rfl, rfl⟩ := DataW.trod_bool hk h
      exact ⟨.bool b, ⟨b, rfl⟩, trivial, rfl, trivial, .cons .bool .nil, by simp [Value.oneCell'], by simp [weight, bulk]⟩
    · cases hs
  | .str, t, fuel, cs, y, hs, h => by
    simp only [shOK] at hs
    split at hs
    · rename_i hk
      obtain ⟨s, rfl, rfl, hl⟩ := DataW.trod_string hk h
      have e : s = ⟨s.data.toList.toArray⟩ := by rw [Array.toArray_toList]
      refine ⟨.str s.data.toList, ⟨_, rfl, ?_⟩, trivial, rfl, trivial, .cons ?_ .nil, by simp [Value.oneCell'], by simp [weight, bulk]⟩
      · have : s.data.toList.length = s.size := Array.length_toList
        rw [this]
        unfold maxLen at hl
        omega
      · have := R.str (I := allI w) (ρ := nr) (l := s.data.toList)
        rwa [← e] at this
    · cases hs
  | .slice e, t, fuel, cs, y, hs, h => by
    simp only [shOK] at hs
    split at hs
    · rename_i et hk
      obtain ⟨hse, hsz⟩ := andb hs
      obtain ⟨hsz, hpos⟩ := andb hsz
      have hpos := blt_lt hpos
      have hsz := cellsOf_eq hsz
      rcases DataW.trod_slice hk h with ⟨rfl, rfl⟩ | ⟨a, len, cap, elems, rest, n, rfl, rfl, rfl, _, hlc, hcm, hel, hei, _, _⟩
      · exact ⟨.ro e.size 0 (fun _ => .any), ⟨0, _, rfl, by omega, by omega⟩, trivial, rfl, trivial, .cons .ro0 .nil, by simp [Value.oneCell'], by simp [weight, bulk]⟩
      · have hx : ∀ i, i < len → ∃ x, ∃ ds y, elems[i]? = some y ∧ ds.length = e.size ∧ (∀ j, j < e.size → w.cell? ((a.add (i * e.size)).add j) = ds[j]?) ∧ Opened w e ds (bulk y.1) x := fun i hi => by
          have := hei i hi
          rw [hsz] at this
          have hlt : i < elems.length := by omega
          rw [List.getElem?_eq_getElem hlt] at this
          cases hc : w.cells? base (a.add (i * e.size)) e.size with
          | none => rw [hc] at this; simp at this
          | some ds =>
            rw [hc] at this
            simp only [Option.bind_some] at this
            obtain ⟨_, h1, h2⟩ := World.cells?_some hc
            obtain ⟨x, hx⟩ := open_sh e et n ds elems[i] hse this
            exact ⟨x, ds, elems[i], List.getElem?_eq_getElem hlt, h1, h2, hx⟩
        obtain ⟨g, hg⟩ := choose_fun hx
        refine ⟨.ro e.size len g, ⟨len, g, rfl, by unfold maxLen at hcm; omega, fun i hi => ?_⟩, trivial, rfl, trivial, ?_, by simp [Value.oneCell'], ?_⟩
        · obtain ⟨_, _, _, _, _, ho⟩ := hg i hi
          exact ho.sh
        · refine .cons ?_ .nil
          by_cases h0 : len = 0
          · subst h0; exact .ro0
          · by_cases he : e.size = 0
            · omega
            · have hsp : a.spot = none := by
                obtain ⟨ds, y, _, hl, hc, ho⟩ := hg 0 (by omega)
                have := hc 0 (by omega)
                rw [List.getElem?_eq_getElem (by omega)] at this
                have := World.cell?_spot this
                simpa [Addr.add] using this
              obtain ⟨b, o, sp⟩ := a
              simp only at hsp
              subst hsp
              refine .ro hlc (fun i hi => ?_) (fun i hi => ?_)
              · obtain ⟨_, _, _, _, _, ho⟩ := hg i hi
                exact ⟨ho.wf, ho.size, ho.pure⟩
              · obtain ⟨ds, y, _, hl, hc, ho⟩ := hg i hi
                refine RA.of ho.cells fun j u hu => ⟨?_, ho.one u (List.mem_of_getElem? hu)⟩
                have hj : j < e.size := by
                  rw [← hl]
                  exact (List.getElem?_eq_some_iff.1 hu).1
                have := hc j hj
                rw [add_none, add_none, hu] at this
                exact this
        · simp only [weight, bulk]
          rw [bulkL_sum, List.map_map, sum_range (bulk ∘ fun x => x.1) elems, hel]
          have := sum_le (f := fun i => weight (g i)) (g := fun i => optF (bulk ∘ fun x => x.1) elems[i]?) (List.range len) (fun i hi => by
            obtain ⟨_, y, hy, _, _, ho⟩ := hg i (List.mem_range.1 hi)
            simp only [hy]
            exact ho.wt)
          omega
    · cases hs
  | .arr n e, t, fuel, cs, y, hs, h => by
    simp only [shOK] at hs
    split at hs
    · rename_i m et hk
      obtain ⟨h1, hs⟩ := andb hs
      obtain ⟨hse, hs⟩ := andb hs
      obtain ⟨hsz, hst⟩ := andb hs
      have := of_decide_eq_true h1
      subst this
      have hsz := cellsOf_eq hsz
      have hst := cellsOf_eq hst
      obtain ⟨xs, k, rfl, rfl, hl, hxl, hxi⟩ := DataW.trod_array hk h
      rw [hst] at hl
      have hx : ∀ i, i < m → ∃ x, ∃ y, xs[i]? = some y ∧ Opened w e ((cs.drop (i * e.size)).take e.size) (bulk y.1) x := fun i hi => by
        have := hxi i hi
        rw [hsz] at this
        have hlt : i < xs.length := by omega
        rw [List.getElem?_eq_getElem hlt] at this
        obtain ⟨x, hx⟩ := open_sh e et k _ xs[i] hse this
        exact ⟨x, xs[i], List.getElem?_eq_getElem hlt, hx⟩
      obtain ⟨g, hg⟩ := choose_fun hx
      refine ⟨.vec e.size m g, ⟨g, rfl, fun i hi => ?_⟩, fun i hi => ?_, rfl, fun i hi => ?_, ?_, fun c hc => ?_, ?_⟩
      · obtain ⟨_, _, ho⟩ := hg i hi
        exact ho.sh
      · obtain ⟨_, _, ho⟩ := hg i hi
        exact ⟨ho.wf, ho.size, ho.pure⟩
      · obtain ⟨_, _, ho⟩ := hg i hi
        exact ho.pure
      · exact RL.vec m hl fun i hi => by
          obtain ⟨_, _, ho⟩ := hg i hi
          exact ho.cells
      · obtain ⟨j, hj⟩ := List.getElem?_of_mem hc
        have hjl := (List.getElem?_eq_some_iff.1 hj).1
        obtain ⟨i, q, hi, hq, rfl⟩ := getElem?_mul_add hl (by omega : j < m * e.size)
        obtain ⟨_, _, ho⟩ := hg i hi
        refine ho.one c (List.mem_of_getElem? (i := q) ?_)
        rw [slice_get, if_pos hq]
        exact hj
      · simp only [weight, bulk]
        rw [bulkL_sum, List.map_map, sum_range (bulk ∘ fun x => x.1) xs, hxl]
        have := sum_le (f := fun i => weight (g i)) (g := fun i => optF (bulk ∘ fun x => x.1) xs[i]?) (List.range m) (fun i hi => by
          obtain ⟨y, hy, ho⟩ := hg i (List.mem_range.1 hi)
          simp only [hy]
          exact ho.wt)
        omega
    · cases hs
  | .strct l, t, fuel, cs, y, hs, h => by
    simp only [shOK] at hs
    split at hs
    · rename_i fs hk
      obtain ⟨hsl, hst⟩ := andb hs
      have hst := cellsOf_eq hst
      obtain ⟨xs, k, rfl, rfl, hl, hxl, hxi⟩ := DataW.trod_struct hk h
      rw [hst] at hl
      obtain ⟨ps, h1, h2, h3, h4, h5, h6⟩ := open_shL l fs.toList 0 k cs xs hsl (by simpa using hxl) (fun i f hf => hxi i f (by simpa using hf)) (by omega)
      refine ⟨.agg ps, ⟨ps, rfl, h1⟩, h2, h3, h4, ?_, ?_, ?_⟩
      · have e : (cs.drop 0).take l.size = cs := by rw [List.drop_zero, List.take_of_length_le (by omega)]
        rw [e] at h5
        exact h5.1
      · have e : (cs.drop 0).take l.size = cs := by rw [List.drop_zero, List.take_of_length_le (by omega)]
        rw [e] at h5
        exact h5.2
      · simp only [weight, bulk]
        rw [bulkL_sum, List.map_map]
        have : (List.map bulk (List.map (fun x => x.1) xs)).sum = (List.map (bulk ∘ fun x => x.1) xs).sum := by rw [List.map_map]
        omega
    · cases hs
theorem open_shL : ∀ (l : ShL) (fs : List Field) (o fuel : Nat) (cs : List Value) (xs : List (DataW H × List MemPlace)), shOKL P l fs o = true → xs.length = fs.length →
    (∀ (i : Nat) (f : Field), fs[i]? = some f → DataW.trod enc P w base spare held fuel f.type ((cs.drop f.offset).take (P.cellsOf f.type)) = xs[i]?) → o + l.size ≤ cs.length →
    ∃ ps, ShapedL l ps ∧ A.wfL ps ∧ A.sizeL ps = l.size ∧ A.purePL ps ∧ (RL (allI w) nr (A.cellsL ps) ((cs.drop o).take l.size) ∧ ∀ c ∈ (cs.drop o).take l.size, c.oneCell' = true) ∧ weightL ps ≤ (xs.map (bulk ∘ fun x => x.1)).sum
  | .nil, [], o, fuel, cs, xs, _, _, _, _ => ⟨[], rfl, trivial, rfl, trivial, ⟨by simpa [A.cellsL, ShL.size] using RL.nil, by simp [ShL.size]⟩, by simp [weightL]⟩
  | .cons s l, f :: fs, o, fuel, cs, xs, hs, hxl, hx, hl => by
    simp only [shOKL] at hs
    obtain ⟨h1, hs⟩ := andb hs
    obtain ⟨h2, hs⟩ := andb hs
    obtain ⟨h3, h4⟩ := andb hs
    have h1 := Nat.eq_of_beq_eq_true h1
    have h3 := cellsOf_eq h3
    cases xs with
    | nil => simp at hxl
    | cons y ys =>
      simp only [ShL.size] at hl
      have hy := hx 0 f rfl
      rw [h1, h3] at hy
      obtain ⟨x, ho⟩ := open_sh s f.type fuel _ y h2 hy
      obtain ⟨ps, k1, k2, k3, k4, k5, k6⟩ := open_shL l fs (o + s.size) fuel cs ys h4 (by simpa using hxl) (fun i f' hf => by simpa using hx (i + 1) f' (by simpa using hf)) (by omega)
      have e : (cs.drop o).take (s.size + l.size) = (cs.drop o).take s.size ++ (cs.drop (o + s.size)).take l.size := by
        rw [List.take_add, List.drop_drop]
      refine ⟨x :: ps, ⟨x, ps, rfl, ho.sh, k1⟩, ⟨ho.wf, k2⟩, by simp [A.sizeL, ShL.size, ho.size, k3], ⟨ho.pure, k4⟩, ⟨?_, ?_⟩, ?_⟩
      · simp only [A.cellsL, ShL.size, e]
        exact RL.append ho.cells k5.1
      · simp only [ShL.size, e]
        intro c hc
        rcases List.mem_append.1 hc with hc | hc
        · exact ho.one c hc
        · exact k5.2 c hc
      · simp only [weightL, List.map_cons, List.sum_cons]
        have := ho.wt
        show _ ≤ bulk y.1 + _
        omega
  | .nil, _ :: _, _, _, _, _, hs, _, _, _ => by simp [shOKL] at hs
  | .cons _ _, [], _, _, _, _, hs, _, _, _ => by simp [shOKL] at hs
end
end
end VX

/- VX 31: a statement from what its function does; numbers. -/
namespace VX
open Go Go.RowKit

section
variable {H : Type} {enc : TypeId × Value → H} {P : Program} {w : World} {base : Nat} {spare : Nat → Bool} {held : Bool}

/-- What a statement's function comes back with: true. -/
def Yes (y : A) (r : List (Nat × Option Obj)) : Prop := y = .bool true

theorem law_calls {f : FuncId} {xs : List A} (hf : Does P f xs [] [] Yes) {args : List Value} (ha : RL (allI w) nr xs args) :
    Calls P f args.toArray w fun e w' => e = .returned (.bool true) ∧ Below w.heap.size w w' := by
  have hR : RW (entry w (allI w) nr (keys ([] : List (Nat × Option Obj))) (nOf P f)) (allI w) nr [] (keys ([] : List (Nat × Option Obj))) w :=
    ⟨fun b o v h => h, fun n ob h => by simp [look] at h, fun m n ob ob' b N N' h => by simp [look] at h, fun n _ => rfl, ⟨Nat.le_refl _, fun _ _ _ => rfl, fun _ _ _ _ => rfl, Imm.le.refl _, rfl, rfl, rfl⟩, fun n l _ h => h⟩
  refine (hf (allI w) nr w args ha hR).mono fun e w' h => ?_
  cases e with
  | returned v =>
    obtain ⟨y, r, I, ρ, hY, hv, hW⟩ := h
    cases hY
    cases hv.bool_inv
    refine ⟨rfl, hW.frame.os, hW.frame.tape, hW.frame.output, hW.frame.size, fun k hk => hW.frame.blocks k hk ?_⟩
    rintro ⟨n, N, h1, _⟩
    simp [keys, hasN] at h1
  | panicked chain => exact h.elim
  | outgrown => exact h.elim

theorem cells_of_not_agg {v : Value} (h : ∀ cs, v ≠ .agg cs) : v.cells = #[v] := by
  cases v <;> first | rfl | exact absurd rfl (h _)

theorem okWide_plain {r : Reach} {t : TypeId} {u : TypeDesc} {v : Value} (hu : P.underlying t = some u) (h1 : ∀ fs, u ≠ .struct fs) (h2 : ∀ n e, u ≠ .array n e) (h : Value.okWide P w r base t v) : ∀ cs, v ≠ .agg cs := by
  rintro cs rfl
  unfold Value.okWide at h
  rw [hu] at h
  cases u <;> simp only [Cell.okWide, hu, Cell.ok] at h <;> first | exact h.elim | exact absurd rfl (h1 _) | exact absurd rfl (h2 _ _) | (simp at h)

theorem RL.one_cells {I : Imm} {ρ : Ren} {x : A} {v : Value} (hx : isAgg x = false) (hv : v.cells = #[v]) (h : RL I ρ x.cells v.cells.toList) : R I ρ x v := by
  rw [cells_of_one hx, hv] at h
  obtain ⟨u, hu, hr⟩ := h.one_inv
  simp only [List.cons.injEq, and_true] at hu
  rw [hu]; exact hr

/-- An argument of a statement. -/
theorem open_arg {r : Reach} {b0 : Nat} {s : Sh} {t : TypeId} {v : Value} {d : DataW H} {ps : List MemPlace} (hs : shOK P s t = true) (hval : Value.okWide P w r b0 t v) (hd : DataW.Trod enc P w base spare held t v d ps) :
    ∃ x, Shaped s x ∧ R (allI w) nr x v ∧ weight x ≤ bulk d := by
  obtain ⟨fuel, hf⟩ := hd
  obtain ⟨x, ho⟩ := open_sh s t fuel _ _ hs hf
  refine ⟨x, ho.sh, ?_, ho.wt⟩
  have hs' := ho.sh
  cases s with
  | int k =>
    simp only [shOK] at hs
    split at hs
    · rename_i k' hk
      obtain ⟨n, rfl, _⟩ := hs'
      exact RL.one_cells rfl (cells_of_not_agg (okWide_plain hk (by simp) (by simp) hval)) ho.cells
    · cases hs
  | bool =>
    simp only [shOK] at hs
    split at hs
    · rename_i hk
      obtain ⟨n, rfl⟩ := hs'
      exact RL.one_cells rfl (cells_of_not_agg (okWide_plain hk (by simp) (by simp) hval)) ho.cells
    · cases hs
  | str =>
    simp only [shOK] at hs
    split at hs
    · rename_i hk
      obtain ⟨n, rfl, _⟩ := hs'
      exact RL.one_cells rfl (cells_of_not_agg (okWide_plain hk (by simp) (by simp) hval)) ho.cells
    · cases hs
  | slice e =>
    simp only [shOK] at hs
    split at hs
    · rename_i et hk
      obtain ⟨n, g, rfl, _⟩ := hs'
      exact RL.one_cells rfl (cells_of_not_agg (okWide_plain hk (by simp) (by simp) hval)) ho.cells
    · cases hs
  | arr n e =>
    simp only [shOK] at hs
    split at hs
    · rename_i m et hk
      obtain ⟨g, rfl, _⟩ := hs'
      have : ∃ cs, v = .agg cs := by
        unfold Value.okWide at hval
        rw [hk] at hval
        obtain ⟨cs, h, _⟩ := hval
        exact ⟨cs, h⟩
      obtain ⟨cs, rfl⟩ := this
      have := R.agg (x := .vec e.size n g) rfl ho.wf ho.cells
      simpa [Value.cells] using this
    · cases hs
  | strct l =>
    simp only [shOK] at hs
    split at hs
    · rename_i fs hk
      obtain ⟨qs, rfl, _⟩ := hs'
      have : ∃ cs, v = .agg cs := by
        unfold Value.okWide at hval
        rw [hk] at hval
        obtain ⟨cs, h, _⟩ := hval
        exact ⟨cs, h⟩
      obtain ⟨cs, rfl⟩ := this
      have := R.agg (x := .agg qs) rfl ho.wf ho.cells
      simpa [Value.cells] using this
    · cases hs
end

/-! ### numbers -/
theorem inr_i64 {n : Int} : inr .i64 n ↔ -9223372036854775808 ≤ n ∧ n ≤ 9223372036854775807 := by simp [inr, IntKind.min, IntKind.max, IntKind.signed, IntKind.bits]
theorem inr_u64 {n : Int} : inr .u64 n ↔ 0 ≤ n ∧ n ≤ 18446744073709551615 := by simp [inr, IntKind.min, IntKind.max, IntKind.signed, IntKind.bits]
theorem inr_u8 {n : Int} : inr .u8 n ↔ 0 ≤ n ∧ n ≤ 255 := by simp [inr, IntKind.min, IntKind.max, IntKind.signed, IntKind.bits]
theorem wrap_u8 (n : Int) : IntKind.u8.wrap n = n % 256 := by simp [IntKind.wrap, IntKind.signed, IntKind.bits]
theorem wrap_u64 (n : Int) : IntKind.u64.wrap n = n % 18446744073709551616 := by simp [IntKind.wrap, IntKind.signed, IntKind.bits]
theorem wrap_i64 (n : Int) : IntKind.i64.wrap n = if 9223372036854775808 ≤ n % 18446744073709551616 then n % 18446744073709551616 - 18446744073709551616 else n % 18446744073709551616 := by
  simp [IntKind.wrap, IntKind.signed, IntKind.bits]
theorem wrap_i64_in {n : Int} (h : -9223372036854775808 ≤ n) (h' : n ≤ 9223372036854775807) : IntKind.i64.wrap n = n := wrap_inr (inr_i64.2 ⟨h, h'⟩)
theorem wrap_u64_in {n : Int} (h : 0 ≤ n) (h' : n ≤ 18446744073709551615) : IntKind.u64.wrap n = n := wrap_inr (inr_u64.2 ⟨h, h'⟩)
end VX

