/- A symbolic executor for the model's code, and its soundness (part 5 of 7): a general tool, no statement about this program. -/
import Derived.Test.YtfmoafpnhndinaaVxD
set_option linter.unusedSimpArgs false
set_option linter.unusedVariables false
/- VX 24: a state seen as another; loops. -/
namespace VX
open Go

theorem RA.of {I : Imm} {ρ : Ren} {b : Nat} : ∀ {xs : List A} {us : List Value} {o : Nat}, RL I ρ xs us → (∀ j u, us[j]? = some u → I b (o + j) = some u ∧ u.oneCell' = true) → RA I ρ xs b o
  | _, _, _, .nil, _ => .nil
  | _, _, o, .cons a t, h => .cons (by simpa using (h 0 _ rfl).1) (h 0 _ rfl).2 a (RA.of t fun j u hu => by
      have := h (j + 1) u (by simpa using hu)
      rwa [show o + (j + 1) = o + 1 + j by omega] at this)

/-- y may stand where x stands. -/
structure A.Sim (x y : A) : Prop where
  agg : isAgg y = isAgg x
  size : y.size = x.size
  ok : x.wf → x.pureP → y.wf ∧ y.pureP
  cells : x.wf → x.pureP → ∀ I vs, RL I nr x.cells vs → RL I nr y.cells vs
def A.sim (x y : A) : Prop := A.Sim x y
theorem A.sim.refl (x : A) : x.sim x := ⟨rfl, rfl, fun a b => ⟨a, b⟩, fun _ _ _ _ h => h⟩
theorem A.sim.of {x y : A} (h : x = y) : x.sim y := h ▸ A.sim.refl x
theorem A.sim.trans {x y z : A} (h : x.sim y) (k : y.sim z) : x.sim z :=
  ⟨(Sim.agg k).trans (Sim.agg h), (Sim.size k).trans (Sim.size h), fun a b => Sim.ok k (Sim.ok h a b).1 (Sim.ok h a b).2, fun a b I vs q => Sim.cells k (Sim.ok h a b).1 (Sim.ok h a b).2 I vs (Sim.cells h a b I vs q)⟩
theorem A.sim.three {x y : A} {sz : Nat} (h : x.sim y) (hx : x.wf ∧ x.size = sz ∧ x.pureP) : y.wf ∧ y.size = sz ∧ y.pureP :=
  ⟨(Sim.ok h hx.1 hx.2.2).1, (Sim.size h).trans hx.2.1, (Sim.ok h hx.1 hx.2.2).2⟩
theorem A.sim.RL {x y : A} (h : x.sim y) (hw : x.wf) (hp : x.pureP) {I : Imm} {ρ ρ' : Ren} {vs : List Value} (hr : RL I ρ x.cells vs) : RL I ρ' y.cells vs :=
  (Sim.cells h hw hp I vs (hr.pure (cells_pureP hw hp))).mono (Imm.le.refl I) (Ren.le.nr ρ')
theorem A.sim.RA {x y : A} (h : x.sim y) (hw : x.wf) (hp : x.pureP) {I : Imm} {b o : Nat} (hr : RA I nr x.cells b o) : RA I nr y.cells b o :=
  let ⟨_, h1, h2⟩ := hr.get
  RA.of (Sim.cells h hw hp I _ h1) h2
theorem A.sim.R {x y : A} (h : x.sim y) (hp : x.pureP) {I : Imm} {ρ : Ren} {v : Value} (hr : R I ρ x v) : R I ρ y v := by
  cases hx : isAgg x with
  | true =>
    obtain ⟨vs, rfl, hw, hc⟩ := hr.agg_inv hx
    exact .agg ((Sim.agg h).trans hx) (Sim.ok h hw hp).1 (A.sim.RL h hw hp hc)
  | false =>
    have h1 := A.sim.RL (ρ' := ρ) h hr.wf hp (by rw [cells_of_one hx]; exact RL.cons hr .nil)
    rw [cells_of_one ((Sim.agg h).trans hx)] at h1
    obtain ⟨u, hu, h2⟩ := h1.one_inv
    cases hu
    exact h2
theorem A.sim.ro {sz n : Nat} {g g' : Nat → A} (h : ∀ i, i < n → (g i).sim (g' i)) : (A.ro sz n g).sim (.ro sz n g') := by
  refine ⟨rfl, rfl, fun _ _ => ⟨trivial, trivial⟩, fun _ _ I vs hr => ?_⟩
  simp only [A.cells] at hr ⊢
  obtain ⟨u, rfl, h1⟩ := hr.one_inv
  refine .cons ?_ .nil
  cases h1 with
  | agg h1 _ _ => cases h1
  | ro a b c => exact .ro a (fun i hi => (h i hi).three (b i hi)) (fun i hi => (h i hi).RA (b i hi).1 (b i hi).2.2 (c i hi))
  | ro0 => exact .ro0
theorem vec_sim {sz : Nat} {g g' : Nat → A} {I : Imm} : ∀ (n : Nat) (vs : List Value), (∀ i, i < n → (g i).sim (g' i)) → (∀ i, i < n → (g i).wf ∧ (g i).size = sz ∧ (g i).pureP) →
    RL I nr ((List.range n).flatMap fun i => (g i).cells) vs → RL I nr ((List.range n).flatMap fun i => (g' i).cells) vs
  | 0, _, _, _, hr => hr
  | n + 1, vs, h, hw, hr => by
    rw [List.range_succ, List.flatMap_append] at hr ⊢
    obtain ⟨k1, k2⟩ := RL.split hr
    have q1 := vec_sim n _ (fun i hi => h i (by omega)) (fun i hi => hw i (by omega)) k1
    simp only [List.flatMap_cons, List.flatMap_nil, List.append_nil] at k2 ⊢
    have q2 := (h n (by omega)).RL (ρ' := nr) (hw n (by omega)).1 (hw n (by omega)).2.2 k2
    have := RL.append q1 q2
    rwa [List.take_append_drop] at this
/-- Arrays. -/
theorem A.sim.vec {sz n : Nat} {g g' : Nat → A} (h : ∀ i, i < n → (g i).sim (g' i)) : (A.vec sz n g).sim (.vec sz n g') :=
  ⟨rfl, rfl, fun hw hp => ⟨fun i hi => (h i hi).three (hw i hi), fun i hi => ((h i hi).three (hw i hi)).2.2⟩, fun hw hp I vs hr => vec_sim n vs h hw hr⟩
def simL : List A → List A → Prop
  | [], [] => True
  | x :: xs, y :: ys => x.sim y ∧ simL xs ys
  | _, _ => False
theorem simL_ok : ∀ {xs ys : List A}, simL xs ys → A.sizeL ys = A.sizeL xs ∧ (A.wfL xs → A.purePL xs → A.wfL ys ∧ A.purePL ys) ∧ (A.wfL xs → A.purePL xs → ∀ I vs, RL I nr (A.cellsL xs) vs → RL I nr (A.cellsL ys) vs)
  | [], [], _ => ⟨rfl, fun a b => ⟨a, b⟩, fun _ _ _ _ h => h⟩
  | x :: xs, y :: ys, h => by
    have ih := simL_ok h.2
    refine ⟨by simp only [A.sizeL, ih.1, A.Sim.size h.1], fun a b => ⟨⟨(A.Sim.ok h.1 a.1 b.1).1, (ih.2.1 a.2 b.2).1⟩, ⟨(A.Sim.ok h.1 a.1 b.1).2, (ih.2.1 a.2 b.2).2⟩⟩, fun a b I vs hr => ?_⟩
    simp only [A.cellsL] at hr ⊢
    obtain ⟨k1, k2⟩ := RL.split hr
    have := RL.append (A.Sim.cells h.1 a.1 b.1 I _ k1) (ih.2.2 a.2 b.2 I _ k2)
    rwa [List.take_append_drop] at this
  | [], _ :: _, h => h.elim
  | _ :: _, [], h => h.elim
theorem A.sim.aggL {xs ys : List A} (h : simL xs ys) : (A.agg xs).sim (.agg ys) := by
  have k := simL_ok h
  exact ⟨rfl, k.1, fun a b => k.2.1 a b, fun a b I vs hr => k.2.2 a b I vs hr⟩
mutual
/-- x can be seen as y, where π tells which of the old names a new one is. -/
def A.le (π : List (Nat × Nat)) : A → A → Prop
  | .int k n, .int k' n' => k = k' ∧ n = n'
  | .bool b, .bool b' => b = b'
  | .str l, .str l' => l = l'
  | .vec sz n g, .vec sz' n' g' => sz = sz' ∧ n = n' ∧ ∀ i, i < n → (g i).sim (g' i)
  | .agg ps, .agg qs => A.leL π ps qs
  | .ro sz n g, .ro sz' n' g' => sz = sz' ∧ n = n' ∧ ∀ i, i < n → (g i).sim (g' i)
  | .rol sz n g, .ro sz' n' g' => sz = sz' ∧ n = n' ∧ ∀ i, i < n → (g i).sim (g' i)
  | .rol sz n g, .rol sz' n' g' => sz = sz' ∧ n = n' ∧ ∀ i, i < n → (g i).sim (g' i)
  | .nils, .ro _ n' _ => n' = 0
  | .nils, .rol _ n' _ => n' = 0
  | .nils, .nils => True
  | .nils, .own _ _ _ n' => n' = 0
  | .nils, .owl _ _ _ n' => n' = 0
  | .own sz id off n, .own sz' id' off' n' => look π id' = some id ∧ sz = sz' ∧ off = off' ∧ n = n'
  | .owl sz id off n, .owl sz' id' off' n' => look π id' = some id ∧ sz = sz' ∧ off = off' ∧ n = n'
  | .vsl sz id p i n, .vsl sz' id' p' i' n' => look π id' = some id ∧ sz = sz' ∧ p = p' ∧ i = i' ∧ n = n'
  | .ptr id p, .ptr id' p' => look π id' = some id ∧ p = p'
  | .map id, .map id' => look π id' = some id
  | .rop x, .rop y => x.sim y ∧ y.pureP
  | .nilp, .nilp => True
  | .nilm, .nilm => True
  | .nilf, .nilf => True
  | .nili, .nili => True
  | .func f a c, .func f' a' c' => f = f' ∧ A.leL π a a' ∧ A.leL π c c'
  | .iface t x, .iface t' x' => t = t' ∧ A.le π x x'
  | .tup l, .tup l' => A.leL π l l'
  | _, _ => False
def A.leL (π : List (Nat × Nat)) : List A → List A → Prop
  | [], [] => True
  | x :: xs, y :: ys => A.le π x y ∧ A.leL π xs ys
  | _, _ => False
end

/-- In a slot: what it holds may be forgotten. -/
def A.leT (π : List (Nat × Nat)) (x : A) : A → Prop
  | .any => True
  | y => A.le π x y
def Obj.le (π : List (Nat × Nat)) : Obj → Obj → Prop
  | .var x, .var y => A.le π x y
  | .arr sz n g, .arr sz' n' g' => sz = sz' ∧ n' ≤ n ∧ ∀ i, i < n' → (g i).sim (g' i)
  | _, _ => False

def Via (π : List (Nat × Nat)) (ρ ρ' : Ren) : Prop := ∀ m n l, look π m = some n → ρ n = some l → ρ' m = some l

theorem flatMap_congr' {α β : Type} {f g : α → List β} : ∀ {l : List α}, (∀ x ∈ l, f x = g x) → l.flatMap f = l.flatMap g
  | [], _ => rfl
  | x :: l, h => by rw [List.flatMap_cons, List.flatMap_cons, h x List.mem_cons_self, flatMap_congr' fun y hy => h y (List.mem_cons_of_mem _ hy)]

section
variable {I : Imm} {ρ ρ' : Ren} {π : List (Nat × Nat)}

mutual
theorem A.le_wf : ∀ {x y : A}, A.le π x y → x.wf → y.wf ∧ y.size = x.size ∧ isAgg y = isAgg x
  | .vec .., .vec .., h, hw => by
    simp only [A.le] at h
    obtain ⟨rfl, rfl, h⟩ := h
    exact ⟨fun i hi => (h i hi).three (hw i hi), rfl, rfl⟩
  | .agg ps, .agg qs, h, hw => by
    simp only [A.le] at h
    have := A.leL_wf h hw
    exact ⟨this.1, by simp [A.size, this.2], rfl⟩
  | .int .., y, h, _ | .bool _, y, h, _ | .str _, y, h, _ | .ro .., y, h, _ | .rol .., y, h, _ | .own .., y, h, _ | .owl .., y, h, _ | .ptr .., y, h, _ | .vsl .., y, h, _ | .rop _, y, h, _ | .nils, y, h, _ | .nilp, y, h, _
  | .nilm, y, h, _ | .nilf, y, h, _ | .nili, y, h, _ | .map _, y, h, _ | .func .., y, h, _ | .iface .., y, h, _ | .tup _, y, h, _ | .any, y, h, _ => by
    cases y <;> first | (simp [A.le] at h; done) | simp [A.wf, A.size, isAgg]
  | .vec .., .int .., h, _ | .vec .., .bool _, h, _ | .vec .., .str _, h, _ | .vec .., .ro .., h, _ | .vec .., .rol .., h, _ | .vec .., .own .., h, _ | .vec .., .owl .., h, _ | .vec .., .ptr .., h, _ | .vec .., .vsl .., h, _
  | .vec .., .rop _, h, _ | .vec .., .nils, h, _ | .vec .., .nilp, h, _ | .vec .., .nilm, h, _ | .vec .., .nilf, h, _ | .vec .., .nili, h, _ | .vec .., .map _, h, _ | .vec .., .func .., h, _ | .vec .., .iface .., h, _
  | .vec .., .tup _, h, _ | .vec .., .any, h, _ | .vec .., .agg _, h, _ => by simp [A.le] at h
  | .agg _, .int .., h, _ | .agg _, .bool _, h, _ | .agg _, .str _, h, _ | .agg _, .ro .., h, _ | .agg _, .rol .., h, _ | .agg _, .own .., h, _ | .agg _, .owl .., h, _ | .agg _, .ptr .., h, _ | .agg _, .vsl .., h, _
  | .agg _, .rop _, h, _ | .agg _, .nils, h, _ | .agg _, .nilp, h, _ | .agg _, .nilm, h, _ | .agg _, .nilf, h, _ | .agg _, .nili, h, _ | .agg _, .map _, h, _ | .agg _, .func .., h, _ | .agg _, .iface .., h, _
  | .agg _, .tup _, h, _ | .agg _, .any, h, _ | .agg _, .vec .., h, _ => by simp [A.le] at h
theorem A.leL_wf : ∀ {x y : List A}, A.leL π x y → A.wfL x → A.wfL y ∧ A.sizeL y = A.sizeL x
  | [], [], _, _ => ⟨trivial, rfl⟩
  | x :: xs, y :: ys, h, hw => by
    simp only [A.leL] at h
    have h1 := A.le_wf h.1 hw.1
    have h2 := A.leL_wf h.2 hw.2
    exact ⟨⟨h1.1, h2.1⟩, by simp [A.sizeL, h1.2.1, h2.2]⟩
  | [], _ :: _, h, _ => by simp [A.leL] at h
  | _ :: _, [], h, _ => by simp [A.leL] at h
end

/-- x seen as y keeps what it means; so do its cells. -/
def LeOK (I : Imm) (ρ ρ' : Ren) (π : List (Nat × Nat)) (x : A) : Prop :=
  (∀ y v, A.le π x y → R I ρ x v → R I ρ' y v) ∧ (∀ y vs, A.le π x y → x.wf → RL I ρ x.cells vs → RL I ρ' y.cells vs)

theorem LeOK.one {x : A} (hx : isAgg x = false) (h : ∀ y v, A.le π x y → R I ρ x v → R I ρ' y v) : LeOK I ρ ρ' π x := by
  refine ⟨h, fun y vs hl hw hr => ?_⟩
  rw [cells_of_one hx] at hr
  obtain ⟨v, rfl, hv⟩ := hr.one_inv
  have hy : isAgg y = false := (A.le_wf hl hw).2.2.trans hx
  rw [cells_of_one hy]
  exact .cons (h y v hl hv) .nil

theorem LeOK.agg {x : A} (hx : isAgg x = true) (h : ∀ y vs, A.le π x y → x.wf → RL I ρ x.cells vs → RL I ρ' y.cells vs) : LeOK I ρ ρ' π x := by
  refine ⟨fun y v hl hr => ?_, h⟩
  obtain ⟨vs, rfl, hw, hr⟩ := hr.agg_inv hx
  have hwy := A.le_wf hl hw
  exact .agg (hwy.2.2.trans hx) hwy.1 (h y vs hl hw hr)

mutual
theorem A.le_both (hv : Via π ρ ρ') : ∀ (x : A), LeOK I ρ ρ' π x
  | .vec sz n g => by
    refine .agg rfl fun y vs h hw hr => ?_
    cases y <;> simp [A.le] at h
    rename_i g'
    obtain ⟨rfl, rfl, h⟩ := h
    exact (A.sim.vec h).RL hw (by simp only [A.pureP]; exact fun i hi => (hw i hi).2.2) hr
  | .agg ps => by
    refine .agg rfl fun y vs h hw hr => ?_
    cases y <;> simp [A.le] at h
    exact (A.leL_both hv ps).2 _ _ h hw hr
  | .int .. => .one rfl fun y v h hr => by cases hr.int_inv; cases y <;> simp [A.le] at h; obtain ⟨rfl, rfl⟩ := h; exact .int
  | .bool _ => .one rfl fun y v h hr => by cases hr.bool_inv; cases y <;> simp [A.le] at h; cases h; exact .bool
  | .str _ => .one rfl fun y v h hr => by cases hr.str_inv; cases y <;> simp [A.le] at h; cases h; exact .str
  | .ro .. => .one rfl fun y v h hr => by
    cases y <;> simp [A.le] at h
    obtain ⟨rfl, rfl, h⟩ := h
    cases hr with
    | agg hr _ _ => cases hr
    | ro a b c => exact .ro a (fun i hi => (h i hi).three (b i hi)) (fun i hi => (h i hi).RA (b i hi).1 (b i hi).2.2 (c i hi))
    | ro0 => exact .ro0
  | .rol .. => .one rfl fun y v h hr => by
    cases y <;> simp [A.le] at h
    · obtain ⟨rfl, rfl, h⟩ := h
      cases hr with
      | agg hr _ _ => cases hr
      | rol b c => exact .ro (Nat.le_refl _) (fun i hi => (h i hi).three (b i hi)) (fun i hi => (h i hi).RA (b i hi).1 (b i hi).2.2 (c i hi))
      | rol0 => exact .ro0
    · obtain ⟨rfl, rfl, h⟩ := h
      cases hr with
      | agg hr _ _ => cases hr
      | rol b c => exact .rol (fun i hi => (h i hi).three (b i hi)) (fun i hi => (h i hi).RA (b i hi).1 (b i hi).2.2 (c i hi))
      | rol0 => exact .rol0
  | .own .. => .one rfl fun y v h hr => by
    cases y <;> simp [A.le] at h
    obtain ⟨hp, rfl, rfl, rfl⟩ := h
    cases hr with
    | agg hr _ _ => cases hr
    | own a b c => exact .own (hv _ _ _ hp a) b c
    | own0 => exact .own0
  | .owl .. => .one rfl fun y v h hr => by
    cases y <;> simp [A.le] at h
    obtain ⟨hp, rfl, rfl, rfl⟩ := h
    cases hr with
    | agg hr _ _ => cases hr
    | owl a b => exact .owl (hv _ _ _ hp a) b
    | owl0 => exact .owl0
  | .vsl .. => .one rfl fun y v h hr => by
    cases y <;> simp [A.le] at h
    obtain ⟨hp, rfl, rfl, rfl, rfl⟩ := h
    cases hr with
    | agg hr _ _ => cases hr
    | vsl a b c => exact .vsl (hv _ _ _ hp a) b c
    | vsl0 => exact .vsl0
  | .ptr .. => .one rfl fun y v h hr => by
    cases y <;> simp [A.le] at h
    obtain ⟨hp, rfl⟩ := h
    cases hr with
    | agg hr _ _ => cases hr
    | ptr a => exact .ptr (hv _ _ _ hp a)
  | .rop _ => .one rfl fun y v h hr => by
    cases y <;> simp [A.le] at h
    cases hr with
    | agg hr _ _ => cases hr
    | rop a b c => exact .rop (h.1.three ⟨a, rfl, b⟩).1 h.2 (h.1.RA a b c)
  | .nils => .one rfl fun y v h hr => by
    cases hr.nils_inv
    cases y <;> simp [A.le] at h
    · cases h; exact .ro0
    · cases h; exact .rol0
    · cases h; exact .own0
    · cases h; exact .owl0
    · exact .nils
  | .nilp => .one rfl fun y v h hr => by cases hr.nilp_inv; cases y <;> simp [A.le] at h; exact .nilp
  | .nilm => .one rfl fun y v h hr => by cases hr.nilm_inv; cases y <;> simp [A.le] at h; exact .nilm
  | .nilf => .one rfl fun y v h hr => by cases hr.nilf_inv; cases y <;> simp [A.le] at h; exact .nilf
  | .nili => .one rfl fun y v h hr => by cases hr.nili_inv; cases y <;> simp [A.le] at h; exact .nili
  | .map _ => .one rfl fun y v h hr => by
    obtain ⟨b, rfl, hb⟩ := hr.map_inv
    cases y <;> simp [A.le] at h
    exact .map (hv _ _ _ h hb)
  | .func fn f c => .one rfl fun y v h hr => by
    obtain ⟨fs, cs, rfl, h1, h2⟩ := hr.func_inv
    cases y <;> simp [A.le] at h
    obtain ⟨rfl, k1, k2⟩ := h
    exact .func ((A.leL_both hv f).1 _ _ k1 h1) ((A.leL_both hv c).1 _ _ k2 h2)
  | .iface t x => .one rfl fun y v h hr => by
    obtain ⟨u, rfl, h1⟩ := hr.iface_inv
    cases y <;> simp [A.le] at h
    obtain ⟨rfl, k1⟩ := h
    exact .iface ((A.le_both hv x).1 _ _ k1 h1)
  | .tup l => .one rfl fun y v h hr => by
    obtain ⟨vs, rfl, h1⟩ := hr.tup_inv
    cases y <;> simp [A.le] at h
    exact .tup ((A.leL_both hv l).1 _ _ h h1)
  | .any => .one rfl fun y v h hr => by cases y <;> simp [A.le] at h
theorem A.leL_both (hv : Via π ρ ρ') : ∀ (x : List A), (∀ y vs, A.leL π x y → RL I ρ x vs → RL I ρ' y vs) ∧ (∀ y vs, A.leL π x y → A.wfL x → RL I ρ (A.cellsL x) vs → RL I ρ' (A.cellsL y) vs)
  | [] => by
    refine ⟨fun y vs h hr => ?_, fun y vs h hw hr => ?_⟩ <;> cases y <;> simp [A.leL] at h
    · cases hr; exact .nil
    · exact by simpa [A.cellsL] using (by cases hr; exact RL.nil)
  | x :: xs => by
    refine ⟨fun y vs h hr => ?_, fun y vs h hw hr => ?_⟩ <;> cases y <;> simp [A.leL] at h
    · cases hr with
      | cons a b => exact .cons ((A.le_both hv x).1 _ _ h.1 a) ((A.leL_both hv xs).1 _ _ h.2 b)
    · obtain ⟨k1, k2⟩ := RL.split (xs := x.cells) (ys := A.cellsL xs) hr
      have e := RL.append ((A.le_both hv x).2 _ _ h.1 hw.1 k1) ((A.leL_both hv xs).2 _ _ h.2 hw.2 k2)
      rw [List.take_append_drop] at e
      exact e
end

theorem A.le_ok (hv : Via π ρ ρ') {x y : A} {v : Value} (h : A.le π x y) (hr : R I ρ x v) : R I ρ' y v := (A.le_both hv x).1 y v h hr
theorem A.leT_ok (hv : Via π ρ ρ') {x y : A} {v : Value} (h : A.leT π x y) (hr : R I ρ x v) : R I ρ' y v := by
  cases y <;> first | exact .any | exact A.le_ok hv h hr

theorem Obj.le_ok (hv : Via π ρ ρ') : ∀ {ob ob' : Obj} {vs : List Value}, Obj.le π ob ob' → HoldsC I ρ ob vs → HoldsC I ρ' ob' vs
  | .var x, .var y, vs, h, hr => ⟨(A.le_wf h hr.1).1, (A.le_both hv x).2 _ _ h hr.1 hr.2⟩
  | .arr sz n g, .arr sz' n' g', vs, h, hr => by
    simp only [Obj.le] at h
    obtain ⟨rfl, hn, h⟩ := h
    exact ⟨Nat.le_trans (Nat.mul_le_mul_right _ hn) hr.1, fun i hi => (h i hi).three (hr.2.1 i (by omega)), fun i hi => (h i hi).RL (hr.2.1 i (by omega)).1 (hr.2.1 i (by omega)).2.2 (hr.2.2 i (by omega))⟩
  | .var _, .arr .., _, h, _ | .var _, .smap .., _, h, _ | .arr .., .var _, _, h, _ | .arr .., .smap .., _, h, _ | .smap .., .var _, _, h, _ | .smap .., .arr .., _, h, _ | .smap .., .smap .., _, h, _ => by simp [Obj.le] at h
end

/-- The slots told are among the old ones. -/
def subT (π : List (Nat × Nat)) (τ : List (Nat × A)) : List (Nat × A) → Prop
  | [] => True
  | (t, y) :: l => (match look τ t with | some x => A.leT π x y | none => False) ∧ subT π τ l
/-- The objects told are among the old ones. -/
def subR (π : List (Nat × Nat)) (r : List (Nat × Option Obj)) : List (Nat × Option Obj) → Prop
  | [] => True
  | (m, ob') :: l => (match ob' with
    | none => True
    | some ob' => match look π m with
      | some n => (match look r n with
        | some (some ob) => Obj.le π ob ob'
        | _ => False)
      | none => False) ∧ subR π r l
def keys {α : Type} : List (Nat × α) → List Nat
  | [] => []
  | (k, _) :: l => k :: keys l
def vals : List (Nat × Nat) → List Nat
  | [] => []
  | (_, v) :: l => v :: vals l
def nodupN : List Nat → Bool
  | [] => true
  | n :: l => !hasN l n && nodupN l

/-- The names of what was handed over stay. -/
def keepN : List (Nat × Nat) → Bool
  | [] => true
  | (m, n) :: l => (Nat.blt m 1000 || Nat.beq m n) && keepN l
theorem keepN_ok : ∀ {π : List (Nat × Nat)}, keepN π = true → ∀ {m n : Nat}, look π m = some n → 1000 ≤ m → m = n
  | [], _, _, _, h, _ => by simp [look] at h
  | (k, v) :: l, hk, m, n, h, hm => by
    rw [keepN, Bool.and_eq_true, Bool.or_eq_true] at hk
    rw [look_cons] at h
    by_cases e : k = m
    · subst e
      simp only [if_true, Option.some.injEq] at h
      subst h
      rcases hk.1 with h | h
      · have := blt_lt h; omega
      · exact Nat.eq_of_beq_eq_true h
    · rw [if_neg e] at h
      exact keepN_ok hk.2 h hm

theorem subT_look {π : List (Nat × Nat)} {τ : List (Nat × A)} : ∀ {τ' : List (Nat × A)}, subT π τ τ' → ∀ {t : Nat} {y : A}, look τ' t = some y → ∃ x, look τ t = some x ∧ A.leT π x y
  | [], _, t, y, h => by simp [look] at h
  | (t', y') :: l, hs, t, y, h => by
    rw [look_cons] at h
    by_cases e : t' = t
    · subst e
      simp only [if_true, Option.some.injEq] at h
      subst h
      have h1 := hs.1
      split at h1
      · exact ⟨_, ‹_›, h1⟩
      · exact h1.elim
    · rw [if_neg e] at h
      exact subT_look hs.2 h
theorem subR_look {π : List (Nat × Nat)} {r : List (Nat × Option Obj)} : ∀ {r' : List (Nat × Option Obj)}, subR π r r' → ∀ {m : Nat} {ob' : Obj}, look r' m = some (some ob') → ∃ n ob, look π m = some n ∧ look r n = some (some ob) ∧ Obj.le π ob ob'
  | [], _, t, y, h => by simp [look] at h
  | (t', y') :: l, hs, t, y, h => by
    rw [look_cons] at h
    by_cases e : t' = t
    · subst e
      simp only [if_true, Option.some.injEq] at h
      subst h
      have h1 := hs.1
      simp only at h1
      split at h1
      · split at h1
        · exact ⟨_, _, ‹_›, ‹_›, h1⟩
        · exact h1.elim
      · exact h1.elim
    · rw [if_neg e] at h
      exact subR_look hs.2 h
theorem hasN_iff {l : List Nat} {n : Nat} : hasN l n = true ↔ n ∈ l := by
  induction l with
  | nil => simp [hasN]
  | cons k l ih => rw [hasN_cons, Bool.or_eq_true, decide_eq_true_eq, ih, List.mem_cons]; constructor <;> (rintro (h | h) <;> simp [h])
theorem look_keys {α : Type} : ∀ {l : List (Nat × α)} {m : Nat} {n : α}, look l m = some n → hasN (keys l) m = true
  | [], _, _, h => by simp [look] at h
  | (k, v) :: l, m, n, h => by
    rw [look_cons] at h
    rw [keys, hasN_cons]
    by_cases e : k = m
    · simp [e]
    · rw [if_neg e] at h
      simp [look_keys h]
theorem look_vals : ∀ {l : List (Nat × Nat)} {m n : Nat}, look l m = some n → hasN (vals l) n = true
  | [], _, _, h => by simp [look] at h
  | (k, v) :: l, m, n, h => by
    rw [look_cons] at h
    rw [vals, hasN_cons]
    by_cases e : k = m
    · rw [if_pos e] at h; cases h; simp
    · rw [if_neg e] at h
      simp [look_vals h]
theorem nodup_inj : ∀ {l : List (Nat × Nat)}, nodupN (vals l) = true → ∀ {m m' n : Nat}, look l m = some n → look l m' = some n → m = m'
  | [], _, _, _, _, h, _ => by simp [look] at h
  | (k, v) :: l, hn, m, m', n, h, h' => by
    rw [vals, nodupN, Bool.and_eq_true, Bool.not_eq_true'] at hn
    rw [look_cons] at h h'
    by_cases e : k = m <;> by_cases e' : k = m'
    · exact e.symm.trans e'
    · rw [if_pos e] at h; rw [if_neg e'] at h'
      cases h
      rw [look_vals h'] at hn
      cases hn.1
    · rw [if_neg e] at h; rw [if_pos e'] at h'
      cases h'
      rw [look_vals h] at hn
      cases hn.1
    · rw [if_neg e] at h; rw [if_neg e'] at h'
      exact nodup_inj hn.2 h h'

def viaRen (π : List (Nat × Nat)) (ρ : Ren) : Ren := fun m => (look π m).bind ρ
theorem viaRen_via (π : List (Nat × Nat)) (ρ : Ren) : Via π ρ (viaRen π ρ) := fun m n l h h' => by simp [viaRen, h, h']

/-- Every world and frame that fit the one state fit the other. -/
def Weak (τ : List (Nat × A)) (r : List (Nat × Option Obj)) (us : List Nat) (τ' : List (Nat × A)) (r' : List (Nat × Option Obj)) (us' : List Nat) : Prop :=
  ∀ Γ I ρ w n a, RW Γ I ρ r us w → Slots I ρ n τ a → ∃ I' ρ', RW Γ I' ρ' r' us' w ∧ Slots I' ρ' n τ' a

theorem RW.via {Γ : Ctx} {I : Imm} {ρ : Ren} {r r' : List (Nat × Option Obj)} {us us' : List Nat} {w : World} {π : List (Nat × Nat)} (h : RW Γ I ρ r us w) (hn : nodupN (vals π) = true) (hk : keepN π = true) (hu : keys π = us') (hr : subR π r r') :
    RW Γ I (viaRen π ρ) r' us' w := by
  have hv := viaRen_via π ρ
  refine ⟨h.imm, fun m ob' hm => ?_, fun m m' ob ob' b N N' hm hm' hb hb' => ?_, fun m hm => ?_, h.frame, fun m l hm hl => ?_⟩
  · obtain ⟨n, ob, h1, h2, h3⟩ := subR_look hr hm
    obtain ⟨l, hl, ho⟩ := h.own n ob h2
    refine ⟨l, hv _ _ _ h1 hl, ?_⟩
    cases l with
    | nil =>
      cases ob <;> cases ob' <;> simp_all [Own, Obj.le]
    | blk b N =>
      obtain ⟨o, hb, hh⟩ := ho.blk
      refine ⟨ho.noI, ho.mine, o, hb, ?_⟩
      cases o with
      | cells vs e fz => exact ⟨hh.1, hh.2.1, Obj.le_ok hv h3 hh.2.2.1, hh.2.2.2⟩
      | map es c =>
        obtain ⟨_, hh⟩ := hh
        cases ob <;> simp only at hh
        cases ob' <;> simp [Obj.le] at h3
      | _ => simp [BlkHolds] at hh
  · obtain ⟨n, o1, h1, h2, _⟩ := subR_look hr hm
    obtain ⟨n', o1', h1', h2', _⟩ := subR_look hr hm'
    simp only [viaRen, h1, h1', Option.bind_some] at hb hb'
    have := h.inj n n' o1 o1' b N N' h2 h2' hb hb'
    subst this
    exact nodup_inj hn h1 h1'
  · cases e : look π m with
    | none => simp [viaRen, e]
    | some n =>
      have := look_keys e
      rw [hu, usedN_hasN hm] at this
      cases this
  · cases e : look π m with
    | none => simp [viaRen, e] at hl
    | some n =>
      have := keepN_ok hk e hm
      subst this
      simp only [viaRen, e, Option.bind_some] at hl
      exact h.keep _ _ hm hl

theorem Slots.via {I : Imm} {ρ : Ren} {n : Nat} {τ τ' : List (Nat × A)} {a : Act} {π : List (Nat × Nat)} (h : Slots I ρ n τ a) (ht : subT π τ τ') : Slots I (viaRen π ρ) n τ' a :=
  ⟨h.size, h.defers, fun t y hy => let ⟨x, hx, hle⟩ := subT_look ht hy; ⟨(h.at_ t x hx).1, A.leT_ok (viaRen_via π ρ) hle (h.at_ t x hx).2⟩⟩

/-- With new names: the pairs of new and old ones. -/
theorem Weak.via (π : List (Nat × Nat)) {τ τ' : List (Nat × A)} {r r' : List (Nat × Option Obj)} {us us' : List Nat} (hn : nodupN (vals π) = true) (hk : keepN π = true) (hu : keys π = us') (ht : subT π τ τ') (hr : subR π r r') : Weak τ r us τ' r' us' :=
  fun _ I ρ _ _ _ hR hS => ⟨I, viaRen π ρ, hR.via hn hk hu hr, hS.via ht⟩

theorem W.weak {Γ : Ctx} {P : Program} {Q : Act → World → Prop} {k : List Item} {τ τ' : List (Nat × A)} {r r' : List (Nat × Option Obj)} {us us' : List Nat} (h : Weak τ r us τ' r' us') (hw : W Γ P Q [] k τ' r' us') : W Γ P Q [] k τ r us :=
  ⟨fun a w I ρ hR hS _ => let ⟨I', ρ', hR', hS'⟩ := h Γ I ρ w Γ.n a hR hS; hw.ok a w I' ρ' hR' hS' .nil⟩

structure St where
  τ : List (Nat × A)
  r : List (Nat × Option Obj)
  us : List Nat

/-- A loop, its states told by x. -/
theorem W.loop {Γ : Ctx} {P : Program} {Q : Act → World → Prop} {c : Code} {k : List Item} {τ : List (Nat × A)} {r : List (Nat × Option Obj)} {us : List Nat} {X : Type} (J : X → Prop) (μ : X → Nat) (S : X → St) (x0 : X) (hj : J x0)
    (h0 : Weak τ r us (S x0).τ (S x0).r (S x0).us)
    (h : ∀ x, J x → (∀ x', J x' → μ x' < μ x → W Γ P Q [] (.inLoop c :: k) (S x').τ (S x').r (S x').us) → W Γ P Q [] (.code c :: .inLoop c :: k) (S x).τ (S x).r (S x).us) :
    W Γ P Q [] (.code (.loop c) :: k) τ r us := by
  refine W.weak h0 ?_
  have key : ∀ n x, J x → μ x = n → W Γ P Q [] (.code c :: .inLoop c :: k) (S x).τ (S x).r (S x).us := by
    intro n
    induction n using Nat.strongRecOn with
    | _ n ih =>
      intro x hx hn
      exact h x hx fun x' hx' hlt => ⟨fun a w I ρ hR hS _ => WK.step (fun _ _ => step_inLoop) ((ih (μ x') (hn ▸ hlt) x' hx' rfl).ok a w I ρ hR hS .nil)⟩
  exact ⟨fun a w I ρ hR hS _ => WK.step (fun _ _ => step_loop) ((key _ x0 hj rfl).ok a w I ρ hR hS .nil)⟩

/-- A loop, its next round. -/
theorem W.enter {Γ : Ctx} {P : Program} {Q : Act → World → Prop} {g : List (Nat × Nat × Bool)} {c : Code} {k : List Item} {τ : List (Nat × A)} {r : List (Nat × Option Obj)} {us : List Nat} (h : W Γ P Q [] (.code c :: .inLoop c :: k) τ r us) :
    W Γ P Q g (.code (.loop c) :: k) τ r us :=
  ⟨fun a w I ρ hR hS _ => WK.step (fun _ _ => step_loop) (h.ok a w I ρ hR hS .nil)⟩
theorem W.again {Γ : Ctx} {P : Program} {Q : Act → World → Prop} {g : List (Nat × Nat × Bool)} {c : Code} {k : List Item} {τ : List (Nat × A)} {r : List (Nat × Option Obj)} {us : List Nat} (h : W Γ P Q [] (.code c :: .inLoop c :: k) τ r us) :
    W Γ P Q g (.inLoop c :: k) τ r us :=
  ⟨fun a w I ρ hR hS _ => WK.step (fun _ _ => step_inLoop) (h.ok a w I ρ hR hS .nil)⟩
end VX

/- VX 25: other names; data in which nothing that never changes is pointed at. -/
namespace VX
open Go

mutual
/-- The names of owned objects, changed. -/
def A.ren (f : Nat → Nat) : A → A
  | .own sz id off n => .own sz (f id) off n
  | .owl sz id off n => .owl sz (f id) off n
  | .ptr id p => .ptr (f id) p
  | .vsl sz id p i n => .vsl sz (f id) p i n
  | .map id => .map (f id)
  | .agg ps => .agg (A.renL f ps)
  | .func fn a c => .func fn (A.renL f a) (A.renL f c)
  | .iface t x => .iface t (A.ren f x)
  | .tup l => .tup (A.renL f l)
  | .int k n => .int k n
  | .bool b => .bool b
  | .str l => .str l
  | .vec sz n g => .vec sz n g
  | .ro sz n g => .ro sz n g
  | .rol sz n g => .rol sz n g
  | .rop x => .rop x
  | .nils => .nils
  | .nilp => .nilp
  | .nilm => .nilm
  | .nilf => .nilf
  | .nili => .nili
  | .any => .any
def A.renL (f : Nat → Nat) : List A → List A
  | [] => []
  | x :: xs => A.ren f x :: A.renL f xs
end
def Obj.ren (f : Nat → Nat) : Obj → Obj
  | .var x => .var (x.ren f)
  | .arr sz n g => .arr sz n g
  | .smap z ks g => .smap z ks g

mutual
/-- Nothing that never changes is pointed at. -/
def A.flat : A → Prop
  | .ro .. | .rol .. | .rop _ => False
  | .vec _ n g => ∀ i, i < n → (g i).flat
  | .agg ps => A.flatL ps
  | .func _ a c => A.flatL a ∧ A.flatL c
  | .iface _ x => x.flat
  | .tup l => A.flatL l
  | _ => True
def A.flatL : List A → Prop
  | [] => True
  | x :: xs => x.flat ∧ A.flatL xs
end
def Obj.flat : Obj → Prop
  | .var x => x.flat
  | .arr _ n g => ∀ i, i < n → (g i).flat
  | .smap _ ks g => ∀ s, s ∈ ks → (g s).flat

section
variable {I I' : Imm} {ρ ρ' : Ren} {f : Nat → Nat}

mutual
theorem A.ren_size : ∀ (x : A), (x.ren f).size = x.size ∧ isAgg (x.ren f) = isAgg x ∧ (x.wf → (x.ren f).wf)
  | .agg ps => by
    have := A.ren_sizeL ps
    exact ⟨by simp [A.ren, A.size, this.1], rfl, this.2⟩
  | .vec .. => ⟨rfl, rfl, fun h => h⟩
  | .int .. | .bool _ | .str _ | .ro .. | .rol .. | .own .. | .owl .. | .ptr .. | .vsl .. | .rop _ | .nils | .nilp | .nilm | .nilf | .nili | .map _ | .func .. | .iface .. | .tup _ | .any => ⟨rfl, rfl, fun h => trivial⟩
theorem A.ren_sizeL : ∀ (x : List A), A.sizeL (A.renL f x) = A.sizeL x ∧ (A.wfL x → A.wfL (A.renL f x))
  | [] => ⟨rfl, fun h => h⟩
  | x :: xs => by
    have h1 := A.ren_size x
    have h2 := A.ren_sizeL xs
    exact ⟨by simp [A.renL, A.sizeL, h1.1, h2.1], fun h => ⟨h1.2.2 h.1, h2.2 h.2⟩⟩
end

def RenOK (I : Imm) (ρ ρ' : Ren) (f : Nat → Nat) (x : A) : Prop :=
  (∀ v, R I ρ x v → R I ρ' (x.ren f) v) ∧ (∀ vs, x.wf → RL I ρ x.cells vs → RL I ρ' (x.ren f).cells vs)
theorem RenOK.one {x : A} (hx : isAgg x = false) (h : ∀ v, R I ρ x v → R I ρ' (x.ren f) v) : RenOK I ρ ρ' f x := by
  refine ⟨h, fun vs hw hr => ?_⟩
  rw [cells_of_one hx] at hr
  obtain ⟨v, rfl, hv⟩ := hr.one_inv
  rw [cells_of_one ((A.ren_size x).2.1.trans hx)]
  exact .cons (h v hv) .nil
theorem RenOK.agg {x : A} (hx : isAgg x = true) (h : ∀ vs, x.wf → RL I ρ x.cells vs → RL I ρ' (x.ren f).cells vs) : RenOK I ρ ρ' f x := by
  refine ⟨fun v hr => ?_, h⟩
  obtain ⟨vs, rfl, hw, hr⟩ := hr.agg_inv hx
  exact .agg ((A.ren_size x).2.1.trans hx) ((A.ren_size x).2.2 hw) (h vs hw hr)

mutual
theorem A.ren_both (hv : ∀ n l, ρ n = some l → ρ' (f n) = some l) : ∀ (x : A), RenOK I ρ ρ' f x
  | .vec .. => .agg rfl fun vs hw hr => hr.pure (cells_pureP hw (by simp only [A.pureP]; exact fun i hi => (hw i hi).2.2))
  | .agg ps => .agg rfl fun vs hw hr => (A.ren_bothL hv ps).2 vs hw hr
  | .int .. => .one rfl fun v hr => by cases hr.int_inv; exact .int
  | .bool _ => .one rfl fun v hr => by cases hr.bool_inv; exact .bool
  | .str _ => .one rfl fun v hr => by cases hr.str_inv; exact .str
  | .ro .. => .one rfl fun v hr => hr.pure trivial
  | .rol .. => .one rfl fun v hr => hr.pure trivial
  | .rop _ => .one rfl fun v hr => hr.pure trivial
  | .nils => .one rfl fun v hr => hr.pure trivial
  | .nilp => .one rfl fun v hr => hr.pure trivial
  | .nilm => .one rfl fun v hr => hr.pure trivial
  | .nilf => .one rfl fun v hr => hr.pure trivial
  | .nili => .one rfl fun v hr => hr.pure trivial
  | .any => .one rfl fun v hr => .any
  | .own .. => .one rfl fun v hr => by
    cases hr with
    | agg hr _ _ => cases hr
    | own a b c => exact .own (hv _ _ a) b c
    | own0 => exact .own0
  | .owl .. => .one rfl fun v hr => by
    cases hr with
    | agg hr _ _ => cases hr
    | owl a b => exact .owl (hv _ _ a) b
    | owl0 => exact .owl0
  | .vsl .. => .one rfl fun v hr => by
    cases hr with
    | agg hr _ _ => cases hr
    | vsl a b c => exact .vsl (hv _ _ a) b c
    | vsl0 => exact .vsl0
  | .ptr .. => .one rfl fun v hr => by
    cases hr with
    | agg hr _ _ => cases hr
    | ptr a => exact .ptr (hv _ _ a)
  | .map _ => .one rfl fun v hr => by
    obtain ⟨b, rfl, hb⟩ := hr.map_inv
    exact .map (hv _ _ hb)
  | .func fn a c => .one rfl fun v hr => by
    obtain ⟨fs, cs, rfl, h1, h2⟩ := hr.func_inv
    exact .func ((A.ren_bothL hv a).1 _ h1) ((A.ren_bothL hv c).1 _ h2)
  | .iface t x => .one rfl fun v hr => by
    obtain ⟨u, rfl, h1⟩ := hr.iface_inv
    exact .iface ((A.ren_both hv x).1 _ h1)
  | .tup l => .one rfl fun v hr => by
    obtain ⟨vs, rfl, h1⟩ := hr.tup_inv
    exact .tup ((A.ren_bothL hv l).1 _ h1)
theorem A.ren_bothL (hv : ∀ n l, ρ n = some l → ρ' (f n) = some l) : ∀ (x : List A), (∀ vs, RL I ρ x vs → RL I ρ' (A.renL f x) vs) ∧ (∀ vs, A.wfL x → RL I ρ (A.cellsL x) vs → RL I ρ' (A.cellsL (A.renL f x)) vs)
  | [] => ⟨fun vs h => by cases h; exact .nil, fun vs _ h => by
    simp only [A.cellsL] at h
    cases h; exact RL.nil⟩
  | x :: xs => by
    refine ⟨fun vs h => ?_, fun vs hw hr => ?_⟩
    · cases h with
      | cons a b => exact .cons ((A.ren_both hv x).1 _ a) ((A.ren_bothL hv xs).1 _ b)
    · obtain ⟨k1, k2⟩ := RL.split (xs := x.cells) (ys := A.cellsL xs) hr
      have e := RL.append ((A.ren_both hv x).2 _ hw.1 k1) ((A.ren_bothL hv xs).2 _ hw.2 k2)
      rw [List.take_append_drop] at e
      exact e
end

theorem Obj.ren_ok (hv : ∀ n l, ρ n = some l → ρ' (f n) = some l) : ∀ {ob : Obj} {vs : List Value}, HoldsC I ρ ob vs → HoldsC I ρ' (ob.ren f) vs
  | .var x, vs, h => ⟨(A.ren_size x).2.2 h.1, (A.ren_both hv x).2 _ h.1 h.2⟩
  | .arr .., vs, h => h
  | .smap .., vs, h => h

/-! ### flat data -/
def FlatOK (I I' : Imm) (ρ : Ren) (x : A) : Prop :=
  (∀ v, x.flat → R I ρ x v → R I' ρ x v) ∧ (∀ vs, x.flat → x.wf → RL I ρ x.cells vs → RL I' ρ x.cells vs)
theorem FlatOK.one {x : A} (hx : isAgg x = false) (h : ∀ v, x.flat → R I ρ x v → R I' ρ x v) : FlatOK I I' ρ x := by
  refine ⟨h, fun vs hf hw hr => ?_⟩
  rw [cells_of_one hx] at hr ⊢
  obtain ⟨v, rfl, hv⟩ := hr.one_inv
  exact .cons (h v hf hv) .nil
theorem FlatOK.agg {x : A} (hx : isAgg x = true) (h : ∀ vs, x.flat → x.wf → RL I ρ x.cells vs → RL I' ρ x.cells vs) : FlatOK I I' ρ x := by
  refine ⟨fun v hf hr => ?_, h⟩
  obtain ⟨vs, rfl, hw, hr⟩ := hr.agg_inv hx
  exact .agg hx hw (h vs hf hw hr)

theorem RL.flatMap {g : Nat → A} : ∀ (l : List Nat) {vs : List Value}, (∀ i ∈ l, ∀ vs, RL I ρ (g i).cells vs → RL I' ρ (g i).cells vs) → RL I ρ (l.flatMap fun i => (g i).cells) vs → RL I' ρ (l.flatMap fun i => (g i).cells) vs
  | [], vs, _, h => by
    simp only [List.flatMap_nil] at h ⊢
    cases h; exact .nil
  | i :: l, vs, hg, h => by
    rw [List.flatMap_cons] at h ⊢
    obtain ⟨k1, k2⟩ := RL.split h
    have e := RL.append (hg i List.mem_cons_self _ k1) (RL.flatMap l (fun j hj => hg j (List.mem_cons_of_mem _ hj)) k2)
    rw [List.take_append_drop] at e
    exact e

mutual
theorem A.flat_both : ∀ (x : A), FlatOK I I' ρ x
  | .vec sz n g => .agg rfl fun vs hf hw hr => by
    simp only [A.flat] at hf
    simp only [A.cells] at hr ⊢
    exact RL.flatMap (List.range n) (fun i hi vs h => (A.flat_both (g i)).2 vs (hf i (List.mem_range.1 hi)) (hw i (List.mem_range.1 hi)).1 h) hr
  | .agg ps => .agg rfl fun vs hf hw hr => (A.flat_bothL ps).2 vs hf hw hr
  | .int .. => .one rfl fun v _ hr => by cases hr.int_inv; exact .int
  | .bool _ => .one rfl fun v _ hr => by cases hr.bool_inv; exact .bool
  | .str _ => .one rfl fun v _ hr => by cases hr.str_inv; exact .str
  | .ro .. => .one rfl fun v h hr => by simp [A.flat] at h
  | .rol .. => .one rfl fun v h hr => by simp [A.flat] at h
  | .rop _ => .one rfl fun v h hr => by simp [A.flat] at h
  | .nils => .one rfl fun v _ hr => by cases hr.nils_inv; exact .nils
  | .nilp => .one rfl fun v _ hr => by cases hr.nilp_inv; exact .nilp
  | .nilm => .one rfl fun v _ hr => by cases hr.nilm_inv; exact .nilm
  | .nilf => .one rfl fun v _ hr => by cases hr.nilf_inv; exact .nilf
  | .nili => .one rfl fun v _ hr => by cases hr.nili_inv; exact .nili
  | .any => .one rfl fun v _ hr => .any
  | .own .. => .one rfl fun v _ hr => by
    cases hr with
    | agg hr _ _ => cases hr
    | own a b c => exact .own a b c
    | own0 => exact .own0
  | .owl .. => .one rfl fun v _ hr => by
    cases hr with
    | agg hr _ _ => cases hr
    | owl a b => exact .owl a b
    | owl0 => exact .owl0
  | .vsl .. => .one rfl fun v _ hr => by
    cases hr with
    | agg hr _ _ => cases hr
    | vsl a b c => exact .vsl a b c
    | vsl0 => exact .vsl0
  | .ptr .. => .one rfl fun v _ hr => by
    cases hr with
    | agg hr _ _ => cases hr
    | ptr a => exact .ptr a
  | .map _ => .one rfl fun v _ hr => by
    obtain ⟨b, rfl, hb⟩ := hr.map_inv
    exact .map hb
  | .func fn a c => .one rfl fun v hf hr => by
    obtain ⟨fs, cs, rfl, h1, h2⟩ := hr.func_inv
    simp only [A.flat] at hf
    exact .func ((A.flat_bothL a).1 _ hf.1 h1) ((A.flat_bothL c).1 _ hf.2 h2)
  | .iface t x => .one rfl fun v hf hr => by
    obtain ⟨u, rfl, h1⟩ := hr.iface_inv
    simp only [A.flat] at hf
    exact .iface ((A.flat_both x).1 _ hf h1)
  | .tup l => .one rfl fun v hf hr => by
    obtain ⟨vs, rfl, h1⟩ := hr.tup_inv
    simp only [A.flat] at hf
    exact .tup ((A.flat_bothL l).1 _ hf h1)
theorem A.flat_bothL : ∀ (x : List A), (∀ vs, A.flatL x → RL I ρ x vs → RL I' ρ x vs) ∧ (∀ vs, A.flatL x → A.wfL x → RL I ρ (A.cellsL x) vs → RL I' ρ (A.cellsL x) vs)
  | [] => ⟨fun vs _ h => by cases h; exact .nil, fun vs _ _ h => by
    simp only [A.cellsL] at h ⊢
    cases h; exact RL.nil⟩
  | x :: xs => by
    refine ⟨fun vs hf h => ?_, fun vs hf hw hr => ?_⟩
    · cases h with
      | cons a b => exact .cons ((A.flat_both x).1 _ hf.1 a) ((A.flat_bothL xs).1 _ hf.2 b)
    · obtain ⟨k1, k2⟩ := RL.split (xs := x.cells) (ys := A.cellsL xs) hr
      have e := RL.append ((A.flat_both x).2 _ hf.1 hw.1 k1) ((A.flat_bothL xs).2 _ hf.2 hw.2 k2)
      rw [List.take_append_drop] at e
      exact e
end

theorem Obj.flat_ok : ∀ {ob : Obj} {vs : List Value}, ob.flat → HoldsC I ρ ob vs → HoldsC I' ρ ob vs
  | .var x, vs, hf, h => ⟨h.1, (A.flat_both x).2 _ hf h.1 h.2⟩
  | .arr _ n g, vs, hf, h => ⟨h.1, h.2.1, fun i hi => (A.flat_both (g i)).2 _ (hf i hi) (h.2.1 i hi).1 (h.2.2 i hi)⟩
  | .smap .., vs, hf, h => h
end
end VX

/- VX 26: what is said of a function; its begin and its end. -/
namespace VX
open Go

/-- The blocks of what is handed over. -/
def Fp (ρ : Ren) (us : List Nat) (b : Nat) : Prop := ∃ n N, hasN us n = true ∧ ρ n = some (.blk b N)
def nOf (P : Program) (f : FuncId) : Nat := match P.funcs[f]? with | some fn => fn.ntmps | none => 0
def entry (w : World) (I : Imm) (ρ : Ren) (us : List Nat) (n : Nat) : Ctx := ⟨w, I, Fp ρ us, n, ρ⟩

/-- What a call comes back with. -/
def Back (Γ : Ctx) (us : List Nat) (Y : A → List (Nat × Option Obj) → Prop) (v : Value) (w : World) : Prop :=
  ∃ y r I ρ, Y y r ∧ R I ρ y v ∧ RW Γ I ρ r us w

/-- The function f, called with xs while r is owned, comes back; with what, Y tells; new: the names of what it makes. -/
def Does (P : Program) (f : FuncId) (xs : List A) (r : List (Nat × Option Obj)) (new : List Nat) (Y : A → List (Nat × Option Obj) → Prop) : Prop :=
  ∀ I ρ w args, RL I ρ xs args → RW (entry w I ρ (keys r) (nOf P f)) I ρ r (keys r) w →
    Calls P f args.toArray w fun
      | .returned v, w' => Back (entry w I ρ (keys r) (nOf P f)) (new ++ keys r) Y v w'
      | _, _ => False

/-- At the end of the function. -/
def Ret (Γ : Ctx) (P : Program) (fn : Func) (us : List Nat) (Y : A → List (Nat × Option Obj) → Prop) (a : Act) (w : World) : Prop :=
  a.defers = [] ∧ ∃ v, (results fn a.tmps).run P w = .ok v w ∧ Back Γ us Y v w

def slots : Nat → List A → List (Nat × A)
  | _, [] => []
  | k, x :: xs => (k, x) :: slots (k + 1) xs

theorem slots_look : ∀ {xs : List A} {k t : Nat} {x : A}, look (slots k xs) t = some x → k ≤ t ∧ xs[t - k]? = some x
  | [], k, t, x, h => by simp [slots, look] at h
  | y :: ys, k, t, x, h => by
    rw [slots, look_cons] at h
    by_cases e : k = t
    · subst e
      simp only [if_true, Option.some.injEq] at h
      subst h
      simp
    · rw [if_neg e] at h
      obtain ⟨h1, h2⟩ := slots_look h
      refine ⟨by omega, ?_⟩
      rw [show t - k = (t - (k + 1)) + 1 by omega]
      simpa using h2

theorem calls_of_WK {P : Program} {f : FuncId} {fn : Func} {c : Code} {args : Array Value} {w : World} {R : Ending → World → Prop} (hf : P.funcs[f]? = some fn) (hb : fn.body = some c)
    (h : WK P (fun a w => a.defers = [] ∧ ∃ v, (results fn a.tmps).run P w = .ok v w ∧ R (.returned v) w) [.code c] { tmps := args ++ Array.replicate (fn.ntmps - args.size) undef, defers := [] } w) :
    Calls P f args w R := by
  intro cs
  let b : Frame := { (default : Frame) with fn := f, kind := .normal }
  have henter : Frame.enter P f args .normal =
      b.at { tmps := args ++ Array.replicate (fn.ntmps - args.size) undef, defers := [] } [.code c] := by
    simp [Frame.enter, Frame.at, hf, hb, b]
  obtain ⟨a', w', todo, ⟨hd, v, hr, hR⟩, hs⟩ := h b cs
  rw [← henter] at hs
  exact ⟨.returned v, w', _, hR, hs, rfl, rfl, hd, rfl, fn, hf, hr⟩

theorem Does.intro {P : Program} {f : FuncId} {fn : Func} {c : Code} {xs : List A} {r : List (Nat × Option Obj)} {new : List Nat} {Y : A → List (Nat × Option Obj) → Prop} (hf : P.funcs[f]? = some fn) (hb : fn.body = some c)
    (hn : Nat.ble xs.length fn.ntmps = true) (h : ∀ Γ : Ctx, fn.ntmps = Γ.n → W Γ P (Ret Γ P fn (new ++ keys r) Y) [] [.code c] (slots 0 xs) r (keys r)) : Does P f xs r new Y := by
  intro I ρ w args ha hR
  refine calls_of_WK hf hb ?_
  have hnn : fn.ntmps = nOf P f := by simp [nOf, hf]
  have hl := ha.length
  have hn := Nat.le_of_ble_eq_true hn
  refine (h (entry w I ρ (keys r) (nOf P f)) hnn).ok _ w I ρ hR ⟨?_, rfl, fun t x hx => ?_⟩ .nil
  · simp
    show args.length + (fn.ntmps - args.length) = nOf P f
    omega
  · obtain ⟨_, hx⟩ := slots_look hx
    obtain ⟨v, hv, hr⟩ := ha.get hx
    rw [Nat.sub_zero] at hv
    have hlt : t < args.length := by
      rcases Nat.lt_or_ge t args.length with h | h
      · exact h
      · rw [List.getElem?_eq_none h] at hv; cases hv
    refine ⟨?_, ?_⟩
    · show t < nOf P f
      omega
    · have : (args.toArray ++ Array.replicate (fn.ntmps - args.toArray.size) undef).getD t undef = v := by
        rw [Array.getD_eq_getD_getElem?, Array.getElem?_append_left (by simpa using hlt)]
        simp [hv]
      rw [this]
      exact hr

def resVal (T : Tab) (τ : List (Nat × A)) (r : List (Nat × Option Obj)) : ResultVar → Option (A × List Prop)
  | .tmp t => match look τ t with
    | some x => some (x, [])
    | none => none
  | .cell a t => match look τ a with
    | some x => (match looks r (idOf x) with
      | some obs => (match pLoad T t obs [x] with
        | some ⟨c, v, _, _⟩ => some (v, c)
        | none => none)
      | none => none)
    | none => none
def resVals (T : Tab) (τ : List (Nat × A)) (r : List (Nat × Option Obj)) : List ResultVar → Option (List A × List Prop)
  | [] => some ([], [])
  | x :: xs => match resVal T τ r x with
    | some (y, c) => (match resVals T τ r xs with
      | some (ys, c') => some (y :: ys, c ++ c')
      | none => none)
    | none => none
def oneOr : List A → A
  | [x] => x
  | l => .tup l

section
variable {P : Program} {T : Tab} {Γ : Ctx} {I : Imm} {ρ : Ren} {r : List (Nat × Option Obj)} {us : List Nat} {w : World}

theorem load_same {t : Nat} {obs : List Obj} {xs : List A} {out : Out} (h : pLoad T t obs xs = some out) : out.w = [] ∧ out.al = false := by
  unfold pLoad at h
  split at h <;> (try (cases h; done))
  split at h <;> (try (cases h; done))
  generalize knownD _ = q at h
  cases q <;> (try (cases h; done))
  simp only [cond_true] at h
  split at h <;> (try (cases h; done))
  · simp only [Option.some.injEq] at h; subst h; exact ⟨rfl, rfl⟩
  · split at h <;> (try (cases h; done))
    split at h <;> (try (cases h; done))
    simp only [Option.some.injEq] at h; subst h; exact ⟨rfl, rfl⟩

/-- The loads of the end change nothing. -/
theorem loadAt_pure {t : Nat} {x v : Value} {w' : World} (h : (Instr.loadAt t x).run P w = .ok v w') : ∃ a, x = .pointer (some a) ∧ (loadVar t a).run P w = .ok v w' := by
  unfold Instr.loadAt at h
  rw [Sem.run_bind] at h
  cases x with
  | pointer a =>
    cases a with
    | none => simp [Instr.sureAddr, stuck, Result.andThen] at h
    | some a => exact ⟨a, rfl, by simpa [Instr.sureAddr, Result.andThen_ok] using h⟩
  | _ => simp [Instr.sureAddr, stuck, Result.andThen] at h

def resRun (tmps : Array Value) : ResultVar → Sem Value
  | .tmp t => pure (tmps.getD t undef)
  | .cell a t => do loadVar t (← asAddr (tmps.getD a undef))

theorem resVal_ok (hT : TabOK P T.l) {n : Nat} {τ : List (Nat × A)} {a : Act} (hS : Slots I ρ n τ a) (hR : RW Γ I ρ r us w) {x : ResultVar} {y : A} {c : List Prop} (h : resVal T τ r x = some (y, c)) (hc : allP c) :
    ∃ v ρ', (resRun a.tmps x).run P w = .ok v w ∧ ρ.le ρ' ∧ RW Γ I ρ' r us w ∧ R I ρ' y v := by
  unfold resVal at h
  split at h
  · split at h
    · rename_i hx
      simp only [Option.some.injEq, Prod.mk.injEq] at h
      obtain ⟨rfl, rfl⟩ := h
      exact ⟨_, ρ, rfl, Ren.le.refl _, hR, (hS.at_ _ _ hx).2⟩
    · cases h
  · split at h
    · rename_i x hx
      split at h
      · rename_i obs hobs
        split at h
        · rename_i c' v' w' al hl
          simp only [Option.some.injEq, Prod.mk.injEq] at h
          obtain ⟨rfl, rfl⟩ := h
          have hxr := (hS.at_ _ _ hx).2
          have hsame := load_same hl
          simp only at hsame
          obtain ⟨rfl, rfl⟩ := hsame
          obtain ⟨x', hx', v, hrun, hd⟩ := load_ok (P := P) (nm := 0) hT hl hR (.cons hxr .nil) (by simpa [idsOf] using hobs) hc
          simp only [List.cons.injEq, and_true] at hx'
          subst hx'
          obtain ⟨ad, hx', hlv⟩ := loadAt_pure hrun
          obtain ⟨nx, v1, w1, ρ1, he, hv1, hle, hR1, hr1⟩ := hd.ex
          cases he
          simp only [nxV, Option.some.injEq] at hv1
          subst hv1
          exact ⟨v, ρ1, by simpa [resRun, hx', asAddr, Sem.run_bind] using hlv, hle, hR1, hr1⟩
        · cases h
      · cases h
    · cases h

theorem resVals_ok (hT : TabOK P T.l) {n : Nat} {τ : List (Nat × A)} {a : Act} : ∀ (xs : List ResultVar) {ρ : Ren} {ys : List A} {c : List Prop}, Slots I ρ n τ a → RW Γ I ρ r us w → resVals T τ r xs = some (ys, c) → allP c →
    ∃ vs ρ', (xs.mapM (resRun a.tmps)).run P w = .ok vs w ∧ ρ.le ρ' ∧ RW Γ I ρ' r us w ∧ RL I ρ' ys vs
  | [], ρ, ys, c, hS, hR, h, hc => by
    simp only [resVals, Option.some.injEq, Prod.mk.injEq] at h
    obtain ⟨rfl, rfl⟩ := h
    exact ⟨[], ρ, by simp, Ren.le.refl _, hR, .nil⟩
  | x :: xs, ρ, ys, c, hS, hR, h, hc => by
    unfold resVals at h
    split at h
    · rename_i y c1 h1
      split at h
      · rename_i ys' c2 h2
        simp only [Option.some.injEq, Prod.mk.injEq] at h
        obtain ⟨rfl, rfl⟩ := h
        obtain ⟨hc1, hc2⟩ := allP_append.1 hc
        obtain ⟨v, ρ1, hr1, hle1, hR1, hv1⟩ := resVal_ok hT hS hR h1 hc1
        obtain ⟨vs, ρ2, hr2, hle2, hR2, hv2⟩ := resVals_ok hT xs (hS.mono (Imm.le.refl I) hle1) hR1 h2 hc2
        exact ⟨v :: vs, ρ2, by simp [List.mapM_cons, Sem.run_bind, hr1, hr2], hle1.trans hle2, hR2, .cons (hv1.mono (Imm.le.refl I) hle2) hv2⟩
      · cases h
    · cases h

theorem results_eq (fn : Func) (tmps : Array Value) : results fn tmps = (do
    let vs ← fn.results.mapM (resRun tmps)
    pure (if h : vs.size = 1 then vs[0] else .tuple vs)) := by
  unfold results
  congr 1

theorem results_ok (hT : TabOK P T.l) {n : Nat} {τ : List (Nat × A)} {a : Act} {fn : Func} {ys : List A} {c : List Prop} (hS : Slots I ρ n τ a) (hR : RW Γ I ρ r us w) (h : resVals T τ r fn.results.toList = some (ys, c)) (hc : allP c) :
    ∃ v ρ', (results fn a.tmps).run P w = .ok v w ∧ ρ.le ρ' ∧ RW Γ I ρ' r us w ∧ R I ρ' (oneOr ys) v := by
  obtain ⟨vs, ρ', hr, hle, hR', hv⟩ := resVals_ok hT _ hS hR h hc
  have hl := hv.length
  have hrun : (fn.results.mapM (resRun a.tmps)).run P w = .ok vs.toArray w := by
    rw [Array.mapM_eq_mapM_toList]
    simp [hr]
  rw [results_eq]
  simp only [Sem.run_bind, hrun, Result.andThen_ok, Sem.run_pure]
  cases hv with
  | nil => exact ⟨_, ρ', rfl, hle, hR', .tup .nil⟩
  | cons a1 b =>
    cases b with
    | nil => exact ⟨_, ρ', rfl, hle, hR', a1⟩
    | cons a2 b =>
      refine ⟨_, ρ', rfl, hle, hR', ?_⟩
      simp only [List.size_toArray, List.length_cons, oneOr]
      rw [dif_neg (by omega)]
      exact .tup (.cons a1 (.cons a2 b))

/-- The end; π: the pairs of told and present names. -/
theorem W.ret (hT : TabOK P T.l) (π : List (Nat × Nat)) {fn : Func} {us' : List Nat} {Y : A → List (Nat × Option Obj) → Prop} {g : List (Nat × Nat × Bool)} {k : List Item} {τ : List (Nat × A)} (hk : k = [] ∨ ∃ k', k = .code .ret :: k') {ys : List A} {c : List Prop}
    (hres : resVals T τ r fn.results.toList = some (ys, c)) (hc : allP c) {y : A} {r' : List (Nat × Option Obj)} (hY : Y y r') (hle : A.leT π (oneOr ys) y) (hsub : subR π r r') (hn : nodupN (vals π) = true) (hkp : keepN π = true) (hus : keys π = us') :
    W Γ P (Ret Γ P fn us' Y) g k τ r us := by
  refine ⟨fun a w I ρ hR hS _ b cs => ?_⟩
  obtain ⟨v, ρ', hrun, hle', hR', hv⟩ := results_ok hT hS hR hres hc
  refine ⟨a, w, k, ⟨hS.defers, v, hrun, y, r', I, viaRen π ρ', hY, A.leT_ok (viaRen_via π ρ') hle hv, hR'.via hn hkp hus hsub⟩, ?_⟩
  rcases hk with rfl | ⟨k', rfl⟩
  · exact .one step_end
  · exact .one step_ret

/-- What is to be shown at a return; π: the pairs of told and present names. -/
structure AtRet (T : Tab) (fn : Func) (us' : List Nat) (Y : A → List (Nat × Option Obj) → Prop) (τ : List (Nat × A)) (r : List (Nat × Option Obj)) (π : List (Nat × Nat)) (ys : List A) (c : List Prop) (y : A) (r' : List (Nat × Option Obj)) : Prop where
  hres : resVals T τ r fn.results.toList = some (ys, c)
  hn : nodupN (vals π) = true
  hk : keepN π = true
  hus : keys π = us'
  hY : Y y r'
  hc : allP c
  hle : A.leT π (oneOr ys) y
  hsub : subR π r r'
theorem W.atRet (hT : TabOK P T.l) {fn : Func} {us' : List Nat} {Y : A → List (Nat × Option Obj) → Prop} {g : List (Nat × Nat × Bool)} {k : List Item} {τ : List (Nat × A)} {π : List (Nat × Nat)} {ys : List A} {c : List Prop} {y : A} {r' : List (Nat × Option Obj)}
    (h : AtRet T fn us' Y τ r π ys c y r') : W Γ P (Ret Γ P fn us' Y) g (.code .ret :: k) τ r us :=
  W.ret hT π (.inr ⟨k, rfl⟩) h.hres h.hc h.hY h.hle h.hsub h.hn h.hk h.hus
theorem W.atEnd (hT : TabOK P T.l) {fn : Func} {us' : List Nat} {Y : A → List (Nat × Option Obj) → Prop} {g : List (Nat × Nat × Bool)} {τ : List (Nat × A)} {π : List (Nat × Nat)} {ys : List A} {c : List Prop} {y : A} {r' : List (Nat × Option Obj)}
    (h : AtRet T fn us' Y τ r π ys c y r') : W Γ P (Ret Γ P fn us' Y) g [] τ r us :=
  W.ret hT π (.inl rfl) h.hres h.hc h.hY h.hle h.hsub h.hn h.hk h.hus
end
end VX

/- VX 27: calls. -/
namespace VX
open Go

/-! ### what is lent for the time of a call -/
/-- v, handed over as x; ld: the names of what is lent. -/
def lent (π : List (Nat × Nat)) (r : List (Nat × Option Obj)) (ld : List Nat) (v x : A) : Prop :=
  match v, x with
  | .own sz id off n, .ro sz' n' g' => hasN ld id = true ∧ sz = sz' ∧ n = n' ∧ (match look r id with
    | some (some (.arr s m g)) => s = sz ∧ off + n ≤ m ∧ ∀ i, i < n → (g (off + i)).sim (g' i)
    | _ => False)
  | .vsl sz id path o n, .ro sz' n' g' => hasN ld id = true ∧ sz = sz' ∧ n = n' ∧ (match look r id with
    | some (some (.var x)) => (match getP path x with
      | some (.vec s m g, c) => s = sz ∧ allP c ∧ o + n ≤ m ∧ ∀ i, i < n → (g (o + i)).sim (g' i)
      | _ => False)
    | _ => False)
  | .ptr id path, .rop y => hasN ld id = true ∧ y.pureP ∧ (match look r id with
    | some (some ob) => (match loadO ob path y.size with
      | some (z, c) => allP c ∧ z.pureP ∧ z.sim y
      | none => False)
    | _ => False)
  | v, x => A.le π v x
def lentL (π : List (Nat × Nat)) (r : List (Nat × Option Obj)) (ld : List Nat) : List A → List A → Prop
  | [], [] => True
  | v :: vs, x :: xs => lent π r ld v x ∧ lentL π r ld vs xs
  | _, _ => False

def Lends (ρ : Ren) (ld : List Nat) (b : Nat) : Prop := ∃ id N, hasN ld id = true ∧ ρ id = some (.blk b N)
open Classical in
noncomputable def lendI (w : World) (ρ : Ren) (ld : List Nat) (I : Imm) : Imm := fun b o => if Lends ρ ld b then w.cell? ⟨b, o, none⟩ else I b o
open Classical in
noncomputable def backI (ρ : Ren) (ld : List Nat) (I : Imm) : Imm := fun b o => if Lends ρ ld b then none else I b o

def liveN (r : List (Nat × Option Obj)) : List Nat → Bool
  | [] => true
  | n :: l => (match look r n with | some (some _) => true | _ => false) && liveN r l
def apartN (l : List Nat) : List Nat → Bool
  | [] => true
  | n :: m => !hasN l n && apartN l m
def freshL (us : List Nat) : List Nat → Bool
  | [] => true
  | n :: l => !usedN us n && freshL us l
def geL : List Nat → Bool
  | [] => true
  | n :: l => Nat.ble 1000 n && geL l
def zipN : List Nat → List Nat → List (Nat × Nat)
  | n :: l, m :: k => (n, m) :: zipN l k
  | _, _ => []
def callRen (πn π : List (Nat × Nat)) (n : Nat) : Nat :=
  match look πn n with
  | some m => m
  | none => match look π n with
    | some m => m
    | none => 0
def renR (f : Nat → Nat) : List (Nat × Option Obj) → List (Nat × Option Obj)
  | [] => []
  | (n, some ob) :: l => (f n, some (ob.ren f)) :: renR f l
  | (n, none) :: l => (f n, none) :: renR f l
def gone : List Nat → List (Nat × Option Obj) → List (Nat × Option Obj)
  | [], r => r
  | n :: l, r => (n, none) :: gone l r
def appR : List (Nat × Option Obj) → List (Nat × Option Obj) → List (Nat × Option Obj)
  | [], r => r
  | x :: l, r => x :: appR l r
def appN : List Nat → List Nat → List Nat
  | [], r => r
  | x :: l, r => x :: appN l r
def flatR : List (Nat × Option Obj) → Prop
  | [] => True
  | (_, some ob) :: l => ob.flat ∧ flatR l
  | (_, none) :: l => flatR l

theorem appN_eq (l k : List Nat) : appN l k = l ++ k := by induction l <;> simp_all [appN]
theorem appR_eq (l k : List (Nat × Option Obj)) : appR l k = l ++ k := by induction l <;> simp_all [appR]
theorem usedN_append (l k : List Nat) (n : Nat) : usedN (l ++ k) n = (hasN l n || usedN k n) := by
  induction l with
  | nil => simp [hasN]
  | cons m l ih => rw [List.cons_append, usedN_cons, ih, hasN_cons, Bool.or_assoc]
theorem liveN_ok {r : List (Nat × Option Obj)} : ∀ {l : List Nat}, liveN r l = true → ∀ {n : Nat}, hasN l n = true → ∃ ob, look r n = some (some ob)
  | [], _, n, h => by simp [hasN] at h
  | m :: l, hl, n, h => by
    rw [liveN, Bool.and_eq_true] at hl
    rw [hasN_cons, Bool.or_eq_true, decide_eq_true_eq] at h
    rcases h with rfl | h
    · have := hl.1
      split at this
      · exact ⟨_, ‹_›⟩
      · cases this
    · exact liveN_ok hl.2 h
theorem apartN_ok {l : List Nat} : ∀ {m : List Nat}, apartN l m = true → ∀ {n : Nat}, hasN m n = true → hasN l n = false
  | [], _, n, h => by simp [hasN] at h
  | k :: m, hl, n, h => by
    rw [apartN, Bool.and_eq_true, Bool.not_eq_true'] at hl
    rw [hasN_cons, Bool.or_eq_true, decide_eq_true_eq] at h
    rcases h with rfl | h
    · exact hl.1
    · exact apartN_ok hl.2 h
theorem freshL_ok {us : List Nat} : ∀ {l : List Nat}, freshL us l = true → ∀ {n : Nat}, hasN l n = true → usedN us n = false
  | [], _, n, h => by simp [hasN] at h
  | k :: m, hl, n, h => by
    rw [freshL, Bool.and_eq_true, Bool.not_eq_true'] at hl
    rw [hasN_cons, Bool.or_eq_true, decide_eq_true_eq] at h
    rcases h with rfl | h
    · exact hl.1
    · exact freshL_ok hl.2 h
theorem geL_ok : ∀ {l : List Nat}, geL l = true → ∀ {n : Nat}, hasN l n = true → 1000 ≤ n
  | [], _, n, h => by simp [hasN] at h
  | k :: m, hl, n, h => by
    rw [geL, Bool.and_eq_true] at hl
    rw [hasN_cons, Bool.or_eq_true, decide_eq_true_eq] at h
    rcases h with rfl | h
    · exact Nat.le_of_ble_eq_true hl.1
    · exact geL_ok hl.2 h
theorem zipN_look : ∀ {l k : List Nat}, l.length = k.length → nodupN k = true → ∀ {n m : Nat}, look (zipN l k) n = some m → look (zipN k l) m = some n ∧ hasN k m = true
  | [], _, _, _, n, m, h => by simp [zipN, look] at h
  | a :: l, [], hl, _, n, m, h => by simp at hl
  | a :: l, b :: k, hl, hk, n, m, h => by
    rw [nodupN, Bool.and_eq_true, Bool.not_eq_true'] at hk
    rw [zipN, look_cons] at h
    rw [zipN, look_cons, hasN_cons]
    by_cases e : a = n
    · rw [if_pos e] at h
      cases h
      subst e
      simp
    · rw [if_neg e] at h
      obtain ⟨h1, h2⟩ := zipN_look (by simpa using hl) hk.2 h
      by_cases e' : b = m
      · subst e'
        rw [hk.1] at h2; cases h2
      · rw [if_neg e']
        exact ⟨h1, by simp [h2]⟩
theorem zipN_mem : ∀ {l k : List Nat}, l.length = k.length → ∀ {n : Nat}, hasN l n = true → ∃ m, look (zipN l k) n = some m
  | [], _, _, n, h => by simp [hasN] at h
  | a :: l, [], hl, n, h => by simp at hl
  | a :: l, b :: k, hl, n, h => by
    rw [zipN, look_cons]
    rw [hasN_cons, Bool.or_eq_true, decide_eq_true_eq] at h
    by_cases e : a = n
    · exact ⟨b, by rw [if_pos e]⟩
    · rw [if_neg e]
      exact zipN_mem (by simpa using hl) (h.resolve_left e)
theorem zipN_has : ∀ {l k : List Nat} {n m : Nat}, look (zipN l k) n = some m → hasN l n = true
  | [], _, n, m, h => by simp [zipN, look] at h
  | a :: l, [], n, m, h => by simp [zipN, look] at h
  | a :: l, b :: k, n, m, h => by
    rw [zipN, look_cons] at h
    rw [hasN_cons]
    by_cases e : a = n
    · simp [e]
    · rw [if_neg e] at h
      simp [zipN_has h]
theorem look_append {α : Type} : ∀ (l k : List (Nat × α)) (n : Nat), look (l ++ k) n = match look l n with | some v => some v | none => look k n
  | [], k, n => rfl
  | (m, v) :: l, k, n => by
    rw [List.cons_append, look_cons, look_cons, look_append l k n]
    by_cases e : m = n <;> simp [e]
theorem renR_look {f : Nat → Nat} : ∀ {r : List (Nat × Option Obj)} {m : Nat} {o : Option Obj}, look (renR f r) m = some o → ∃ n o', look r n = some o' ∧ f n = m ∧ o = o'.map (Obj.ren f)
  | [], m, o, h => by simp [renR, look] at h
  | (k, some ob) :: l, m, o, h => by
    rw [renR, look_cons] at h
    by_cases e : f k = m
    · rw [if_pos e] at h
      cases h
      exact ⟨k, some ob, by rw [look_cons, if_pos rfl], e, rfl⟩
    · rw [if_neg e] at h
      obtain ⟨n, o', h1, h2, h3⟩ := renR_look h
      refine ⟨n, o', ?_, h2, h3⟩
      rw [look_cons, if_neg (by rintro rfl; exact e h2)]
      exact h1
  | (k, none) :: l, m, o, h => by
    rw [renR, look_cons] at h
    by_cases e : f k = m
    · rw [if_pos e] at h
      cases h
      exact ⟨k, none, by rw [look_cons, if_pos rfl], e, rfl⟩
    · rw [if_neg e] at h
      obtain ⟨n, o', h1, h2, h3⟩ := renR_look h
      refine ⟨n, o', ?_, h2, h3⟩
      rw [look_cons, if_neg (by rintro rfl; exact e h2)]
      exact h1
theorem gone_look : ∀ {l : List Nat} {r : List (Nat × Option Obj)} {m : Nat} {ob : Obj}, look (gone l r) m = some (some ob) → hasN l m = false ∧ look r m = some (some ob)
  | [], r, m, ob, h => ⟨rfl, h⟩
  | k :: l, r, m, ob, h => by
    rw [gone, look_cons] at h
    by_cases e : k = m
    · rw [if_pos e] at h; cases h
    · rw [if_neg e] at h
      have := gone_look h
      rw [hasN_cons]
      simp [e, this]
theorem flatR_look : ∀ {r : List (Nat × Option Obj)} {m : Nat} {ob : Obj}, flatR r → look r m = some (some ob) → ob.flat
  | [], _, _, _, h => by simp [look] at h
  | (k, some ob') :: l, m, ob, hf, h => by
    rw [look_cons] at h
    by_cases e : k = m
    · rw [if_pos e] at h; cases h; exact hf.1
    · rw [if_neg e] at h; exact flatR_look hf.2 h
  | (k, none) :: l, m, ob, hf, h => by
    rw [look_cons] at h
    by_cases e : k = m
    · rw [if_pos e] at h; cases h
    · rw [if_neg e] at h; exact flatR_look (r := l) hf h
theorem keys_has {α : Type} : ∀ {l : List (Nat × α)} {m : Nat}, hasN (keys l) m = true → ∃ v, look l m = some v
  | [], _, h => by simp [keys, hasN] at h
  | (k, v) :: l, m, h => by
    rw [keys, hasN_cons, Bool.or_eq_true, decide_eq_true_eq] at h
    rw [look_cons]
    by_cases e : k = m
    · exact ⟨v, by rw [if_pos e]⟩
    · rw [if_neg e]
      exact keys_has (h.resolve_left e)

section
variable {P : Program} {Γ : Ctx} {I : Imm} {ρ : Ren} {r : List (Nat × Option Obj)} {us : List Nat} {w : World} {ld : List Nat} {π : List (Nat × Nat)}

/-- What is lent lies in blocks of its own. -/
theorem Lends.own (hR : RW Γ I ρ r us w) (hl : liveN r ld = true) {b : Nat} (h : Lends ρ ld b) : ∃ id N ob, hasN ld id = true ∧ look r id = some (some ob) ∧ ρ id = some (.blk b N) ∧ OwnB Γ I ρ w b N ob := by
  obtain ⟨id, N, h1, h2⟩ := h
  obtain ⟨ob, hob⟩ := liveN_ok hl h1
  exact ⟨id, N, ob, h1, hob, h2, hR.lt_of_own hob h2⟩

theorem le_lendI (hR : RW Γ I ρ r us w) (hl : liveN r ld = true) : I.le (lendI w ρ ld I) := fun b o v h => by
  unfold lendI
  split
  · rename_i hL
    obtain ⟨id, N, ob, _, _, _, hO⟩ := hL.own hR hl
    rw [hO.noI] at h; cases h
  · exact h

theorem lent_ok (hR : RW Γ I ρ r us w) (hl : liveN r ld = true) {v x : A} {u : Value} (h : lent π r ld v x) (hv : R I ρ v u) : R (lendI w ρ ld I) (viaRen π ρ) x u := by
  have hle := le_lendI (ld := ld) hR hl
  have cells : ∀ {id b N : Nat} {vs : Array Value} {e : TypeId} {fz : Nat × Nat}, hasN ld id = true → ρ id = some (.blk b N) → w.heap[b]? = some (.cells vs e fz) → (∀ v ∈ vs.toList, v.oneCell' = true) →
      ∀ (o m : Nat) (j : Nat) (u : Value), ((vs.toList.drop o).take m)[j]? = some u → lendI w ρ ld I b (o + j) = some u ∧ u.oneCell' = true := fun {id b N vs e fz} h1 h2 h3 h4 o m j u hu => by
    rw [slice_get] at hu
    split at hu
    · refine ⟨?_, h4 u (List.mem_of_getElem? hu)⟩
      unfold lendI
      rw [if_pos ⟨id, N, h1, h2⟩]
      simp only [World.cell?, h3]
      simpa using hu
    · cases hu
  unfold lent at h
  split at h
  · rename_i sz id off n sz' n' g'
    obtain ⟨h1, rfl, rfl, h⟩ := h
    split at h
    · rename_i s m g hlk
      obtain ⟨rfl, hm, hg⟩ := h
      cases hv with
      | agg hv _ _ => cases hv
      | own a b c =>
        rename_i b' N c'
        obtain ⟨vs, e, fz, hh, hN, hfz, hH, h1c⟩ := hR.cells hlk a (by simp)
        refine .ro b (fun i hi => (hg i hi).three (hH.2.1 (off + i) (by omega))) fun i hi => ?_
        have hsz := hH.2.1 (off + i) (by omega)
        have hr := ((hg i hi).RL (ρ' := nr) hsz.1 hsz.2.2 (hH.2.2 (off + i) (by omega))).mono hle (Ren.le.refl nr)
        have := RA.of (o := (off + i) * s) hr (fun j u hu => cells h1 a hh h1c _ _ j u hu)
        rwa [Nat.add_mul] at this
      | own0 => exact .ro0
    · exact h.elim
  · rename_i sz id path o n sz' n' g'
    obtain ⟨h1, rfl, rfl, h⟩ := h
    split at h
    · rename_i x hlk
      split at h
      · rename_i s m g c hgp
        obtain ⟨rfl, hc, hm, hg⟩ := h
        cases hv with
        | agg hv _ _ => cases hv
        | vsl a b c' =>
          rename_i b' N c''
          obtain ⟨vs, e, fz, hh, hN, hfz, hH, h1c⟩ := hR.cells hlk a (by simp)
          obtain ⟨k1, k2, k3, _, _, k5⟩ := getP_ok (I := I) (ρ := ρ) path x _ c hH.1 hgp hc
          have hr5 := k5 _ hH.2
          refine .ro b (fun i hi => (hg i hi).three (k1 (o + i) (by omega))) fun i hi => ?_
          have hwi := k1 (o + i) (by omega)
          have hr := vec_at k1 hr5 (i := o + i) (by omega)
          have hr := ((hg i hi).RL (ρ' := nr) hwi.1 hwi.2.2 hr).mono hle (Ren.le.refl nr)
          have e1 : (o + i) * s + s ≤ m * s := by
            have := Nat.mul_le_mul_right s (show o + i + 1 ≤ m by omega)
            rw [Nat.succ_mul] at this
            exact this
          have e2 : (((List.drop (addr path) vs.toList).take (A.vec s m g).size).drop ((o + i) * s)).take s = (vs.toList.drop (addr path + (o + i) * s)).take s := by
            simp only [A.size]
            rw [List.drop_take, List.drop_drop, List.take_take, Nat.min_eq_left (by omega)]
          rw [e2] at hr
          have := RA.of (o := addr path + (o + i) * s) hr (fun j u hu => cells h1 a hh h1c _ _ j u hu)
          rwa [Nat.add_mul, ← Nat.add_assoc] at this
        | vsl0 => exact .ro0
      · exact h.elim
    · exact h.elim
  · rename_i id path y
    obtain ⟨h1, hp, h⟩ := h
    split at h
    · rename_i ob hlk
      split at h
      · rename_i z c hlo
        obtain ⟨hc, hzp, hs⟩ := h
        obtain ⟨b, N, rfl, hb⟩ := hv.ptr_inv
        obtain ⟨vs, e, fz, hh, hN, hfz, hH, h1c⟩ := hR.cells hlk hb (by rintro z ks g rfl; simp [loadO] at hlo)
        obtain ⟨k1, k2, k3, k4⟩ := loadO_ok hlo hc hH
        have k1' : y.wf := (hs.three ⟨k1, rfl, hzp⟩).1
        have hr := (hs.RL (ρ' := nr) k1 hzp k4).mono hle (Ren.le.refl nr)
        exact .rop k1' hp (RA.of hr (fun j u hu => cells h1 hb hh h1c _ _ j u hu))
      · exact h.elim
    · exact h.elim
  · exact (A.le_ok (viaRen_via π ρ) h hv).mono hle (Ren.le.refl _)

theorem lentL_ok (hR : RW Γ I ρ r us w) (hl : liveN r ld = true) : ∀ {vs xs : List A} {us : List Value}, lentL π r ld vs xs → RL I ρ vs us → RL (lendI w ρ ld I) (viaRen π ρ) xs us
  | [], [], _, _, .nil => .nil
  | v :: vs, x :: xs, _, h, .cons a b => .cons (lent_ok hR hl h.1 a) (lentL_ok hR hl h.2 b)
  | [], _ :: _, _, h, _ => h.elim
  | _ :: _, [], _, h, _ => h.elim

/-- The world, as the callee finds it. -/
theorem RW.enter (hR : RW Γ I ρ r us w) (hl : liveN r ld = true) (hap : apartN ld (vals π) = true) (hn : nodupN (vals π) = true) {rc : List (Nat × Option Obj)} (hk : keys π = keys rc) (hsub : subR π r rc) (n : Nat) :
    RW (entry w (lendI w ρ ld I) (viaRen π ρ) (keys rc) n) (lendI w ρ ld I) (viaRen π ρ) rc (keys rc) w := by
  have hv := viaRen_via π ρ
  have hle := le_lendI (ld := ld) hR hl
  refine ⟨fun b o v h => ?_, fun m ob' hm => ?_, fun m m' ob ob' b N N' hm hm' hb hb' => ?_, fun m hm => ?_, ⟨Nat.le_refl _, fun _ _ _ => rfl, fun _ _ _ _ => rfl, Imm.le.refl _, rfl, rfl, rfl⟩, fun m l _ h => h⟩
  · unfold lendI at h
    split at h
    · exact h
    · exact hR.imm _ _ _ h
  · obtain ⟨id, ob, h1, h2, h3⟩ := subR_look hsub hm
    obtain ⟨l, hl', ho⟩ := hR.own id ob h2
    refine ⟨l, hv _ _ _ h1 hl', ?_⟩
    cases l with
    | nil => cases ob <;> cases ob' <;> simp_all [Own, Obj.le]
    | blk b N =>
      obtain ⟨o, hb, hh⟩ := ho.blk
      refine ⟨fun o => ?_, .inl ⟨m, N, look_keys hm, hv _ _ _ h1 hl'⟩, o, hb, ?_⟩
      · unfold lendI
        rw [if_neg]
        · exact ho.noI o
        · intro hL
          obtain ⟨id2, N2, ob2, g1, g2, g3, _⟩ := hL.own hR hl
          have := hR.inj id id2 _ _ b N N2 h2 g2 hl' g3
          subst this
          rw [apartN_ok hap (look_vals h1)] at g1
          cases g1
      · cases o with
        | cells vs e fz => exact ⟨hh.1, hh.2.1, (Obj.le_ok hv h3 hh.2.2.1).mono hle (Ren.le.refl _), hh.2.2.2⟩
        | map es c =>
          obtain ⟨_, hh⟩ := hh
          cases ob <;> simp only at hh
          cases ob' <;> simp [Obj.le] at h3
        | _ => simp [BlkHolds] at hh
  · obtain ⟨n, o1, h1, h2, _⟩ := subR_look hsub hm
    obtain ⟨n', o1', h1', h2', _⟩ := subR_look hsub hm'
    simp only [viaRen, h1, h1', Option.bind_some] at hb hb'
    have := hR.inj n n' o1 o1' b N N' h2 h2' hb hb'
    subst this
    exact nodup_inj hn h1 h1'
  · cases e : look π m with
    | none => simp [viaRen, e]
    | some n =>
      have := look_keys e
      rw [hk, usedN_hasN hm] at this
      cases this

/-- What a name leads to when the call is over. -/
def backRen (πi : List (Nat × Nat)) (ρ ρ' : Ren) : Ren := fun m => match look πi m with
  | some n => ρ' n
  | none => ρ m

theorem Own.flat {I I' : Imm} {ρ : Ren} {w : World} {l : Loc} {ob : Obj} {Γ : Ctx} (h : Own Γ I ρ w l ob) (hf : I.le I' ∨ ob.flat) (hno : ∀ b N, l = .blk b N → ∀ o, I' b o = none) : Own Γ I' ρ w l ob := by
  cases l with
  | nil => exact h.nil_iff
  | blk b N =>
    obtain ⟨o, hb, hh⟩ := h.blk
    refine ⟨hno b N rfl, h.mine, o, hb, ?_⟩
    cases o with
    | cells vs e fz =>
      refine ⟨hh.1, hh.2.1, ?_, hh.2.2.2⟩
      rcases hf with hf | hf
      · exact hh.2.2.1.mono hf (Ren.le.refl _)
      · exact Obj.flat_ok hf hh.2.2.1
    | map es c =>
      refine ⟨hh.1, ?_⟩
      have h2 := hh.2
      cases ob <;> simp only at h2 ⊢
      rcases hf with hf | hf
      · exact h2.mono hf
      · exact ⟨h2.1, h2.2.1, fun i e he => let ⟨s, a, b, c, d⟩ := h2.2.2.1 i e he; ⟨s, a, b, (A.flat_both _).1 _ (hf s (List.mem_of_getElem? a)) c, d⟩, h2.2.2.2⟩
    | _ => simp [BlkHolds] at hh
end
end VX

/- VX 28: calls (2). -/
namespace VX
open Go

section
variable {P : Program} {Γ : Ctx} {I : Imm} {ρ : Ren} {r : List (Nat × Option Obj)} {us : List Nat} {w : World} {ld : List Nat} {π : List (Nat × Nat)}

/-- What is asked of the names in a call. -/
def callChk (us : List Nat) (r : List (Nat × Option Obj)) (π : List (Nat × Nat)) (ld new ns : List Nat) (rc : List (Nat × Option Obj)) : Bool :=
  liveN r ld && (apartN ld (vals π) && (liveN r (vals π) && (nodupN (vals π) && (nodupN ns && (freshL us ns && (geL (keys rc) && (Nat.beq new.length ns.length)))))))

/-- The world, after the call. -/
theorem RW.leave (hR : RW Γ I ρ r us w) {rc : List (Nat × Option Obj)} (hk : keys π = keys rc) {new ns : List Nat} (hchk : callChk us r π ld new ns rc = true) {n : Nat}
    {I' : Imm} {ρ' : Ren} {r' : List (Nat × Option Obj)} {w' : World} (hR' : RW (entry w (lendI w ρ ld I) (viaRen π ρ) (keys rc) n) I' ρ' r' (new ++ keys rc) w') (hfl : ld = [] ∨ flatR r') :
    ∃ I'' ρ'', I.le I'' ∧ ρ.le ρ'' ∧ (∀ n l, ρ' n = some l → ρ'' (callRen (zipN new ns) π n) = some l) ∧ (I'.le I'' ∨ ld ≠ []) ∧
      RW Γ I'' ρ'' (appR (renR (callRen (zipN new ns) π) r') (gone (vals π) r)) (appN ns us) w' := by
  unfold callChk at hchk
  obtain ⟨hl, hchk⟩ := andb hchk
  obtain ⟨hap, hchk⟩ := andb hchk
  obtain ⟨hlv, hchk⟩ := andb hchk
  obtain ⟨hn, hchk⟩ := andb hchk
  obtain ⟨hns, hchk⟩ := andb hchk
  obtain ⟨hfr, hchk⟩ := andb hchk
  obtain ⟨hge, hlen⟩ := andb hchk
  have hlen := beqn hlen
  rw [appR_eq, appN_eq]
  -- the names
  have fresh : ∀ m, hasN ns m = true → ρ m = none := fun m hm => hR.names m (freshL_ok hfr hm)
  have inv_ns : ∀ m n, look (zipN ns new) m = some n → hasN ns m = true := fun m n h => zipN_has h
  have hρ : ρ.le (backRen (zipN ns new) ρ ρ') := fun m l hm => by
    unfold backRen
    split
    · rename_i n hn'
      rw [fresh m (inv_ns m n hn')] at hm
      cases hm
    · exact hm
  have kept : ∀ n l, hasN new n = false → ρ' n = some l → ∃ id, look π n = some id ∧ ρ id = some l := fun n l hnew hl' => by
    have h1 : 1000 ≤ n := by
      rcases Nat.lt_or_ge n 1000 with h | h
      · have hu : usedN (new ++ keys rc) n = true := by
          cases e : usedN (new ++ keys rc) n with
          | true => rfl
          | false => rw [hR'.names n e] at hl'; cases hl'
        rw [usedN_append, hnew, Bool.false_or] at hu
        unfold usedN at hu
        have hb : Nat.ble 1000 n = false := by
          cases e : Nat.ble 1000 n with
          | false => rfl
          | true => have := Nat.le_of_ble_eq_true e; omega
        rw [hb] at hu
        exact geL_ok hge hu
      · exact h
    have := hR'.keep n l h1 hl'
    simp only [entry, viaRen] at this
    cases e : look π n with
    | none => rw [e] at this; cases this
    | some id => rw [e] at this; exact ⟨id, rfl, this⟩
  have hren : ∀ n l, ρ' n = some l → backRen (zipN ns new) ρ ρ' (callRen (zipN new ns) π n) = some l := fun n l hl' => by
    unfold callRen
    cases e : look (zipN new ns) n with
    | some m =>
      simp only
      unfold backRen
      rw [(zipN_look hlen hns e).1]
      exact hl'
    | none =>
      have hnew : hasN new n = false := by
        cases e' : hasN new n with
        | false => rfl
        | true =>
          obtain ⟨m, hm⟩ := zipN_mem hlen e'
          rw [e] at hm; cases hm
      obtain ⟨id, h1, h2⟩ := kept n l hnew hl'
      simp only [h1]
      exact hρ _ _ h2
  -- what is lent
  have hI : I.le (backI ρ ld I') := fun b o v h => by
    unfold backI
    split
    · rename_i hL
      obtain ⟨id, N, ob, _, _, _, hO⟩ := hL.own hR hl
      rw [hO.noI] at h; cases h
    · exact hR'.frame.le _ _ _ (le_lendI hR hl _ _ _ h)
  have hI' : ld = [] → I'.le (backI ρ ld I') := fun h b o v hv => by
    subst h
    unfold backI
    rw [if_neg]
    · exact hv
    · rintro ⟨id, N, h1, _⟩
      simp [hasN] at h1
  -- blocks of the callee
  have fpc : ∀ b, (entry w (lendI w ρ ld I) (viaRen π ρ) (keys rc) n).fp b → ∃ id N ob, hasN (vals π) id = true ∧ look r id = some (some ob) ∧ ρ id = some (.blk b N) ∧ OwnB Γ I ρ w b N ob := fun b hb => by
    obtain ⟨n', N, h1, h2⟩ := hb
    simp only [viaRen] at h2
    cases e : look π n' with
    | none => rw [e] at h2; cases h2
    | some id =>
      rw [e, Option.bind_some] at h2
      obtain ⟨ob, hob⟩ := liveN_ok hlv (look_vals e)
      exact ⟨id, N, ob, look_vals e, hob, h2, hR.lt_of_own hob h2⟩
  have notLent : ∀ b, (entry w (lendI w ρ ld I) (viaRen π ρ) (keys rc) n).fp b ∨ w.heap.size ≤ b → ¬ Lends ρ ld b := fun b hb hL => by
    obtain ⟨id2, N2, ob2, g1, g2, g3, g4⟩ := hL.own hR hl
    rcases hb with hb | hb
    · obtain ⟨id, N, ob, h1, h2, h3, h4⟩ := fpc b hb
      have := hR.inj id id2 _ _ b N N2 h2 g2 h3 g3
      subst this
      rw [apartN_ok hap h1] at g1
      cases g1
    · have := g4.lt
      omega
  refine ⟨backI ρ ld I', backRen (zipN ns new) ρ ρ', hI, hρ, hren, ?_, ⟨fun b o v h => ?_, fun m ob hm => ?_, fun m m' ob ob' b N N' hm hm' hb hb' => ?_, fun m hm => ?_, ⟨?_, fun b hb hf => ?_, fun b hb hf o => ?_, ?_, ?_, ?_, ?_⟩, fun m l hm hl' => ?_⟩⟩
  · by_cases h : ld = []
    · exact .inl (hI' h)
    · exact .inr h
  · unfold backI at h
    split at h
    · cases h
    · exact hR'.imm _ _ _ h
  · -- owned
    rw [look_append] at hm
    split at hm
    · rename_i o ho
      obtain ⟨n', o', h1, h2, h3⟩ := renR_look ho
      cases hm
      cases o' with
      | none => cases h3
      | some ob' =>
        simp only [Option.map_some, Option.some.injEq] at h3
        subst h3
        obtain ⟨l, hl', hO⟩ := hR'.own n' ob' h1
        refine ⟨l, by rw [← h2]; exact hren _ _ hl', ?_⟩
        have hO2 : Own (entry w (lendI w ρ ld I) (viaRen π ρ) (keys rc) n) (backI ρ ld I') ρ' w' l ob' := hO.flat (by
          rcases hfl with h | h
          · exact .inl (hI' h)
          · exact .inr (flatR_look h h1)) (fun b N e o => by
          subst e
          unfold backI
          split
          · rfl
          · exact hO.noI o)
        cases l with
        | nil =>
          cases ob' with
          | arr => exact hO2
          | _ => exact hO2.elim
        | blk b N =>
          refine ⟨hO2.noI, ?_, ?_⟩
          · rcases hO2.mine with h | h
            · obtain ⟨id, N, ob, _, _, _, h4⟩ := fpc b h
              exact h4.mine
            · exact .inr (Nat.le_trans hR.frame.size h)
          · obtain ⟨o, hb, hh⟩ := hO2.blk
            refine ⟨o, hb, ?_⟩
            cases o with
            | cells vs e fz => exact ⟨hh.1, hh.2.1, Obj.ren_ok hren hh.2.2.1, hh.2.2.2⟩
            | map es c =>
              refine ⟨hh.1, ?_⟩
              have h2 := hh.2
              cases ob' <;> simp only [Obj.ren] at h2 ⊢
              exact h2
            | _ => simp [BlkHolds] at hh
    · obtain ⟨hm1, hm2⟩ := gone_look hm
      obtain ⟨l, hl', hO⟩ := hR.own m ob hm2
      refine ⟨l, hρ _ _ hl', ?_⟩
      cases l with
      | nil => exact hO.nil_iff
      | blk b N =>
        have hlt := hO.lt
        have hnf : ¬ (entry w (lendI w ρ ld I) (viaRen π ρ) (keys rc) n).fp b := fun hb => by
          obtain ⟨id, N', ob', h1, h2, h3, _⟩ := fpc b hb
          have := hR.inj m id _ _ b N N' hm2 h2 hl' h3
          subst this
          rw [hm1] at h1; cases h1
        have hO2 : OwnB Γ (backI ρ ld I') (backRen (zipN ns new) ρ ρ') w' b N ob := by
          refine ⟨fun o => ?_, hO.mine, ?_⟩
          · unfold backI
            split
            · rfl
            · rename_i hL
              have := hR'.frame.imm b hlt hnf o
              rw [this]
              show lendI w ρ ld I b o = none
              unfold lendI
              rw [if_neg hL]
              exact hO.noI o
          · obtain ⟨o, hb, hh⟩ := hO.blk
            exact ⟨o, by rw [hR'.frame.blocks b hlt hnf]; exact hb, hh.mono hI hρ⟩
        exact hO2
  · -- injective
    have side : ∀ m ob b N, look (renR (callRen (zipN new ns) π) r' ++ gone (vals π) r) m = some (some ob) → backRen (zipN ns new) ρ ρ' m = some (.blk b N) →
        (∃ n' ob', look r' n' = some (some ob') ∧ callRen (zipN new ns) π n' = m ∧ ρ' n' = some (.blk b N) ∧ ((entry w (lendI w ρ ld I) (viaRen π ρ) (keys rc) n).fp b ∨ w.heap.size ≤ b)) ∨
        (look r m = some (some ob) ∧ hasN (vals π) m = false ∧ ρ m = some (.blk b N)) := fun m ob b N hm hb => by
      rw [look_append] at hm
      split at hm
      · rename_i o ho
        obtain ⟨n', o', h1, h2, h3⟩ := renR_look ho
        cases hm
        cases o' with
        | none => cases h3
        | some ob' =>
          obtain ⟨l, hl', hO⟩ := hR'.own n' ob' h1
          have h5 := hren _ _ hl'
          rw [h2, hb] at h5
          cases h5
          exact .inl ⟨n', ob', h1, h2, hl', hO.mine⟩
      · obtain ⟨hm1, hm2⟩ := gone_look hm
        obtain ⟨l, hl', hO⟩ := hR.own m ob hm2
        have h5 := hρ _ _ hl'
        rw [hb] at h5
        cases h5
        exact .inr ⟨hm2, hm1, hl'⟩
    have apart : ∀ m ob b N, look r m = some (some ob) → hasN (vals π) m = false → ρ m = some (.blk b N) → ((entry w (lendI w ρ ld I) (viaRen π ρ) (keys rc) n).fp b ∨ w.heap.size ≤ b) → False := fun m ob b N h1 h2 h3 h4 => by
      rcases h4 with h4 | h4
      · obtain ⟨id, N', ob', k1, k2, k3, _⟩ := fpc b h4
        have := hR.inj m id _ _ b N N' h1 k2 h3 k3
        subst this
        rw [h2] at k1; cases k1
      · have := (hR.lt_of_own h1 h3).lt
        omega
    rcases side m ob b N hm hb with ⟨n1, o1, a1, a2, a3, a4⟩ | ⟨a1, a2, a3⟩ <;> rcases side m' ob' b N' hm' hb' with ⟨n2, o2, b1, b2, b3, b4⟩ | ⟨b1, b2, b3⟩
    · have := hR'.inj n1 n2 _ _ b N N' a1 b1 a3 b3
      subst this
      exact a2.symm.trans b2
    · exact (apart m' ob' b N' b1 b2 b3 a4).elim
    · exact (apart m ob b N a1 a2 a3 b4).elim
    · exact hR.inj m m' _ _ b N N' a1 b1 a3 b3
  · rw [usedN_append, Bool.or_eq_false_iff] at hm
    unfold backRen
    split
    · rename_i n' hn'
      rw [inv_ns m n' hn'] at hm
      cases hm.1
    · exact hR.names m hm.2
  · exact Nat.le_trans hR.frame.size hR'.frame.size
  · have hnf : ¬ (entry w (lendI w ρ ld I) (viaRen π ρ) (keys rc) n).fp b := fun h => by
      obtain ⟨id, N, ob, _, _, _, h4⟩ := fpc b h
      rcases h4.mine with h | h
      · exact hf h
      · omega
    rw [hR'.frame.blocks b (Nat.lt_of_lt_of_le hb hR.frame.size) hnf]
    exact hR.frame.blocks b hb hf
  · have hnf : ¬ (entry w (lendI w ρ ld I) (viaRen π ρ) (keys rc) n).fp b := fun h => by
      obtain ⟨id, N, ob, _, _, _, h4⟩ := fpc b h
      rcases h4.mine with h | h
      · exact hf h
      · omega
    have hnl : ¬ Lends ρ ld b := fun h => by
      obtain ⟨id, N, ob, _, _, _, h4⟩ := h.own hR hl
      rcases h4.mine with h | h
      · exact hf h
      · omega
    unfold backI
    rw [if_neg hnl, hR'.frame.imm b (Nat.lt_of_lt_of_le hb hR.frame.size) hnf o]
    show lendI w ρ ld I b o = _
    unfold lendI
    rw [if_neg hnl]
    exact hR.frame.imm b hb hf o
  · exact hR.frame.le.trans hI
  · exact hR'.frame.os.trans hR.frame.os
  · exact hR'.frame.tape.trans hR.frame.tape
  · exact hR'.frame.output.trans hR.frame.output
  · have : look (zipN ns new) m = none := by
      cases e : look (zipN ns new) m with
      | none => rfl
      | some n' =>
        have := usedN_lt (freshL_ok hfr (inv_ns m n' e))
        omega
    simp only [backRen, this] at hl'
    exact hR.keep m l hm hl'

/-- The function that a call goes to, and its arguments. -/
def callee (τ : List (Nat × A)) (o : Oper) : Option (FuncId × List A) :=
  match o.op with
  | .call c => match c.callee with
    | .value f => (match ev τ f with
      | some (.func (.func fid) first cap) => (match evs τ c.args.toList with
        | some vs => some (fid, first ++ (vs ++ cap))
        | none => none)
      | _ => none)
    | _ => none
  | _ => none
def callOK (P : Program) (f : FuncId) : Bool := match P.funcs[f]? with
  | some fn => !(fn.name == "runtime.NumGoroutine") && fn.body.isSome
  | none => false

theorem callee_ok {n : Nat} {τ : List (Nat × A)} {a : Act} {o : Oper} {f : FuncId} {vs : List A} (hS : Slots I ρ n τ a) (h : callee τ o = some (f, vs)) (hf : callOK P f = true) :
    ∃ args, (execOp a.eval o).run P w = .ok (.enter f args) w ∧ RL I ρ vs args.toList := by
  unfold callee at h
  split at h
  · rename_i c hop
    split at h
    · rename_i fo hcal
      split at h
      · rename_i fid first cap hev
        split at h
        · rename_i vs' hvs
          simp only [Option.some.injEq, Prod.mk.injEq] at h
          obtain ⟨rfl, rfl⟩ := h
          obtain ⟨fs, cs, he, h1, h2⟩ := (ev_ok hS hev).func_inv
          have h3 := evs_ok hS hvs
          unfold callOK at hf
          split at hf
          · rename_i fn hfn
            rw [Bool.and_eq_true, Bool.not_eq_true'] at hf
            refine ⟨fs.toArray ++ c.args.map a.eval ++ cs.toArray, ?_, ?_⟩
            · have hb : fn.body.isNone = false := by
                cases hb : fn.body with
                | none => rw [hb] at hf; cases hf.2
                | some _ => rfl
              simp only [execOp, hop, resolve, hcal, he, Deferred.ofValue, Sem.run_bind, Sem.run_pure, Result.andThen_ok, invoke, callFunc, run_program, hfn, hf.1, hb]
              simp
            · have := RL.append h1 (RL.append h3 h2)
              simpa using this
          · cases hf
        · cases h
      · cases h
    · cases h
  · cases h

theorem step_call {b : Frame} {a : Act} {k : List Item} {cs : List Frame} {ops : Array Oper} {i : Nat} {l : List Nat} {o : Oper} (ho : ops[i]? = some o)
    (hw : Region.wanted o (yielded ops a.tmps) = true) {f : FuncId} {args : Array Value} (hx : (execOp a.eval o).run P w = .ok (.enter f args) w) {R : Value → World → Prop}
    (hc : Calls P f args w fun | .returned v, w' => R v w' | _, _ => False) :
    ∃ v w', R v w' ∧ Steps P (lone (b.at a (.inRegion ops (i :: l) :: k)) cs w) (lone (b.at (a.put o.dst v) (.inRegion ops l :: k)) cs w') := by
  have hg := stepG_op (P := P) (b := b) (k := k) (cs := cs) (w := w) (rest := l) ho hw
  have hfin : ∀ v, (b.at a (.inRegion ops (i :: l) :: k)).finish v = b.at (a.put o.dst v) (.inRegion ops l :: k) := by
    intro v; rw [Frame.finish_at, ho]; rfl
  obtain ⟨e, w'', fr, hR, hsteps, _, hleave⟩ := hc (b.at a (.inRegion ops (i :: l) :: k) :: cs)
  have henter : step P (lone (b.at a (.inRegion ops (i :: l) :: k)) cs w) =
      .next (lone (Frame.enter P f args .normal) (b.at a (.inRegion ops (i :: l) :: k) :: cs) w) :=
    step_lone_go (by rw [hg]; simp [stepG.apply, hx, Frame.at])
  cases e with
  | returned v =>
    refine ⟨v, w'', hR, .head henter (Steps.trans hsteps (.one ?_))⟩
    rw [← hfin]; exact step_leave_returned hleave
  | panicked chain => exact hR.elim
  | outgrown => exact hR.elim

def putO : Option Tmp → A → List (Nat × A) → List (Nat × A)
  | some d, v, τ => (d, v) :: τ
  | none, _, τ => τ

/-- A call. -/
theorem W.call {Q : Act → World → Prop} {f : FuncId} {xs : List A} {rc : List (Nat × Option Obj)} {new : List Nat} {Y : A → List (Nat × Option Obj) → Prop} (hS : Does P f xs rc new Y) (hf : callOK P f = true)
    {g : List (Nat × Nat × Bool)} {ops : Array Oper} {i : Nat} {l : List Nat} {k : List Item} {τ : List (Nat × A)} {o : Oper} {vs : List A} (ho : ops.toList[i]? = some o) (hg : guardOf o g = some true)
    (hcal : callee τ o = some (f, vs)) (π : List (Nat × Nat)) (ld ns : List Nat) (hk : keys π = keys rc) (hchk : callChk us r π ld new ns rc = true) {nt : Nat} (hnt : nt = Γ.n) (hdst : dstOk nt g o.dst = true)
    (hargs : lentL π r ld vs xs) (hsub : subR π r rc) (hfl : ld = [] ∨ ∀ y r', Y y r' → y.flat ∧ flatR r')
    (h : ∀ y r', Y y r' → W Γ P Q g (.inRegion ops l :: k) (putO o.dst (y.ren (callRen (zipN new ns) π)) τ) (appR (renR (callRen (zipN new ns) π) r') (gone (vals π) r)) (appN ns us)) :
    W Γ P Q g (.inRegion ops (i :: l) :: k) τ r us := by
  refine ⟨fun a w I ρ hR hSl hG => ?_⟩
  have ho : ops[i]? = some o := by simpa using ho
  have hw := guardOf_ok hSl hG hg
  have hchk' := hchk
  unfold callChk at hchk'
  obtain ⟨hl, hchk'⟩ := andb hchk'
  obtain ⟨hap, hchk'⟩ := andb hchk'
  obtain ⟨hlv, hchk'⟩ := andb hchk'
  obtain ⟨hn, _⟩ := andb hchk'
  obtain ⟨args, hx, ha⟩ := callee_ok (P := P) (w := w) hSl hcal hf
  have hargs' := lentL_ok hR hl hargs ha
  have hcalls := hS (lendI w ρ ld I) (viaRen π ρ) w args.toList hargs' (hR.enter hl hap hn hk hsub (nOf P f))
  rw [Array.toArray_toList] at hcalls
  intro b cs
  obtain ⟨v, w', ⟨y, r', I', ρ', hY, hv, hR'⟩, hsteps⟩ := step_call (b := b) (k := k) (cs := cs) (l := l) ho hw hx hcalls
  obtain ⟨I'', ρ'', hI, hρ, hren, hI2, hR''⟩ := hR.leave hk hchk hR' (hfl.imp id fun h => (h y r' hY).2)
  have hv' : R I'' ρ'' (y.ren (callRen (zipN new ns) π)) v := by
    refine (A.ren_both (f := callRen (zipN new ns) π) hren y).1 v ?_
    rcases hI2 with h | h
    · exact hv.mono h (Ren.le.refl _)
    · rcases hfl with h' | h'
      · exact (h h').elim
      · exact (A.flat_both y).1 v (h' y r' hY).1 hv
  have hSl' : Slots I'' ρ'' Γ.n (putO o.dst (y.ren (callRen (zipN new ns) π)) τ) (a.put o.dst v) ∧ GOK g (.inRegion ops l :: k) (putO o.dst (y.ren (callRen (zipN new ns) π)) τ) := by
    have := hSl.mono hI hρ
    cases hd : o.dst with
    | none => exact ⟨this.skip, hG.next⟩
    | some d =>
      rw [hd] at hdst
      obtain ⟨hlt, hoff⟩ := dstOk_some hdst
      exact ⟨this.put (hnt ▸ hlt) hv', hG.put hoff⟩
  obtain ⟨a2, w2, todo, hq, hs⟩ := (h y r' hY).ok _ w' I'' ρ'' hR'' hSl'.1 hSl'.2 b cs
  exact ⟨a2, w2, todo, hq, Steps.trans hsteps hs⟩

/-- A contract that tells the result outright. -/
def Is (y0 : A) (r0 : List (Nat × Option Obj)) (y : A) (r : List (Nat × Option Obj)) : Prop := y = y0 ∧ r = r0
/-- A call of a function whose contract tells the result outright. -/
theorem W.callF {Q : Act → World → Prop} {f : FuncId} {xs : List A} {rc : List (Nat × Option Obj)} {new : List Nat} {y0 : A} {r0 : List (Nat × Option Obj)} (hS : Does P f xs rc new (Is y0 r0)) (hf : callOK P f = true)
    {g : List (Nat × Nat × Bool)} {ops : Array Oper} {i : Nat} {l : List Nat} {k : List Item} {τ : List (Nat × A)} {o : Oper} {vs : List A} (ho : ops.toList[i]? = some o) (hg : guardOf o g = some true)
    (hcal : callee τ o = some (f, vs)) (π : List (Nat × Nat)) (ld ns : List Nat) (hk : keys π = keys rc) (hchk : callChk us r π ld new ns rc = true) {nt : Nat} (hnt : nt = Γ.n) (hdst : dstOk nt g o.dst = true)
    (hargs : lentL π r ld vs xs) (hsub : subR π r rc) (hfl : ld = [] ∨ (y0.flat ∧ flatR r0))
    (h : W Γ P Q g (.inRegion ops l :: k) (putO o.dst (y0.ren (callRen (zipN new ns) π)) τ) (appR (renR (callRen (zipN new ns) π) r0) (gone (vals π) r)) (appN ns us)) :
    W Γ P Q g (.inRegion ops (i :: l) :: k) τ r us :=
  W.call hS hf ho hg hcal π ld ns hk hchk hnt hdst hargs hsub (hfl.imp id fun h y r' hY => by obtain ⟨rfl, rfl⟩ := hY; exact h) (fun y r' hY => by obtain ⟨rfl, rfl⟩ := hY; exact h)
end
end VX

