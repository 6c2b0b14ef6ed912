/- A symbolic executor for the model's code, and its soundness (part 6 of 7): a general tool, no statement about this program. -/
import Derived.Test.YtfmoafpnhndinaaVxE
import Derived.OpenShut
import Derived.Below
import Derived.WideShapes
import Derived.Carry
import Derived.Orders
set_option linter.unusedSimpArgs false
set_option linter.unusedVariables false
/- VX 29: a table of types, checked by counting out. -/
namespace VX
open Go

mutual
def A.pureB : A → Bool
  | .int .. | .bool _ | .str _ | .nils | .nilp | .nilm | .nilf | .nili => true
  | .vec _ n g => (List.range n).all fun i => (g i).pureB
  | .agg ps => A.pureBL ps
  | _ => false
def A.pureBL : List A → Bool
  | [] => true
  | x :: xs => x.pureB && A.pureBL xs
end
mutual
def A.wfB : A → Bool
  | .vec sz n g => (List.range n).all fun i => (g i).wfB && (Nat.beq (g i).size sz && (g i).pureB)
  | .agg ps => A.wfBL ps
  | _ => true
def A.wfBL : List A → Bool
  | [] => true
  | x :: xs => x.wfB && A.wfBL xs
end
mutual
def A.sureB : A → Bool
  | .any => false
  | .tup _ => false
  | .agg ps => A.sureBL ps
  | _ => true
def A.sureBL : List A → Bool
  | [] => true
  | x :: xs => x.sureB && A.sureBL xs
end

mutual
theorem A.pureB_ok : ∀ (x : A), x.pureB = true → x.pureP
  | .vec _ n g, h => fun i hi => A.pureB_ok (g i) (by
    simp only [A.pureB, List.all_eq_true] at h
    exact h i (List.mem_range.2 hi))
  | .agg ps, h => A.pureBL_ok ps h
  | .int .., _ | .bool _, _ | .str _, _ | .nils, _ | .nilp, _ | .nilm, _ | .nilf, _ | .nili, _ => trivial
  | .ro .., h | .rol .., h | .own .., h | .owl .., h | .ptr .., h | .vsl .., h | .rop _, h | .map _, h | .func .., h | .iface .., h | .tup _, h | .any, h => by simp [A.pureB] at h
theorem A.pureBL_ok : ∀ (l : List A), A.pureBL l = true → A.purePL l
  | [], _ => trivial
  | x :: xs, h => by
    rw [A.pureBL, Bool.and_eq_true] at h
    exact ⟨A.pureB_ok x h.1, A.pureBL_ok xs h.2⟩
end
mutual
theorem A.wfB_ok : ∀ (x : A), x.wfB = true → x.wf
  | .vec _ n g, h => fun i hi => by
    simp only [A.wfB, List.all_eq_true] at h
    have := h i (List.mem_range.2 hi)
    obtain ⟨h1, h2⟩ := andb this
    obtain ⟨h2, h3⟩ := andb h2
    exact ⟨A.wfB_ok (g i) h1, beqn h2, A.pureB_ok _ h3⟩
  | .agg ps, h => A.wfBL_ok ps h
  | .int .., _ | .bool _, _ | .str _, _ | .nils, _ | .nilp, _ | .nilm, _ | .nilf, _ | .nili, _ => trivial
  | .ro .., h | .rol .., h | .own .., h | .owl .., h | .ptr .., h | .vsl .., h | .rop _, h | .map _, h | .func .., h | .iface .., h | .tup _, h | .any, h => trivial
theorem A.wfBL_ok : ∀ (l : List A), A.wfBL l = true → A.wfL l
  | [], _ => trivial
  | x :: xs, h => by
    rw [A.wfBL, Bool.and_eq_true] at h
    exact ⟨A.wfB_ok x h.1, A.wfBL_ok xs h.2⟩
end
mutual
theorem A.sureB_ok : ∀ (x : A), x.sureP → x.sureB = true
  | .agg ps, h => A.sureBL_ok ps h
  | .any, h => h.elim
  | .tup _, h => h.elim
  | .vec .., _ | .int .., _ | .bool _, _ | .str _, _ | .nils, _ | .nilp, _ | .nilm, _ | .nilf, _ | .nili, _ => rfl
  | .ro .., h | .rol .., h | .own .., h | .owl .., h | .ptr .., h | .vsl .., h | .rop _, h | .map _, h | .func .., h | .iface .., h => rfl
theorem A.sureBL_ok : ∀ (l : List A), A.surePL l → A.sureBL l = true
  | [], _ => rfl
  | x :: xs, h => by rw [A.sureBL, A.sureB_ok x h.1, A.sureBL_ok xs h.2]; rfl
end

def zCell : A → Value → Bool
  | .int k n, .int k' n' => decide (k = k') && decide (n = n')
  | .bool a, .bool b => a == b
  | .str l, .string s => l.isEmpty && s.data.toList.isEmpty
  | .nils, .slice none 0 0 => true
  | .nilp, .pointer none => true
  | .nilm, .map none => true
  | .nilf, .nilFunc => true
  | .nili, .nilIface => true
  | .any, _ => true
  | _, _ => false
def zCells : List A → List Value → Bool
  | [], [] => true
  | x :: xs, v :: vs => zCell x v && zCells xs vs
  | _, _ => false
def zOK (x : A) (v : Value) : Bool := match isAgg x with
  | true => (match v with
    | .agg cs => x.wfB && zCells x.cells cs.toList
    | _ => false)
  | false => zCell x v

theorem zCell_ok {I : Imm} {ρ : Ren} {x : A} {v : Value} (h : zCell x v = true) : R I ρ x v := by
  unfold zCell at h
  split at h <;> (try (cases h; done)) <;> (try (constructor; done))
  · rw [Bool.and_eq_true, decide_eq_true_eq, decide_eq_true_eq] at h
    obtain ⟨rfl, rfl⟩ := h
    exact .int
  · have := eq_of_beq h
    subst this
    exact .bool
  · rename_i l s
    rw [Bool.and_eq_true, List.isEmpty_iff, List.isEmpty_iff] at h
    obtain ⟨rfl, h⟩ := h
    have : s = ⟨([] : List UInt8).toArray⟩ := by
      obtain ⟨d⟩ := s
      congr 1
      simpa using h
    rw [this]
    exact .str
theorem zCells_ok {I : Imm} {ρ : Ren} : ∀ {xs : List A} {vs : List Value}, zCells xs vs = true → RL I ρ xs vs
  | [], [], _ => .nil
  | x :: xs, v :: vs, h => by
    rw [zCells, Bool.and_eq_true] at h
    exact .cons (zCell_ok h.1) (zCells_ok h.2)
  | [], _ :: _, h => by simp [zCells] at h
  | _ :: _, [], h => by simp [zCells] at h
theorem zOK_ok {I : Imm} {ρ : Ren} {x : A} {v : Value} (h : zOK x v = true) : R I ρ x v := by
  unfold zOK at h
  split at h
  · rename_i hx
    split at h
    · obtain ⟨h1, h2⟩ := andb h
      have := R.agg hx (A.wfB_ok x h1) (zCells_ok (I := I) (ρ := ρ) h2)
      simpa using this
    · cases h
  · exact zCell_ok h

def places : Nat → List A → List (Nat × Nat)
  | _, [] => []
  | o, x :: xs => (o, x.size) :: places (o + x.size) xs
theorem places_get : ∀ {zs : List A} {o : Nat}, (places o zs).length = zs.length ∧ ∀ (i : Nat) (x : A), zs[i]? = some x → (places o zs)[i]? = some (o + A.sizeL (zs.take i), x.size)
  | [], o => ⟨rfl, by simp⟩
  | z :: zs, o => by
    obtain ⟨h1, h2⟩ := places_get (zs := zs) (o := o + z.size)
    refine ⟨by simp [places, h1], fun i x hx => ?_⟩
    cases i with
    | zero =>
      simp at hx
      subst hx
      simp [places, A.sizeL]
    | succ i =>
      have := h2 i x (by simpa using hx)
      simp only [places, List.getElem?_cons_succ, this, List.take_succ_cons, A.sizeL, Nat.add_assoc]

def bldB (P : Program) (t : Nat) (ti : TI) : Bool :=
  match ti.d, ti.zero with
  | .struct _, .agg zs => (match P.underlying t with
    | some (.struct u) => (match u.toList.mapM (fun f => (P.info? f.type).map fun i => (f.offset, i.size)) with
      | some pl => decide (pl = places 0 zs)
      | none => false)
    | _ => false)
  | _, _ => true

/-- Is what the table tells of a type so? -/
def chkTI (P : Program) (t : Nat) (ti : TI) : Bool :=
  (match P.underlying t with
    | some u => decide (tdOf u = ti.d)
    | none => false) &&
  ((match P.info? t with
    | some i => Nat.beq i.size ti.size && (Nat.beq i.bytes ti.bytes && (!ti.zero.sureB || (match i.zero with
      | some z => zOK ti.zero z && (Nat.beq ti.zero.size ti.size && ti.zero.pureB)
      | none => false)))
    | none => false) &&
  (bldB P t ti && (!ti.eqok || (!P.eqGuardType P.depth t && eqTypeOK P 10 t))))

theorem chkTI_ok {P : Program} {t : Nat} {ti : TI} (h : chkTI P t ti = true) : TIok P t ti := by
  unfold chkTI at h
  obtain ⟨h1, h⟩ := andb h
  obtain ⟨h2, h⟩ := andb h
  obtain ⟨h3, h4⟩ := andb h
  refine ⟨?_, ?_, fun fs zs hd hz => ?_, fun he => ?_⟩
  · split at h1
    · rename_i u hu
      exact ⟨u, hu, of_decide_eq_true h1⟩
    · cases h1
  · split at h2
    · rename_i i hi
      obtain ⟨a, b⟩ := andb h2
      obtain ⟨b, c⟩ := andb b
      refine ⟨i, hi, beqn a, beqn b, fun hs => ?_⟩
      rw [A.sureB_ok _ hs] at c
      simp only [Bool.not_true, Bool.false_or] at c
      split at c
      · rename_i z hz
        obtain ⟨c1, c2⟩ := andb c
        obtain ⟨c2, c3⟩ := andb c2
        exact ⟨z, hz, fun I ρ => zOK_ok c1, beqn c2, A.pureB_ok _ c3⟩
      · cases c
    · cases h2
  · unfold bldB at h3
    rw [hd, hz] at h3
    simp only at h3
    split at h3
    · rename_i u hu
      split at h3
      · rename_i pl hpl
        have := of_decide_eq_true h3
        subst this
        obtain ⟨k1, k2⟩ := places_get (zs := zs) (o := 0)
        exact ⟨u, _, hu, hpl, k1, fun i x hx => by simpa using k2 i x hx⟩
      · cases h3
    · cases h3
  · rw [he] at h4
    simp only [Bool.not_true, Bool.false_or, Bool.and_eq_true, Bool.not_eq_true'] at h4
    exact h4

def chkTab (P : Program) : Nat → List TI → Bool
  | _, [] => true
  | t, ti :: l => chkTI P t ti && chkTab P (t + 1) l
theorem chkTab_nth {P : Program} : ∀ {l : List TI} {k : Nat}, chkTab P k l = true → ∀ t ti, nth l t = some ti → TIok P (k + t) ti
  | [], k, _, t, ti, h => by simp [nth] at h
  | x :: xs, k, hc, t, ti, h => by
    obtain ⟨h1, h2⟩ := andb hc
    cases t with
    | zero =>
      simp [nth] at h
      subst h
      exact chkTI_ok h1
    | succ t =>
      have e : Nat.beq (t + 1) 0 = false := rfl
      simp only [nth, e, cond_false, Nat.add_sub_cancel] at h
      have := chkTab_nth h2 t ti h
      rwa [show k + (t + 1) = k + 1 + t by omega]
theorem TabOK.of_chk {P : Program} {l : List TI} (h : chkTab P 0 l = true) : TabOK P l := fun t ti ht => by
  have := chkTab_nth h t ti ht
  rwa [Nat.zero_add] at this
end VX

/- VX 30: the arguments of a statement; a statement from what its function does. -/
namespace VX
open Go

mutual
/-- The shapes of arguments. -/
inductive Sh where
  | int (k : IntKind) | bool | str | slice (e : Sh) | arr (n : Nat) (e : Sh) | strct (l : ShL)
inductive ShL where
  | nil | cons (s : Sh) (l : ShL)
end
mutual
def Sh.size : Sh → Nat
  | .arr n e => n * e.size
  | .strct l => l.size
  | _ => 1
def ShL.size : ShL → Nat
  | .nil => 0
  | .cons s l => s.size + l.size
end
mutual
/-- x has that shape. -/
def Shaped : Sh → A → Prop
  | .int k, x => ∃ n, x = .int k n ∧ inr k n
  | .bool, x => ∃ b, x = .bool b
  | .str, x => ∃ l, x = .str l ∧ l.length ≤ 9223372036854775807
  | .slice e, x => ∃ n g, x = .ro e.size n g ∧ n ≤ 9223372036854775807 ∧ ∀ i, i < n → Shaped e (g i)
  | .arr n e, x => ∃ g, x = .vec e.size n g ∧ ∀ i, i < n → Shaped e (g i)
  | .strct l, x => ∃ ps, x = .agg ps ∧ ShapedL l ps
def ShapedL : ShL → List A → Prop
  | .nil, ps => ps = []
  | .cons s l, ps => ∃ x xs, ps = x :: xs ∧ Shaped s x ∧ ShapedL l xs
end
mutual
/-- How much of it there is (for statements about small arguments). -/
def weight : A → Nat
  | .str l => l.length + 1
  | .ro _ n g => ((List.range n).map fun i => weight (g i)).sum + 1
  | .vec _ n g => ((List.range n).map fun i => weight (g i)).sum + 1
  | .agg ps => weightL ps + 1
  | _ => 1
def weightL : List A → Nat
  | [] => 0
  | x :: xs => weight x + weightL xs
end
mutual
def bulk {H : Type} : DataW H → Nat
  | .lit (.string bytes) => bytes.length + 1
  | .lit _ => 1
  | .nil => 1
  | .ptr d => bulk d + 1
  | .slice elems spare => bulkL elems + bulkL spare + 1
  | .agg parts => bulkL parts + 1
  | .iface _ d => bulk d + 1
  | .map entries => bulkE entries + 1
  | .held _ => 1
def bulkL {H : Type} : List (DataW H) → Nat
  | [] => 0
  | d :: r => bulk d + bulkL r
def bulkE {H : Type} : List (Lit × DataW H) → Nat
  | [] => 0
  | x :: r => bulk1 x + bulkE r
def bulk1 {H : Type} : Lit × DataW H → Nat
  | (.string bytes, d) => bytes.length + bulk d + 1
  | (_, d) => bulk d + 1
end
theorem bulkL_sum {H : Type} : ∀ (l : List (DataW H)), bulkL l = (l.map bulk).sum
  | [] => by simp [bulkL]
  | d :: l => by simp [bulkL, bulkL_sum l]

mutual
/-- The type t has that shape. -/
def shOK (P : Program) : Sh → TypeId → Bool
  | .int k, t => (match P.underlying t with
    | some (.int k') => decide (k' = k)
    | _ => false)
  | .bool, t => (match P.underlying t with
    | some .bool => true
    | _ => false)
  | .str, t => (match P.underlying t with
    | some .string => true
    | _ => false)
  | .slice e, t => (match P.underlying t with
    | some (.slice et) => shOK P e et && (Nat.beq (P.cellsOf et) e.size && Nat.blt 0 e.size)
    | _ => false)
  | .arr n e, t => (match P.underlying t with
    | some (.array m et) => decide (m = n) && (shOK P e et && (Nat.beq (P.cellsOf et) e.size && Nat.beq (P.cellsOf t) (n * e.size)))
    | _ => false)
  | .strct l, t => (match P.underlying t with
    | some (.struct fs) => shOKL P l fs.toList 0 && Nat.beq (P.cellsOf t) l.size
    | _ => false)
def shOKL (P : Program) : ShL → List Field → Nat → Bool
  | .nil, [], _ => true
  | .cons s l, f :: fs, o => Nat.beq f.offset o && (shOK P s f.type && (Nat.beq (P.cellsOf f.type) s.size && shOKL P l fs (o + s.size)))
  | _, _, _ => false
end

/-- Every cell that is there. -/
def allI (w : World) : Imm := fun b o => w.cell? ⟨b, o, none⟩

structure Opened (w : World) (s : Sh) (cs : List Value) (n : Nat) (x : A) : Prop where
  sh : Shaped s x
  wf : x.wf
  size : x.size = s.size
  pure : x.pureP
  cells : RL (allI w) nr x.cells cs
  one : ∀ c ∈ cs, c.oneCell' = true
  wt : weight x ≤ n

section
variable {H : Type} {enc : TypeId × Value → H} {P : Program} {w : World} {base : Nat} {spare : Nat → Bool} {held : Bool}

theorem sum_le {f g : Nat → Nat} : ∀ (l : List Nat), (∀ i ∈ l, f i ≤ g i) → (l.map f).sum ≤ (l.map g).sum
  | [], _ => by simp
  | i :: l, h => by
    have h1 := h i List.mem_cons_self
    have h2 := sum_le l fun j hj => h j (List.mem_cons_of_mem _ hj)
    simp only [List.map_cons, List.sum_cons]
    omega

def optF {α : Type} (f : α → Nat) : Option α → Nat
  | some x => f x
  | none => 0
theorem sum_range {α : Type} (f : α → Nat) : ∀ (l : List α), (l.map f).sum = ((List.range l.length).map fun i => optF f l[i]?).sum
  | [] => by simp
  | x :: l => by
    rw [List.length_cons, List.range_succ_eq_map, List.map_cons, List.map_cons, List.sum_cons, List.sum_cons, List.map_map, sum_range f l]
    rfl

theorem RL.vec {I : Imm} {ρ : Ren} {sz : Nat} {g : Nat → A} {cs : List Value} : ∀ (n : Nat), cs.length = n * sz → (∀ i, i < n → RL I ρ (g i).cells ((cs.drop (i * sz)).take sz)) → RL I ρ ((List.range n).flatMap fun i => (g i).cells) cs := by
  intro n
  induction n generalizing cs with
  | zero =>
    intro hl _
    have : cs = [] := by simpa using hl
    subst this
    exact .nil
  | succ n ih =>
    intro hl h
    rw [List.range_succ, List.flatMap_append]
    rw [Nat.succ_mul] at hl
    have h1 := ih (cs := cs.take (n * sz)) (by simp; omega) (fun i hi => by
      have := h i (by omega)
      have e : ((cs.take (n * sz)).drop (i * sz)).take sz = (cs.drop (i * sz)).take sz := by
        have hm := Nat.mul_le_mul_right sz (show i + 1 ≤ n by omega)
        rw [Nat.succ_mul] at hm
        rw [List.drop_take, List.take_take, Nat.min_eq_left (by omega)]
      rw [e]; exact this)
    have h2 := h n (by omega)
    have e2 : (cs.drop (n * sz)).take sz = cs.drop (n * sz) := List.take_of_length_le (by simp; omega)
    rw [e2] at h2
    have := RL.append h1 h2
    rw [List.take_append_drop] at this
    simpa using this

theorem choose_fun {p : Nat → A → Prop} {n : Nat} (h : ∀ i, i < n → ∃ x, p i x) : ∃ g : Nat → A, ∀ i, i < n → p i (g i) := by
  classical
  refine ⟨fun i => if hi : i < n then Classical.choose (h i hi) else .any, fun i hi => ?_⟩
  simp only [dif_pos hi]
  exact Classical.choose_spec (h i hi)

theorem cellsOf_eq {e : TypeId} {n : Nat} (h : Nat.beq (P.cellsOf e) n = true) : P.cellsOf e = n := Nat.eq_of_beq_eq_true h

mutual
theorem open_sh : ∀ (s : Sh) (t : TypeId) (fuel : Nat) (cs : List Value) (y : DataW H × List MemPlace), shOK P s t = true → DataW.trod enc P w base spare held fuel t cs = some y → ∃ x, Opened w s cs (bulk y.1) x
  | .int k, t, fuel, cs, y, hs, h => by
    simp only [shOK] at hs
    split at hs
    · rename_i k' hk
      have := of_decide_eq_true hs
      subst this
      obtain ⟨n, rfl, rfl, hwf⟩ := DataW.trod_int hk h
      simp only [Lit.wf, Bool.and_eq_true, decide_eq_true_eq] at hwf
      exact ⟨.int k' n, ⟨n, rfl, hwf⟩, trivial, rfl, trivial, .cons .int .nil, by simp [Value.oneCell'], by simp [weight, bulk]⟩
    · cases hs
  | .bool, t, fuel, cs, y, hs, h => by
    simp only [shOK] at hs
    split at hs
    · rename_i hk
      obtain ⟨b, rfl, rfl⟩ := DataW.trod_bool hk h
      exact ⟨.bool b, ⟨b, rfl⟩, trivial, rfl, trivial, .cons .bool .nil, by simp [Value.oneCell'], by simp [weight, bulk]⟩
    · cases hs
  | .str, t, fuel, cs, y, hs, h => by
    simp only [shOK] at hs
    split at hs
    · rename_i hk
      obtain ⟨s, rfl, rfl, hl⟩ := DataW.trod_string hk h
      have e : s = ⟨s.data.toList.toArray⟩ := by rw [Array.toArray_toList]
      refine ⟨.str s.data.toList, ⟨_, rfl, ?_⟩, trivial, rfl, trivial, .cons ?_ .nil, by simp [Value.oneCell'], by simp [weight, bulk]⟩
      · have : s.data.toList.length = s.size := Array.length_toList
        rw [this]
        unfold maxLen at hl
        omega
      · have := R.str (I := allI w) (ρ := nr) (l := s.data.toList)
        rwa [← e] at this
    · cases hs
  | .slice e, t, fuel, cs, y, hs, h => by
    simp only [shOK] at hs
    split at hs
    · rename_i et hk
      obtain ⟨hse, hsz⟩ := andb hs
      obtain ⟨hsz, hpos⟩ := andb hsz
      have hpos := blt_lt hpos
      have hsz := cellsOf_eq hsz
      rcases DataW.trod_slice hk h with ⟨rfl, rfl⟩ | ⟨a, len, cap, elems, rest, n, rfl, rfl, rfl, _, hlc, hcm, hel, hei, _, _⟩
      · exact ⟨.ro e.size 0 (fun _ => .any), ⟨0, _, rfl, by omega, by omega⟩, trivial, rfl, trivial, .cons .ro0 .nil, by simp [Value.oneCell'], by simp [weight, bulk]⟩
      · have hx : ∀ i, i < len → ∃ x, ∃ ds y, elems[i]? = some y ∧ ds.length = e.size ∧ (∀ j, j < e.size → w.cell? ((a.add (i * e.size)).add j) = ds[j]?) ∧ Opened w e ds (bulk y.1) x := fun i hi => by
          have := hei i hi
          rw [hsz] at this
          have hlt : i < elems.length := by omega
          rw [List.getElem?_eq_getElem hlt] at this
          cases hc : w.cells? base (a.add (i * e.size)) e.size with
          | none => rw [hc] at this; simp at this
          | some ds =>
            rw [hc] at this
            simp only [Option.bind_some] at this
            obtain ⟨_, h1, h2⟩ := World.cells?_some hc
            obtain ⟨x, hx⟩ := open_sh e et n ds elems[i] hse this
            exact ⟨x, ds, elems[i], List.getElem?_eq_getElem hlt, h1, h2, hx⟩
        obtain ⟨g, hg⟩ := choose_fun hx
        refine ⟨.ro e.size len g, ⟨len, g, rfl, by unfold maxLen at hcm; omega, fun i hi => ?_⟩, trivial, rfl, trivial, ?_, by simp [Value.oneCell'], ?_⟩
        · obtain ⟨_, _, _, _, _, ho⟩ := hg i hi
          exact ho.sh
        · refine .cons ?_ .nil
          by_cases h0 : len = 0
          · subst h0; exact .ro0
          · by_cases he : e.size = 0
            · omega
            · have hsp : a.spot = none := by
                obtain ⟨ds, y, _, hl, hc, ho⟩ := hg 0 (by omega)
                have := hc 0 (by omega)
                rw [List.getElem?_eq_getElem (by omega)] at this
                have := World.cell?_spot this
                simpa [Addr.add] using this
              obtain ⟨b, o, sp⟩ := a
              simp only at hsp
              subst hsp
              refine .ro hlc (fun i hi => ?_) (fun i hi => ?_)
              · obtain ⟨_, _, _, _, _, ho⟩ := hg i hi
                exact ⟨ho.wf, ho.size, ho.pure⟩
              · obtain ⟨ds, y, _, hl, hc, ho⟩ := hg i hi
                refine RA.of ho.cells fun j u hu => ⟨?_, ho.one u (List.mem_of_getElem? hu)⟩
                have hj : j < e.size := by
                  rw [← hl]
                  exact (List.getElem?_eq_some_iff.1 hu).1
                have := hc j hj
                rw [add_none, add_none, hu] at this
                exact this
        · simp only [weight, bulk]
          rw [bulkL_sum, List.map_map, sum_range (bulk ∘ fun x => x.1) elems, hel]
          have := sum_le (f := fun i => weight (g i)) (g := fun i => optF (bulk ∘ fun x => x.1) elems[i]?) (List.range len) (fun i hi => by
            obtain ⟨_, y, hy, _, _, ho⟩ := hg i (List.mem_range.1 hi)
            simp only [hy]
            exact ho.wt)
          omega
    · cases hs
  | .arr n e, t, fuel, cs, y, hs, h => by
    simp only [shOK] at hs
    split at hs
    · rename_i m et hk
      obtain ⟨h1, hs⟩ := andb hs
      obtain ⟨hse, hs⟩ := andb hs
      obtain ⟨hsz, hst⟩ := andb hs
      have := of_decide_eq_true h1
      subst this
      have hsz := cellsOf_eq hsz
      have hst := cellsOf_eq hst
      obtain ⟨xs, k, rfl, rfl, hl, hxl, hxi⟩ := DataW.trod_array hk h
      rw [hst] at hl
      have hx : ∀ i, i < m → ∃ x, ∃ y, xs[i]? = some y ∧ Opened w e ((cs.drop (i * e.size)).take e.size) (bulk y.1) x := fun i hi => by
        have := hxi i hi
        rw [hsz] at this
        have hlt : i < xs.length := by omega
        rw [List.getElem?_eq_getElem hlt] at this
        obtain ⟨x, hx⟩ := open_sh e et k _ xs[i] hse this
        exact ⟨x, xs[i], List.getElem?_eq_getElem hlt, hx⟩
      obtain ⟨g, hg⟩ := choose_fun hx
      refine ⟨.vec e.size m g, ⟨g, rfl, fun i hi => ?_⟩, fun i hi => ?_, rfl, fun i hi => ?_, ?_, fun c hc => ?_, ?_⟩
      · obtain ⟨_, _, ho⟩ := hg i hi
        exact ho.sh
      · obtain ⟨_, _, ho⟩ := hg i hi
        exact ⟨ho.wf, ho.size, ho.pure⟩
      · obtain ⟨_, _, ho⟩ := hg i hi
        exact ho.pure
      · exact RL.vec m hl fun i hi => by
          obtain ⟨_, _, ho⟩ := hg i hi
          exact ho.cells
      · obtain ⟨j, hj⟩ := List.getElem?_of_mem hc
        have hjl := (List.getElem?_eq_some_iff.1 hj).1
        obtain ⟨i, q, hi, hq, rfl⟩ := getElem?_mul_add hl (by omega : j < m * e.size)
        obtain ⟨_, _, ho⟩ := hg i hi
        refine ho.one c (List.mem_of_getElem? (i := q) ?_)
        rw [slice_get, if_pos hq]
        exact hj
      · simp only [weight, bulk]
        rw [bulkL_sum, List.map_map, sum_range (bulk ∘ fun x => x.1) xs, hxl]
        have := sum_le (f := fun i => weight (g i)) (g := fun i => optF (bulk ∘ fun x => x.1) xs[i]?) (List.range m) (fun i hi => by
          obtain ⟨y, hy, ho⟩ := hg i (List.mem_range.1 hi)
          simp only [hy]
          exact ho.wt)
        omega
    · cases hs
  | .strct l, t, fuel, cs, y, hs, h => by
    simp only [shOK] at hs
    split at hs
    · rename_i fs hk
      obtain ⟨hsl, hst⟩ := andb hs
      have hst := cellsOf_eq hst
      obtain ⟨xs, k, rfl, rfl, hl, hxl, hxi⟩ := DataW.trod_struct hk h
      rw [hst] at hl
      obtain ⟨ps, h1, h2, h3, h4, h5, h6⟩ := open_shL l fs.toList 0 k cs xs hsl (by simpa using hxl) (fun i f hf => hxi i f (by simpa using hf)) (by omega)
      refine ⟨.agg ps, ⟨ps, rfl, h1⟩, h2, h3, h4, ?_, ?_, ?_⟩
      · have e : (cs.drop 0).take l.size = cs := by rw [List.drop_zero, List.take_of_length_le (by omega)]
        rw [e] at h5
        exact h5.1
      · have e : (cs.drop 0).take l.size = cs := by rw [List.drop_zero, List.take_of_length_le (by omega)]
        rw [e] at h5
        exact h5.2
      · simp only [weight, bulk]
        rw [bulkL_sum, List.map_map]
        have : (List.map bulk (List.map (fun x => x.1) xs)).sum = (List.map (bulk ∘ fun x => x.1) xs).sum := by rw [List.map_map]
        omega
    · cases hs
theorem open_shL : ∀ (l : ShL) (fs : List Field) (o fuel : Nat) (cs : List Value) (xs : List (DataW H × List MemPlace)), shOKL P l fs o = true → xs.length = fs.length →
    (∀ (i : Nat) (f : Field), fs[i]? = some f → DataW.trod enc P w base spare held fuel f.type ((cs.drop f.offset).take (P.cellsOf f.type)) = xs[i]?) → o + l.size ≤ cs.length →
    ∃ ps, ShapedL l ps ∧ A.wfL ps ∧ A.sizeL ps = l.size ∧ A.purePL ps ∧ (RL (allI w) nr (A.cellsL ps) ((cs.drop o).take l.size) ∧ ∀ c ∈ (cs.drop o).take l.size, c.oneCell' = true) ∧ weightL ps ≤ (xs.map (bulk ∘ fun x => x.1)).sum
  | .nil, [], o, fuel, cs, xs, _, _, _, _ => ⟨[], rfl, trivial, rfl, trivial, ⟨by simpa [A.cellsL, ShL.size] using RL.nil, by simp [ShL.size]⟩, by simp [weightL]⟩
  | .cons s l, f :: fs, o, fuel, cs, xs, hs, hxl, hx, hl => by
    simp only [shOKL] at hs
    obtain ⟨h1, hs⟩ := andb hs
    obtain ⟨h2, hs⟩ := andb hs
    obtain ⟨h3, h4⟩ := andb hs
    have h1 := Nat.eq_of_beq_eq_true h1
    have h3 := cellsOf_eq h3
    cases xs with
    | nil => simp at hxl
    | cons y ys =>
      simp only [ShL.size] at hl
      have hy := hx 0 f rfl
      rw [h1, h3] at hy
      obtain ⟨x, ho⟩ := open_sh s f.type fuel _ y h2 hy
      obtain ⟨ps, k1, k2, k3, k4, k5, k6⟩ := open_shL l fs (o + s.size) fuel cs ys h4 (by simpa using hxl) (fun i f' hf => by simpa using hx (i + 1) f' (by simpa using hf)) (by omega)
      have e : (cs.drop o).take (s.size + l.size) = (cs.drop o).take s.size ++ (cs.drop (o + s.size)).take l.size := by
        rw [List.take_add, List.drop_drop]
      refine ⟨x :: ps, ⟨x, ps, rfl, ho.sh, k1⟩, ⟨ho.wf, k2⟩, by simp [A.sizeL, ShL.size, ho.size, k3], ⟨ho.pure, k4⟩, ⟨?_, ?_⟩, ?_⟩
      · simp only [A.cellsL, ShL.size, e]
        exact RL.append ho.cells k5.1
      · simp only [ShL.size, e]
        intro c hc
        rcases List.mem_append.1 hc with hc | hc
        · exact ho.one c hc
        · exact k5.2 c hc
      · simp only [weightL, List.map_cons, List.sum_cons]
        have := ho.wt
        show _ ≤ bulk y.1 + _
        omega
  | .nil, _ :: _, _, _, _, _, hs, _, _, _ => by simp [shOKL] at hs
  | .cons _ _, [], _, _, _, _, hs, _, _, _ => by simp [shOKL] at hs
end
end
end VX

/- VX 31: a statement from what its function does; numbers. -/
namespace VX
open Go Go.RowKit

section
variable {H : Type} {enc : TypeId × Value → H} {P : Program} {w : World} {base : Nat} {spare : Nat → Bool} {held : Bool}

/-- What a statement's function comes back with: true. -/
def Yes (y : A) (r : List (Nat × Option Obj)) : Prop := y = .bool true

theorem law_calls {f : FuncId} {xs : List A} (hf : Does P f xs [] [] Yes) {args : List Value} (ha : RL (allI w) nr xs args) :
    Calls P f args.toArray w fun e w' => e = .returned (.bool true) ∧ Below w.heap.size w w' := by
  have hR : RW (entry w (allI w) nr (keys ([] : List (Nat × Option Obj))) (nOf P f)) (allI w) nr [] (keys ([] : List (Nat × Option Obj))) w :=
    ⟨fun b o v h => h, fun n ob h => by simp [look] at h, fun m n ob ob' b N N' h => by simp [look] at h, fun n _ => rfl, ⟨Nat.le_refl _, fun _ _ _ => rfl, fun _ _ _ _ => rfl, Imm.le.refl _, rfl, rfl, rfl⟩, fun n l _ h => h⟩
  refine (hf (allI w) nr w args ha hR).mono fun e w' h => ?_
  cases e with
  | returned v =>
    obtain ⟨y, r, I, ρ, hY, hv, hW⟩ := h
    cases hY
    cases hv.bool_inv
    refine ⟨rfl, hW.frame.os, hW.frame.tape, hW.frame.output, hW.frame.size, fun k hk => hW.frame.blocks k hk ?_⟩
    rintro ⟨n, N, h1, _⟩
    simp [keys, hasN] at h1
  | panicked chain => exact h.elim
  | outgrown => exact h.elim

theorem cells_of_not_agg {v : Value} (h : ∀ cs, v ≠ .agg cs) : v.cells = #[v] := by
  cases v <;> first | rfl | exact absurd rfl (h _)

theorem okWide_plain {r : Reach} {t : TypeId} {u : TypeDesc} {v : Value} (hu : P.underlying t = some u) (h1 : ∀ fs, u ≠ .struct fs) (h2 : ∀ n e, u ≠ .array n e) (h : Value.okWide P w r base t v) : ∀ cs, v ≠ .agg cs := by
  rintro cs rfl
  unfold Value.okWide at h
  rw [hu] at h
  cases u <;> simp only [Cell.okWide, hu, Cell.ok] at h <;> first | exact h.elim | exact absurd rfl (h1 _) | exact absurd rfl (h2 _ _) | (simp at h)

theorem RL.one_cells {I : Imm} {ρ : Ren} {x : A} {v : Value} (hx : isAgg x = false) (hv : v.cells = #[v]) (h : RL I ρ x.cells v.cells.toList) : R I ρ x v := by
  rw [cells_of_one hx, hv] at h
  obtain ⟨u, hu, hr⟩ := h.one_inv
  simp only [List.cons.injEq, and_true] at hu
  rw [hu]; exact hr

/-- An argument of a statement. -/
theorem open_arg {r : Reach} {b0 : Nat} {s : Sh} {t : TypeId} {v : Value} {d : DataW H} {ps : List MemPlace} (hs : shOK P s t = true) (hval : Value.okWide P w r b0 t v) (hd : DataW.Trod enc P w base spare held t v d ps) :
    ∃ x, Shaped s x ∧ R (allI w) nr x v ∧ weight x ≤ bulk d := by
  obtain ⟨fuel, hf⟩ := hd
  obtain ⟨x, ho⟩ := open_sh s t fuel _ _ hs hf
  refine ⟨x, ho.sh, ?_, ho.wt⟩
  have hs' := ho.sh
  cases s with
  | int k =>
    simp only [shOK] at hs
    split at hs
    · rename_i k' hk
      obtain ⟨n, rfl, _⟩ := hs'
      exact RL.one_cells rfl (cells_of_not_agg (okWide_plain hk (by simp) (by simp) hval)) ho.cells
    · cases hs
  | bool =>
    simp only [shOK] at hs
    split at hs
    · rename_i hk
      obtain ⟨n, rfl⟩ := hs'
      exact RL.one_cells rfl (cells_of_not_agg (okWide_plain hk (by simp) (by simp) hval)) ho.cells
    · cases hs
  | str =>
    simp only [shOK] at hs
    split at hs
    · rename_i hk
      obtain ⟨n, rfl, _⟩ := hs'
      exact RL.one_cells rfl (cells_of_not_agg (okWide_plain hk (by simp) (by simp) hval)) ho.cells
    · cases hs
  | slice e =>
    simp only [shOK] at hs
    split at hs
    · rename_i et hk
      obtain ⟨n, g, rfl, _⟩ := hs'
      exact RL.one_cells rfl (cells_of_not_agg (okWide_plain hk (by simp) (by simp) hval)) ho.cells
    · cases hs
  | arr n e =>
    simp only [shOK] at hs
    split at hs
    · rename_i m et hk
      obtain ⟨g, rfl, _⟩ := hs'
      have : ∃ cs, v = .agg cs := by
        unfold Value.okWide at hval
        rw [hk] at hval
        obtain ⟨cs, h, _⟩ := hval
        exact ⟨cs, h⟩
      obtain ⟨cs, rfl⟩ := this
      have := R.agg (x := .vec e.size n g) rfl ho.wf ho.cells
      simpa [Value.cells] using this
    · cases hs
  | strct l =>
    simp only [shOK] at hs
    split at hs
    · rename_i fs hk
      obtain ⟨qs, rfl, _⟩ := hs'
      have : ∃ cs, v = .agg cs := by
        unfold Value.okWide at hval
        rw [hk] at hval
        obtain ⟨cs, h, _⟩ := hval
        exact ⟨cs, h⟩
      obtain ⟨cs, rfl⟩ := this
      have := R.agg (x := .agg qs) rfl ho.wf ho.cells
      simpa [Value.cells] using this
    · cases hs
end

/-! ### numbers -/
theorem inr_i64 {n : Int} : inr .i64 n ↔ -9223372036854775808 ≤ n ∧ n ≤ 9223372036854775807 := by simp [inr, IntKind.min, IntKind.max, IntKind.signed, IntKind.bits]
theorem inr_i32 {n : Int} : inr .i32 n ↔ -2147483648 ≤ n ∧ n ≤ 2147483647 := by simp [inr, IntKind.min, IntKind.max, IntKind.signed, IntKind.bits]
theorem inr_i16 {n : Int} : inr .i16 n ↔ -32768 ≤ n ∧ n ≤ 32767 := by simp [inr, IntKind.min, IntKind.max, IntKind.signed, IntKind.bits]
theorem inr_i8 {n : Int} : inr .i8 n ↔ -128 ≤ n ∧ n ≤ 127 := by simp [inr, IntKind.min, IntKind.max, IntKind.signed, IntKind.bits]
theorem inr_u64 {n : Int} : inr .u64 n ↔ 0 ≤ n ∧ n ≤ 18446744073709551615 := by simp [inr, IntKind.min, IntKind.max, IntKind.signed, IntKind.bits]
theorem inr_u32 {n : Int} : inr .u32 n ↔ 0 ≤ n ∧ n ≤ 4294967295 := by simp [inr, IntKind.min, IntKind.max, IntKind.signed, IntKind.bits]
theorem inr_u16 {n : Int} : inr .u16 n ↔ 0 ≤ n ∧ n ≤ 65535 := by simp [inr, IntKind.min, IntKind.max, IntKind.signed, IntKind.bits]
theorem inr_u8 {n : Int} : inr .u8 n ↔ 0 ≤ n ∧ n ≤ 255 := by simp [inr, IntKind.min, IntKind.max, IntKind.signed, IntKind.bits]
theorem wrap_u8 (n : Int) : IntKind.u8.wrap n = n % 256 := by simp [IntKind.wrap, IntKind.signed, IntKind.bits]
theorem wrap_u16 (n : Int) : IntKind.u16.wrap n = n % 65536 := by simp [IntKind.wrap, IntKind.signed, IntKind.bits]
theorem wrap_u32 (n : Int) : IntKind.u32.wrap n = n % 4294967296 := by simp [IntKind.wrap, IntKind.signed, IntKind.bits]
theorem wrap_u64 (n : Int) : IntKind.u64.wrap n = n % 18446744073709551616 := by simp [IntKind.wrap, IntKind.signed, IntKind.bits]
theorem wrap_i64 (n : Int) : IntKind.i64.wrap n = if 9223372036854775808 ≤ n % 18446744073709551616 then n % 18446744073709551616 - 18446744073709551616 else n % 18446744073709551616 := by
  simp [IntKind.wrap, IntKind.signed, IntKind.bits]
theorem wrap_i32 (n : Int) : IntKind.i32.wrap n = if 2147483648 ≤ n % 4294967296 then n % 4294967296 - 4294967296 else n % 4294967296 := by
  simp [IntKind.wrap, IntKind.signed, IntKind.bits]
theorem wrap_i64_in {n : Int} (h : -9223372036854775808 ≤ n) (h' : n ≤ 9223372036854775807) : IntKind.i64.wrap n = n := wrap_inr (inr_i64.2 ⟨h, h'⟩)
theorem wrap_u64_in {n : Int} (h : 0 ≤ n) (h' : n ≤ 18446744073709551615) : IntKind.u64.wrap n = n := wrap_inr (inr_u64.2 ⟨h, h'⟩)
theorem wrap_u8_in {n : Int} (h : 0 ≤ n) (h' : n ≤ 255) : IntKind.u8.wrap n = n := wrap_inr (inr_u8.2 ⟨h, h'⟩)
end VX

/- VX 32: regions whose order is drawn. -/
namespace VX
open Go

/-- What an operation looks at and what it writes. -/
structure Foot where
  i : Nat
  rd : List Nat
  ds : List Nat
  rr : List Nat
  rw : List Nat
  nm : List Nat
  /-- what must be there; what is there no more -/
  rl : List Nat
  kw : List Nat
/-- What an operation does to the state. -/
structure Eff where
  f : Foot
  τ : List (Nat × A)
  r : List (Nat × Option Obj)

def appT {α : Type} : List (Nat × α) → List (Nat × α) → List (Nat × α)
  | [], r => r
  | x :: l, r => x :: appT l r
theorem appT_eq {α : Type} (l k : List (Nat × α)) : appT l k = l ++ k := by induction l <;> simp_all [appT]

def St.add (σ : St) (e : Eff) : St := ⟨appT e.τ σ.τ, appT e.r σ.r, appN e.f.nm σ.us⟩
structure Eff.ok (e : Eff) : Prop where
  ds : keys e.τ = e.f.ds
  rw_ : keys e.r = e.f.rw
  kill : ∀ n, look e.r n = some none → hasN e.f.kw n = true
  old : ∀ n, hasN e.f.rw n = true → hasN e.f.nm n = true ∨ hasN e.f.rl n = true
def Alive (r : List (Nat × Option Obj)) (l : List Nat) : Prop := ∀ n, hasN l n = true → ∃ ob, look r n = some (some ob)

def Agree {α : Type} (l : List Nat) (τ τ' : List (Nat × α)) : Prop := ∀ t, hasN l t = true → look τ' t = look τ t
def apartL (l m : List Nat) : Bool := apartN l m
/-- Two operations that do not meet. -/
def indep (f g : Foot) : Bool :=
  apartN f.ds g.rd && (apartN g.ds f.rd && (apartN f.ds g.ds && (apartN f.rw g.rr && (apartN g.rw f.rr && (apartN f.rw g.rw && (apartN f.nm g.nm && (apartN f.nm g.rl && (apartN g.nm f.rl && (apartN f.kw g.rl && apartN g.kw f.rl)))))))))
def onIn : List Edge → Nat → Bool
  | [], _ => false
  | e :: l, j => (Region.binds .any e && Nat.beq e.on j) || onIn l j
/-- Is j told to come before i? -/
def direct (ops : Array Oper) (i j : Nat) : Bool := match ops.toList[i]? with
  | some o => onIn o.after.toList j
  | none => false
/-- Is j told to come before i, by whatever is between? -/
inductive Tr (ops : Array Oper) : Nat → Nat → Prop
  | one {i j : Nat} : direct ops i j = true → Tr ops i j
  | step {i m j : Nat} : direct ops i m = true → Tr ops m j → Tr ops i j
def pairOK (ops : Array Oper) (g f : Foot) : Prop := Tr ops f.i g.i ∨ indep f g = true
def chkDone (ops : Array Oper) (f : Foot) (l : List Foot) : Prop := ∀ g ∈ l, pairOK ops g f

section
variable (Γ : Ctx) (P : Program) (Q : Act → World → Prop) (ops : Array Oper) (k' : List Item)
def SoundAt (i : Nat) (e : Eff) (σ : St) : Prop :=
  ∀ σ1 : St, Agree e.f.rd σ.τ σ1.τ → Agree e.f.rr σ.r σ1.r → Alive σ1.r e.f.rl → freshL σ1.us e.f.nm = true → ∀ l,
    W Γ P Q [] (.inRegion ops l :: k') (σ1.add e).τ (σ1.add e).r (σ1.add e).us → W Γ P Q [] (.inRegion ops (i :: l) :: k') σ1.τ σ1.r σ1.us

/-- The operations l, in the order of the text, from the state σ on; those of 'done' were before. -/
inductive Run : List Foot → List Nat → St → Prop
  | nil {done : List Foot} {σ : St} : W Γ P Q [] (.inRegion ops [] :: k') σ.τ σ.r σ.us → Run done [] σ
  | cons {done : List Foot} {i : Nat} {l : List Nat} {σ : St} (e : Eff) : e.f.i = i → e.ok → SoundAt Γ P Q ops k' i e σ → Alive σ.r e.f.rl → freshL σ.us e.f.nm = true → chkDone ops e.f done →
      Run (e.f :: done) l (σ.add e) → Run done (i :: l) σ
end

def St.eqv (σ σ' : St) : Prop := (∀ t, look σ.τ t = look σ'.τ t) ∧ (∀ n, look σ.r n = look σ'.r n) ∧ (∀ n, hasN σ.us n = hasN σ'.us n)

theorem hasN_append (l k : List Nat) (n : Nat) : hasN (l ++ k) n = (hasN l n || hasN k n) := by
  induction l with
  | nil => simp [hasN]
  | cons m l ih => rw [List.cons_append, hasN_cons, ih, hasN_cons, Bool.or_assoc]
theorem usedN_eq {us us' : List Nat} (h : ∀ n, hasN us n = hasN us' n) (n : Nat) : usedN us n = usedN us' n := by
  unfold usedN; rw [h]
theorem freshL_eq {us us' : List Nat} (h : ∀ n, hasN us n = hasN us' n) : ∀ (l : List Nat), freshL us l = freshL us' l
  | [] => rfl
  | n :: l => by rw [freshL, freshL, usedN_eq h, freshL_eq h l]
theorem freshL_sub {us us' : List Nat} (h : ∀ n, hasN us' n = true → hasN us n = true) : ∀ {l : List Nat}, freshL us l = true → freshL us' l = true
  | [], _ => rfl
  | n :: l, hf => by
    rw [freshL, Bool.and_eq_true, Bool.not_eq_true'] at hf ⊢
    refine ⟨?_, freshL_sub h hf.2⟩
    have h1 := hf.1
    unfold usedN at h1 ⊢
    cases e : Nat.ble 1000 n with
    | true => rw [e] at h1; cases h1
    | false =>
      rw [e] at h1
      simp only [cond_false] at h1 ⊢
      cases e2 : hasN us' n with
      | false => rfl
      | true => rw [h n e2] at h1; cases h1
theorem freshL_app {us nm : List Nat} : ∀ {l : List Nat}, freshL us l = true → apartN nm l = true → freshL (nm ++ us) l = true
  | [], _, _ => rfl
  | n :: l, hf, ha => by
    rw [freshL, Bool.and_eq_true, Bool.not_eq_true'] at hf ⊢
    rw [apartN, Bool.and_eq_true, Bool.not_eq_true'] at ha
    exact ⟨by rw [usedN_append, ha.1, hf.1]; rfl, freshL_app hf.2 ha.2⟩

theorem St.eqv.refl (σ : St) : σ.eqv σ := ⟨fun _ => rfl, fun _ => rfl, fun _ => rfl⟩
theorem St.eqv.symm {σ σ' : St} (h : σ.eqv σ') : σ'.eqv σ := ⟨fun t => (h.1 t).symm, fun t => (h.2.1 t).symm, fun t => (h.2.2 t).symm⟩
theorem St.eqv.add {σ σ' : St} (h : σ.eqv σ') (e : Eff) : (σ.add e).eqv (σ'.add e) := by
  refine ⟨fun t => ?_, fun t => ?_, fun n => ?_⟩
  · simp only [St.add, appT_eq, look_append, h.1 t]
  · simp only [St.add, appT_eq, look_append, h.2.1 t]
  · simp only [St.add, appN_eq, hasN_append, h.2.2 n]

theorem W.eqv {Γ : Ctx} {P : Program} {Q : Act → World → Prop} {k : List Item} {σ σ' : St} (h : W Γ P Q [] k σ.τ σ.r σ.us) (he : σ.eqv σ') : W Γ P Q [] k σ'.τ σ'.r σ'.us :=
  ⟨fun a w I ρ hR hS _ => h.ok a w I ρ
    ⟨hR.imm, fun n ob hn => hR.own n ob (by rw [← he.2.1]; exact hn), fun m n ob ob' b N N' hm hn => hR.inj m n ob ob' b N N' (by rw [← he.2.1]; exact hm) (by rw [← he.2.1]; exact hn),
      fun n hn => hR.names n (by rw [← usedN_eq he.2.2]; exact hn), hR.frame, hR.keep⟩
    ⟨hS.size, hS.defers, fun t x hx => hS.at_ t x (by rw [← he.1]; exact hx)⟩ .nil⟩

section
variable {Γ : Ctx} {P : Program} {Q : Act → World → Prop} {ops : Array Oper} {k' : List Item}

theorem Run.eqv {done : List Foot} {l : List Nat} {σ σ' : St} (h : Run Γ P Q ops k' done l σ) : σ.eqv σ' → Run Γ P Q ops k' done l σ' := by
  induction h generalizing σ' with
  | nil hw => exact fun he => .nil (hw.eqv he)
  | cons e h1 h2 h3 hA h4 h5 _ ih =>
    exact fun he => .cons e h1 h2 (fun σ1 a1 a2 => h3 σ1 (fun t ht => by rw [a1 t ht, he.1 t]) (fun t ht => by rw [a2 t ht, he.2.1 t])) (fun n hn => by rw [← he.2.1 n]; exact hA n hn) (by rw [← freshL_eq he.2.2]; exact h4) h5 (ih (he.add e))

theorem Run.sub {done done' : List Foot} {l : List Nat} {σ : St} (h : Run Γ P Q ops k' done l σ) : (∀ f ∈ done', f ∈ done) → Run Γ P Q ops k' done' l σ := by
  induction h generalizing done' with
  | nil hw => exact fun _ => .nil hw
  | cons e h1 h2 h3 hA h4 h5 _ ih =>
    refine fun hs => .cons e h1 h2 h3 hA h4 (fun g hg => h5 g (hs g hg)) (ih fun f hf => ?_)
    rcases List.mem_cons.1 hf with rfl | hf
    · exact List.mem_cons_self
    · exact List.mem_cons_of_mem _ (hs f hf)

theorem look_app_off {α : Type} {l k : List (Nat × α)} {t : Nat} (h : hasN (keys l) t = false) : look (appT l k) t = look k t := by
  rw [appT_eq, look_append]
  cases e : look l t with
  | none => rfl
  | some v => rw [look_keys e] at h; cases h

theorem Run.swap {done : List Foot} {i j : Nat} {l : List Nat} {σ : St} (h : Run Γ P Q ops k' done (i :: j :: l) σ) (hd : ¬ Tr ops j i) : Run Γ P Q ops k' done (j :: i :: l) σ := by
  cases h with
  | cons ei hi1 hi2 hi3 hiA hi4 hi5 h =>
    cases h with
    | cons ej hj1 hj2 hj3 hjA hj4 hj5 h =>
      have hin : indep ej.f ei.f = true := by
        rcases hj5 ei.f List.mem_cons_self with h1 | h1
        · rw [hi1, hj1] at h1; exact absurd h1 hd
        · exact h1
      unfold indep at hin
      obtain ⟨q1, hin⟩ := andb hin
      obtain ⟨q2, hin⟩ := andb hin
      obtain ⟨q3, hin⟩ := andb hin
      obtain ⟨q4, hin⟩ := andb hin
      obtain ⟨q5, hin⟩ := andb hin
      obtain ⟨q6, hin⟩ := andb hin
      obtain ⟨q7, hin⟩ := andb hin
      obtain ⟨q8, hin⟩ := andb hin
      obtain ⟨q9, hin⟩ := andb hin
      obtain ⟨q10, q11⟩ := andb hin
      have flip : ∀ {l m : List Nat}, apartN l m = true → ∀ {n : Nat}, hasN l n = true → hasN m n = false := fun {l m} h n hn => by
        cases e : hasN m n with
        | false => rfl
        | true => rw [apartN_ok h e] at hn; cases hn
      have flipB : ∀ {l m : List Nat}, apartN l m = true → apartN m l = true := fun {l m} h => by
        induction l with
        | nil => rfl
        | cons n l ih =>
          rw [apartN, flip h (n := n) (by rw [hasN_cons]; simp)]
          exact ih (by
            clear ih
            induction m with
            | nil => rfl
            | cons k m ih2 =>
              rw [apartN, Bool.and_eq_true, Bool.not_eq_true'] at h ⊢
              rw [hasN_cons, Bool.or_eq_false_iff] at h
              exact ⟨h.1.2, ih2 h.2⟩)
      have disj : ∀ {α : Type} {a b c : List (Nat × α)}, apartN (keys a) (keys b) = true → ∀ t, look (appT a (appT b c)) t = look (appT b (appT a c)) t := fun {α a b c} h t => by
        rw [appT_eq, appT_eq, appT_eq, appT_eq, look_append, look_append, look_append, look_append]
        cases e : look a t with
        | none => rfl
        | some v =>
          have := flip h (look_keys e)
          cases e' : look b t with
          | none => rfl
          | some v' => rw [look_keys e'] at this; cases this
      refine .cons ej hj1 hj2 (fun σ1 a1 a2 => hj3 σ1 (fun t ht => ?_) (fun t ht => ?_)) (fun n hn => ?_) ?_ (fun g hg => hj5 g (List.mem_cons_of_mem _ hg)) (.cons ei hi1 hi2 (fun σ1 a1 a2 => hi3 σ1 (fun t ht => ?_) (fun t ht => ?_)) (fun n hn => ?_) ?_ ?_ ?_)
      · rw [a1 t ht]
        exact (look_app_off (by rw [hi2.ds]; exact apartN_ok q2 ht)).symm
      · rw [a2 t ht]
        exact (look_app_off (by rw [hi2.rw_]; exact apartN_ok q5 ht)).symm
      · obtain ⟨ob, hob⟩ := hjA n hn
        by_cases e : hasN (keys ei.r) n = true
        · rcases hi2.old n (by rw [← hi2.rw_]; exact e) with h1 | h1
          · rw [apartN_ok q9 hn] at h1; cases h1
          · exact hiA n h1
        · rw [Bool.not_eq_true] at e
          exact ⟨ob, by rw [← hob]; exact (look_app_off e).symm⟩
      · exact freshL_sub (fun n hn => by simp only [St.add, appN_eq, hasN_append, hn, Bool.or_true]) hj4
      · rw [a1 t ht]
        exact look_app_off (by rw [hj2.ds]; exact apartN_ok q1 ht)
      · rw [a2 t ht]
        exact look_app_off (by rw [hj2.rw_]; exact apartN_ok q4 ht)
      · obtain ⟨ob, hob⟩ := hiA n hn
        show ∃ ob, look (appT ej.r σ.r) n = some (some ob)
        rw [appT_eq, look_append]
        cases e : look ej.r n with
        | none => exact ⟨ob, hob⟩
        | some o =>
          cases o with
          | none => have := hj2.kill n e; rw [apartN_ok q10 hn] at this; cases this
          | some ob' => exact ⟨ob', rfl⟩
      · simp only [St.add, appN_eq]
        exact freshL_app hi4 q7
      · intro g hg
        rcases List.mem_cons.1 hg with rfl | hg
        · right
          unfold indep
          rw [flipB q3, flipB q6, q1, q2, q4, q5, flipB q7, q8, q9, q10, q11]
          rfl
        · exact hi5 g hg
      · refine (h.eqv ⟨fun t => ?_, fun t => ?_, fun n => ?_⟩).sub fun f hf => ?_
        · exact disj (by rw [hj2.ds, hi2.ds]; exact q3) t
        · exact disj (by rw [hj2.rw_, hi2.rw_]; exact q6) t
        · simp only [St.add, appN_eq, hasN_append]
          cases hasN ei.f.nm n <;> cases hasN ej.f.nm n <;> rfl
        · simp only [List.mem_cons] at hf ⊢
          rcases hf with h | h | h
          · exact .inr (.inl h)
          · exact .inl h
          · exact .inr (.inr h)

theorem Run.front {i : Nat} {l2 : List Nat} : ∀ (l1 : List Nat) {done : List Foot} {σ : St}, Run Γ P Q ops k' done (l1 ++ i :: l2) σ → (∀ j ∈ l1, ¬ Tr ops i j) → Run Γ P Q ops k' done (i :: (l1 ++ l2)) σ
  | [], _, _, h, _ => h
  | j :: l1, done, σ, h, hd => by
    cases h with
    | cons e h1 h2 h3 hA h4 h5 h =>
      exact Run.swap (.cons e h1 h2 h3 hA h4 h5 (Run.front l1 h fun j' hj => hd j' (List.mem_cons_of_mem _ hj))) (hd j List.mem_cons_self)

/-- Every edge leads to an earlier operation. -/
def edgesOK (ops : Array Oper) : Bool := go 0 ops.toList
where
  go : Nat → List Oper → Bool
    | _, [] => true
    | n, o :: l => (o.after.toList.all fun e => !Region.binds .any e || Nat.blt e.on n) && go (n + 1) l
theorem edgesOK_go : ∀ (l : List Oper) (n : Nat), edgesOK.go n l = true → ∀ (i : Nat) (o : Oper), l[i]? = some o → ∀ e ∈ o.after.toList, Region.binds .any e = true → e.on < n + i
  | [], _, _, i, o, h => by simp at h
  | x :: l, n, hg, i, o, h => by
    rw [edgesOK.go, Bool.and_eq_true, List.all_eq_true] at hg
    cases i with
    | zero =>
      simp at h
      subst h
      intro e he hb
      have := hg.1 e he
      rw [hb, Bool.not_true, Bool.false_or] at this
      exact blt_lt this
    | succ i =>
      intro e he hb
      have := edgesOK_go l (n + 1) hg.2 i o (by simpa using h) e he hb
      omega
theorem edgesOK_ok (h : edgesOK ops = true) {i : Nat} {o : Oper} (ho : ops[i]? = some o) : ∀ e ∈ o.after.toList, Region.binds .any e = true → e.on < i := fun e he hb => by
  have := edgesOK_go ops.toList 0 h i o (by simpa using ho) e he hb
  omega

theorem onIn_false {l : List Edge} {j : Nat} (h : ∀ e ∈ l, Region.binds .any e = true → e.on ≠ j) : onIn l j = false := by
  induction l with
  | nil => rfl
  | cons e l ih =>
    rw [onIn, ih fun e' he' => h e' (List.mem_cons_of_mem _ he'), Bool.or_false]
    cases hb : Region.binds .any e with
    | false => rfl
    | true =>
      rw [Bool.true_and]
      exact nbeq_ne (h e List.mem_cons_self hb)

theorem Tr.closed {listed : Array Bool} (hc : ∀ m, m < ops.size → listed.getD m true = true → ∀ j, direct ops m j = true → listed.getD j true = true) {i j : Nat} (h : Tr ops i j) : i < ops.size → listed.getD i true = true → listed.getD j true = true := by
  induction h with
  | one h => exact fun a b => hc _ a b _ h
  | step h _ ih =>
    intro a b
    have hm := hc _ a b _ h
    refine ih ?_ hm
    refine Nat.lt_of_not_le fun hge => ?_
    rename_i i m j ht
    have : ops.toList[m]? = none := by simp; omega
    cases ht with
    | one h => unfold direct at h; rw [this] at h; cases h
    | step h _ => unfold direct at h; rw [this] at h; cases h
theorem onIn_true {l : List Edge} {j : Nat} (h : onIn l j = true) : ∃ e ∈ l, Region.binds .any e = true ∧ e.on = j := by
  induction l with
  | nil => cases h
  | cons e l ih =>
    rw [onIn, Bool.or_eq_true] at h
    rcases h with h | h
    · rw [Bool.and_eq_true] at h
      exact ⟨e, List.mem_cons_self, h.1, Nat.eq_of_beq_eq_true h.2⟩
    · obtain ⟨e', h1, h2⟩ := ih h
      exact ⟨e', List.mem_cons_of_mem _ h1, h2⟩
theorem direct_true {i j : Nat} (h : direct ops i j = true) : ∃ o, ops[i]? = some o ∧ ∃ e ∈ o.after.toList, Region.binds .any e = true ∧ e.on = j := by
  unfold direct at h
  cases ho : ops.toList[i]? with
  | none => rw [ho] at h; cases h
  | some o => rw [ho] at h; exact ⟨o, by simpa using ho, onIn_true h⟩

/-- Whatever the order is. -/
theorem Run.lin (hE : edgesOK ops = true) : ∀ (fuel t : Nat) (listed : Array Bool) (L : List Nat) (done : List Foot) (σ : St), L.Pairwise (· < ·) → listed.size = ops.size → (∀ i, i ∈ L ↔ i < ops.size ∧ listed.getD i true = false) → (∀ m, m < ops.size → listed.getD m true = true → ∀ j, direct ops m j = true → listed.getD j true = true) → L.length ≤ fuel →
    Run Γ P Q ops k' done L σ → W Γ P Q [] (.inRegion ops (Region.linearise.go .any ops fuel t listed []) :: k') σ.τ σ.r σ.us
  | 0, t, listed, L, done, σ, hs, hsz, hL, hc, hf, h => by
    have : L = [] := List.length_eq_zero_iff.1 (by omega)
    subst this
    cases h with
    | nil hw => exact hw
  | fuel + 1, t, listed, L, done, σ, hs, hsz, hL, hc, hf, h => by
    simp only [Region.linearise.go]
    change W Γ P Q [] (.inRegion ops (match (Region.ready .any ops listed)[t % (Region.ready .any ops listed).length]? with
      | some i => Region.linearise.go .any ops fuel (t / (Region.ready .any ops listed).length) (listed.setIfInBounds i true) [i]
      | none => [].reverse) :: k') σ.τ σ.r σ.us
    cases L with
    | nil =>
      have hnil : Region.ready .any ops listed = [] := by
        unfold Region.ready
        rw [List.filter_eq_nil_iff]
        intro i hi hr
        rw [Bool.and_eq_true, Bool.not_eq_true'] at hr
        have := (hL i).2 ⟨List.mem_range.1 hi, hr.1⟩
        cases this
      rw [hnil]
      cases h with
      | nil hw => exact hw
    | cons i0 L0 =>
      have h0 := (hL i0).1 List.mem_cons_self
      have hfirst : i0 ∈ Region.ready .any ops listed := by
        unfold Region.ready
        rw [List.mem_filter]
        refine ⟨List.mem_range.2 h0.1, ?_⟩
        rw [h0.2, Array.getElem?_eq_getElem h0.1]
        simp only [Bool.not_false, Bool.true_and, Option.map_some, Option.getD_some]
        rw [Array.all_eq_true']
        intro e he
        cases hbd : Region.binds .any e with
        | false => rfl
        | true =>
        have hlt := edgesOK_ok hE (Array.getElem?_eq_getElem h0.1) e (by simpa using he) hbd
        have hnot : e.on ∉ i0 :: L0 := fun hm => by
          rcases List.mem_cons.1 hm with hm | hm
          · omega
          · have := (List.pairwise_cons.1 hs).1 _ hm
            omega
        have : listed.getD e.on true = true := by
          cases e2 : listed.getD e.on true with
          | true => rfl
          | false => exact absurd ((hL e.on).2 ⟨by omega, e2⟩) hnot
        have hin : e.on < listed.size := by omega
        rw [Array.getD_eq_getD_getElem?, Array.getElem?_eq_getElem hin, Option.getD_some] at this
        rw [Array.getD_eq_getD_getElem?, Array.getElem?_eq_getElem hin, Option.getD_some, this, Bool.or_true]
      have hpos : 0 < (Region.ready .any ops listed).length := List.length_pos_of_mem hfirst
      have hlt := Nat.mod_lt t hpos
      rw [List.getElem?_eq_getElem hlt]
      simp only
      generalize hi : (Region.ready .any ops listed)[t % (Region.ready .any ops listed).length] = i
      have him : i ∈ Region.ready .any ops listed := hi ▸ List.getElem_mem hlt
      generalize t / (Region.ready .any ops listed).length = t'
      rw [linearise_go_acc, List.reverse_singleton, List.singleton_append]
      have hi2 := him
      unfold Region.ready at hi2
      rw [List.mem_filter, List.mem_range, Bool.and_eq_true, Bool.not_eq_true'] at hi2
      obtain ⟨hin, hun, hedge⟩ := hi2
      have hiL : i ∈ i0 :: L0 := (hL i).2 ⟨hin, hun⟩
      rw [Array.getElem?_eq_getElem hin, Option.map_some, Option.getD_some, Array.all_eq_true'] at hedge
      obtain ⟨l1, l2, hsplit⟩ := List.append_of_mem hiL
      rw [hsplit] at h hs hL hf
      have hdi : ∀ j, direct ops i j = true → listed.getD j true = true := fun j hj => by
        obtain ⟨o, ho, e, he, hb, hon⟩ := direct_true hj
        rw [Array.getElem?_eq_getElem hin] at ho
        cases ho
        have := hedge e (by simpa using he)
        rw [hb, Bool.not_true, Bool.false_or, hon] at this
        by_cases hjs : j < listed.size
        · rw [Array.getD_eq_getD_getElem?, Array.getElem?_eq_getElem hjs, Option.getD_some] at this ⊢
          exact this
        · rw [Array.getD_eq_getD_getElem?, Array.getElem?_eq_none (by omega)]; rfl
      have hd : ∀ j ∈ l1, ¬ Tr ops i j := fun j hj ht => by
        have hj2 := (hL j).1 (by simp [hj])
        have : listed.getD j true = true := by
          cases ht with
          | one h => exact hdi _ h
          | step h ht =>
            have hm := hdi _ h
            refine ht.closed hc ?_ hm
            refine Nat.lt_of_not_le fun hge => ?_
            rename_i m
            have : ops.toList[m]? = none := by simp; omega
            cases ht with
            | one h => unfold direct at h; rw [this] at h; cases h
            | step h _ => unfold direct at h; rw [this] at h; cases h
        rw [this] at hj2
        cases hj2.2
      have hr := Run.front l1 h hd
      cases hr with
      | cons e h1 h2 h3 hA h4 h5 h =>
        refine h3 σ (fun _ _ => rfl) (fun _ _ => rfl) hA h4 _ ?_
        have hs' := hs
        rw [List.pairwise_append] at hs
        refine Run.lin hE fuel t' _ (l1 ++ l2) _ _ ?_ (by simpa using hsz) (fun j => ?_) (fun m hm hlm j hj => ?_) (by simp at hf ⊢; omega) h
        · rw [List.pairwise_append]
          exact ⟨hs.1, (List.pairwise_cons.1 hs.2.1).2, fun a ha b hb => hs.2.2 a ha b (List.mem_cons_of_mem _ hb)⟩
        · have hji := hL j
          simp only [List.mem_append, List.mem_cons] at hji ⊢
          by_cases e : j = i
          · subst e
            have hnl1 : j ∉ l1 := fun hm => by
              have := hs.2.2 j hm j List.mem_cons_self
              omega
            have hnl2 : j ∉ l2 := fun hm => by
              have := (List.pairwise_cons.1 hs.2.1).1 j hm
              omega
            simp only [hnl1, hnl2, false_or, false_iff, not_and, Bool.not_eq_false]
            intro _
            have : j < listed.size := by omega
            simp [Array.getD_eq_getD_getElem?, Array.getElem?_setIfInBounds, this]
          · have hgd : (listed.setIfInBounds i true).getD j true = listed.getD j true := by
              simp [Array.getD_eq_getD_getElem?, Array.getElem?_setIfInBounds, Ne.symm e]
            rw [hgd, ← hji]
            simp [e]
        · have up : ∀ q, listed.getD q true = true → (listed.setIfInBounds i true).getD q true = true := fun q hq => by
            by_cases e : q = i
            · subst e
              have : q < listed.size := by omega
              simp [Array.getD_eq_getD_getElem?, Array.getElem?_setIfInBounds, this]
            · have hgd : (listed.setIfInBounds i true).getD q true = listed.getD q true := by
                simp [Array.getD_eq_getD_getElem?, Array.getElem?_setIfInBounds, Ne.symm e]
              rw [hgd]; exact hq
          by_cases e : m = i
          · subst e
            exact up j (hdi j hj)
          · have hgd : (listed.setIfInBounds i true).getD m true = listed.getD m true := by
              simp [Array.getD_eq_getD_getElem?, Array.getElem?_setIfInBounds, Ne.symm e]
            rw [hgd] at hlm
            exact up j (hc m hm hlm j hj)

/-- A region whose order is drawn. -/
theorem W.draw (hm : P.follows .mixedOrders = true) (hE : edgesOK ops = true) {id : Nat} {g : List (Nat × Nat × Bool)} {τ : List (Nat × A)} {r : List (Nat × Option Obj)} {us : List Nat}
    (h : Run Γ P Q ops k' [] (List.range ops.size) ⟨τ, r, us⟩) : W Γ P Q g (.code (.region id ops true) :: k') τ r us := by
  refine ⟨fun a w I ρ hR hS _ b cs => ?_⟩
  have hl := Run.lin hE ops.size (w.tape w.drawn (.order b.fn id)) (Array.replicate ops.size false) (List.range ops.size) [] ⟨τ, r, us⟩ List.pairwise_lt_range (by simp) (fun i => by
    rw [List.mem_range]
    constructor
    · intro hi
      exact ⟨hi, by simp [Array.getD_eq_getD_getElem?, hi]⟩
    · exact fun hi => hi.1) (fun m hm hl => by
      simp [Array.getD_eq_getD_getElem?, hm] at hl) (by simp) h
  obtain ⟨a', w', todo, hq, hs⟩ := hl.ok a _ I ρ hR.drew hS .nil b cs
  refine ⟨a', w', todo, hq, .head step_region_draw ?_⟩
  simp only [Region.schedule, hm, Bool.true_or, if_true, Region.linearise]
  exact hs
end
end VX

