/- A symbolic executor for the model's code, and its soundness (part 1 of 9): a general tool, no statement about this program. -/
import Derived.Calls
import Derived.Below
import Derived.KernelRfl
import Derived.Laws.IdiomCopy
import Derived.Laws.Cells
import Derived.Laws.Slices
set_option linter.unusedSimpArgs false
set_option linter.unusedVariables false
/- VX 1: the abstract values, objects, states of a symbolic executor, and the executor itself (no proofs here). -/
namespace VX
open Go

/-- A step from a variable into a part of it: a field at a cell offset (and its cells), an element (of so many cells each). -/
inductive Step where
  | fld (off sz : Nat)
  | idx (i sz : Nat)

/-- Abstract values. 'ro': a slice whose elements never change; 'rol': such a one without spare places; 'own': a slice of an owned array; 'owl': such a one without
spare places; 'owk': such a one of which at least K places are there; 'vsl': a slice of an array in an owned variable; 'ptr': the address of a part of an owned variable or array; 'rop': the address of what never changes. -/
inductive A where
  | int (k : IntKind) (n : Int)
  | bool (b : Bool)
  | str (l : List UInt8)
  | vec (sz n : Nat) (g : Nat → A)
  | agg (ps : List A)
  | ro (sz n : Nat) (g : Nat → A)
  | rol (sz n : Nat) (g : Nat → A)
  | own (sz id off n : Nat)
  | owl (sz id off n : Nat)
  | owk (sz id off n K : Nat)
  | ptr (id : Nat) (path : List Step)
  | vsl (sz id : Nat) (path : List Step) (i n : Nat)
  | rop (x : A)
  | nils | nilp | nilm | nilf | nili
  | map (id : Nat)
  | func (fn : Fn) (first captured : List A)
  | iface (t : TypeId) (x : A)
  | tup (l : List A)
  | any

instance : Inhabited A := ⟨.any⟩

/-- What an owned block holds. 'var': a variable; 'arr': n elements of sz cells, then spare places; 'smap': a map with string keys; 'pmap': such a one whose values may have names. -/
inductive Obj where
  | var (x : A)
  | arr (sz n : Nat) (g : Nat → A)
  | smap (zero : A) (ks : List (List UInt8)) (g : List UInt8 → A)
  | pmap (ks : List (List UInt8)) (xs : List A)

mutual
def A.size : A → Nat
  | .vec sz n _ => n * sz
  | .agg ps => A.sizeL ps
  | _ => 1
def A.sizeL : List A → Nat
  | [] => 0
  | x :: xs => x.size + A.sizeL xs
end

mutual
def A.cells : A → List A
  | .vec _ n g => (List.range n).flatMap fun i => (g i).cells
  | .agg ps => A.cellsL ps
  | .int k n => [.int k n]
  | .bool b => [.bool b]
  | .str l => [.str l]
  | .ro a b c => [.ro a b c]
  | .rol a b c => [.rol a b c]
  | .own a b c d => [.own a b c d]
  | .owl a b c d => [.owl a b c d]
  | .owk a b c d e => [.owk a b c d e]
  | .ptr a b => [.ptr a b]
  | .vsl a b c d e => [.vsl a b c d e]
  | .rop a => [.rop a]
  | .nils => [.nils]
  | .nilp => [.nilp]
  | .nilm => [.nilm]
  | .nilf => [.nilf]
  | .nili => [.nili]
  | .map a => [.map a]
  | .func a b c => [.func a b c]
  | .iface a b => [.iface a b]
  | .tup a => [.tup a]
  | .any => [.any]
def A.cellsL : List A → List A
  | [] => []
  | x :: xs => x.cells ++ A.cellsL xs
end

def isAgg : A → Bool
  | .vec .. | .agg _ => true
  | _ => false

/-- A part of a struct, at a cell offset. -/
def partL : List A → Nat → Option A
  | [], _ => none
  | x :: xs, off => bif Nat.beq off 0 then some x else bif Nat.ble x.size off then partL xs (off - x.size) else none
def setPartL : List A → Nat → A → List A
  | [], _, _ => []
  | x :: xs, off, y => bif Nat.beq off 0 then y :: xs else x :: setPartL xs (off - x.size) y

/-- The part of a datum at a path, and under which conditions it is there. -/
def getP : List Step → A → Option (A × List Prop)
  | [], x => some (x, [])
  | .fld off sz :: p, .agg ps => match partL ps off with
    | some y => bif Nat.beq y.size sz then getP p y else none
    | none => none
  | .idx i sz :: p, .vec sz' n g => bif Nat.beq sz sz' then (match getP p (g i) with
    | some (y, c) => some (y, (i < n) :: c)
    | none => none) else none
  | _, _ => none
/-- The datum with another part at a path (which is there); what must be pure for it. -/
def setP : List Step → A → A → A
  | [], _, y => y
  | .fld off _ :: p, .agg ps, y => match partL ps off with
    | some x => .agg (setPartL ps off (setP p x y))
    | none => .any
  | .idx i _ :: p, .vec sz n g, y => .vec sz n fun j => bif Nat.beq j i then setP p (g i) y else g j
  | _, _, _ => .any
def hasIdx : List Step → Bool
  | [] => false
  | .idx .. :: _ => true
  | _ :: p => hasIdx p
/-- How many cells the part has. -/
def lastSz : List Step → Nat → Nat
  | [], n => n
  | .fld _ sz :: p, _ => lastSz p sz
  | .idx _ sz :: p, _ => lastSz p sz

def addr : List Step → Nat
  | [] => 0
  | .fld off _ :: p => off + addr p
  | .idx i sz :: p => i * sz + addr p

/-! ### the table of types -/
inductive TD where
  | int (k : IntKind) | bool | string
  | slice (e : Nat) | array (n e : Nat) | struct (fs : List (Nat × Nat)) | pointer (e : Nat) | map (k e : Nat) | iface | func | other
  deriving DecidableEq
structure TI where
  d : TD
  size : Nat
  bytes : Nat
  zero : A
  eqok : Bool
structure Tab where
  l : List TI
  /-- sums of ints: the exact sum, under the condition that it fits -/
  nowrap : Bool := true
  /-- what is made in these slots does not change any more -/
  frz : List Nat := []
  /-- the walk halts ahead of these regions -/
  stop : List Nat := []
def nth {α : Type} : List α → Nat → Option α
  | [], _ => none
  | x :: xs, n => bif Nat.beq n 0 then some x else nth xs (n - 1)
def Tab.d (T : Tab) (t : Nat) : TD := match nth T.l t with | some i => i.d | none => .other
def Tab.size (T : Tab) (t : Nat) : Nat := match nth T.l t with | some i => i.size | none => 0
def Tab.bytes (T : Tab) (t : Nat) : Nat := match nth T.l t with | some i => i.bytes | none => 0
def Tab.zero (T : Tab) (t : Nat) : A := match nth T.l t with | some i => i.zero | none => .any
def Tab.eqok (T : Tab) (t : Nat) : Bool := match nth T.l t with | some i => i.eqok | none => false

/-! ### states -/
def look {α : Type} : List (Nat × α) → Nat → Option α
  | [], _ => none
  | (k, v) :: l, n => bif Nat.beq k n then some v else look l n
def aConst : Value → Option A
  | .int k n => some (.int k n)
  | .bool b => some (.bool b)
  | .string s => some (.str s.data.toList)
  | .slice none 0 0 => some .nils
  | .pointer none => some .nilp
  | .map none => some .nilm
  | .nilFunc => some .nilf
  | .nilIface => some .nili
  | .func fn f c => bif f.toList.isEmpty && c.toList.isEmpty then some (.func fn [] []) else none
  | _ => none

def ev (τ : List (Nat × A)) : Operand → Option A
  | .tmp t => look τ t
  | .const v => aConst v
  | .func f => some (.func (.func f) [] [])
  | .global _ => none
def evs (τ : List (Nat × A)) : List Operand → Option (List A)
  | [] => some []
  | x :: xs => match ev τ x with
    | none => none
    | some a => match evs τ xs with
      | none => none
      | some l => some (a :: l)

/-! ### operations that call no Go function -/
structure Out where
  c : List Prop
  v : A
  /-- what becomes of owned objects -/
  w : List (Nat × Option Obj)
  /-- is one made, under the name handed in? -/
  al : Bool

def val (v : A) : Option Out := some ⟨[], v, [], false⟩

def inr (k : IntKind) (n : Int) : Prop := k.min ≤ n ∧ n ≤ k.max

def bitsI (op : BinOp) (k : IntKind) (x y : Int) : Int :=
  let a := BitVec.ofInt k.bits x
  let b := BitVec.ofInt k.bits y
  k.wrap (match op with | .and => (a &&& b).toNat | .or => (a ||| b).toNat | .xor => (a ^^^ b).toNat | _ => (a &&& ~~~b).toNat)
def shlI (k : IntKind) (x y : Int) : Int := k.wrap (x * 2 ^ (min y.toNat k.bits))
def shrI (k : IntKind) (x y : Int) : Int := x.fdiv (2 ^ (min y.toNat k.bits))

def arith (T : Tab) (k : IntKind) (n : Int) : Option Out :=
  match T.nowrap, k with
  | true, .i64 => some ⟨[inr .i64 n], .int .i64 n, [], false⟩
  | _, _ => val (.int k (k.wrap n))

def strLt : List UInt8 → List UInt8 → Bool := Op.bytesLess

mutual
/-- Are two data alike, part by part? -/
def aeq : A → A → Bool
  | .int _ a, .int _ b => decide (a = b)
  | .bool a, .bool b => a == b
  | .str a, .str b => decide (a = b)
  | .vec _ n g, .vec _ _ h => (List.range n).all fun i => aeq (g i) (h i)
  | .agg a, .agg b => aeqL a b
  | _, _ => false
def aeqL : List A → List A → Bool
  | x :: xs, y :: ys => aeq x y && aeqL xs ys
  | _, _ => true
end

def kIdx : IntKind → Nat
  | .i8 => 0 | .i16 => 1 | .i32 => 2 | .i64 => 3 | .u8 => 4 | .u16 => 5 | .u32 => 6 | .u64 => 7
def binInt (T : Tab) (op : BinOp) (k : IntKind) (a b : Int) : Option Out :=
  match op with
  | .add => arith T k (a + b)
  | .sub => arith T k (a - b)
  | .mul => arith T k (a * b)
  | .quo => (match T.nowrap with
    | true => some ⟨[0 ≤ a, 0 < b, inr k a], .int k (a / b), [], false⟩
    | false => some ⟨[b ≠ 0], .int k (k.wrap (a.tdiv b)), [], false⟩)
  | .rem => (match T.nowrap with
    | true => some ⟨[0 ≤ a, 0 < b], .int k (a % b), [], false⟩
    | false => some ⟨[b ≠ 0], .int k (a.tmod b), [], false⟩)
  | .and => val (.int k (bitsI .and k a b))
  | .or => val (.int k (bitsI .or k a b))
  | .xor => val (.int k (bitsI .xor k a b))
  | .andNot => val (.int k (bitsI .andNot k a b))
  | .eql => val (.bool (decide (a = b)))
  | .neq => val (.bool (!decide (a = b)))
  | .lss => val (.bool (decide (a < b)))
  | .leq => val (.bool (decide (a ≤ b)))
  | .gtr => val (.bool (decide (b < a)))
  | .geq => val (.bool (decide (b ≤ a)))
  | _ => none
def binStr (op : BinOp) (a b : List UInt8) : Option Out :=
  match op with
  | .add => some ⟨[a.length + b.length < 9223372036854775808], .str (a ++ b), [], false⟩
  | .eql => val (.bool (decide (a = b)))
  | .neq => val (.bool (!decide (a = b)))
  | .lss => val (.bool (strLt a b))
  | .leq => val (.bool (strLt a b || decide (a = b)))
  | .gtr => val (.bool (!(strLt a b || decide (a = b))))
  | .geq => val (.bool (!strLt a b))
  | _ => none
def binBool (op : BinOp) (a b : Bool) : Option Out :=
  match op with
  | .eql => val (.bool (a == b))
  | .neq => val (.bool (!(a == b)))
  | _ => none
def binOp (T : Tab) (op : BinOp) (t : Nat) (x y : A) : Option Out :=
  match x, y with
  | .int k a, .int k' b => (match op with
    | .shl => some ⟨[0 ≤ b], .int k (shlI k a b), [], false⟩
    | .shr => some ⟨[0 ≤ b], .int k (shrI k a b), [], false⟩
    | _ => bif Nat.beq (kIdx k) (kIdx k') then binInt T op k a b else none)
  | .str a, .str b => binStr op a b
  | .bool a, .bool b => (match T.d t with
    | .bool => binBool op a b
    | _ => none)
  | _, _ => none

/-! ### purity: no name of an owned object -/
mutual
/-- No name of an owned object in it. -/
def A.pureP : A → Prop
  | .own .. | .owl .. | .owk .. | .ptr .. | .vsl .. | .map _ => False
  | .vec _ n g => ∀ i, i < n → (g i).pureP
  | .agg ps => A.purePL ps
  | .iface _ x => x.pureP
  | .func _ f c => A.purePL f ∧ A.purePL c
  | .tup _ => False
  | .any => False
  | _ => True
def A.purePL : List A → Prop
  | [] => True
  | x :: xs => x.pureP ∧ A.purePL xs
end

mutual
/-- The elements of arrays have one size, and no names. -/
def A.wf : A → Prop
  | .vec sz n g => ∀ i, i < n → (g i).wf ∧ (g i).size = sz ∧ (g i).pureP
  | .agg ps => A.wfL ps
  | _ => True
def A.wfL : List A → Prop
  | [] => True
  | x :: xs => x.wf ∧ A.wfL xs
end

mutual
/-- It can be stored: nothing unknown in it, no tuple. -/
def A.sureP : A → Prop
  | .any => False
  | .tup _ => False
  | .agg ps => A.surePL ps
  | _ => True
def A.surePL : List A → Prop
  | [] => True
  | x :: xs => x.sureP ∧ A.surePL xs
end

def byte (b : UInt8) : A := .int .u8 b.toNat
def byteAt (l : List UInt8) (i : Nat) : A := byte (l.getD i 0)

/-- Of which owned objects a value's elements are. -/
def idOf : A → List Nat
  | .own _ id _ _ | .owl _ id _ _ | .owk _ id _ _ _ | .vsl _ id _ _ _ | .ptr id _ | .map id => [id]
  | _ => []

/-- The elements from o on. -/
def shiftF (o : Nat) (g : Nat → A) : Nat → A := match o with
  | 0 => g
  | o + 1 => fun i => g (o + 1 + i)
/-- The elements of a slice or a string: how many cells each, how many, which; under which conditions. -/
def elems : A → List Obj → Option (Nat × Nat × (Nat → A) × List Prop)
  | .ro sz n g, _ => some (sz, n, g, [])
  | .rol sz n g, _ => some (sz, n, g, [])
  | .str l, _ => some (1, l.length, byteAt l, [])
  | .own sz _ off n, .arr sz' m g :: _ => bif Nat.beq sz sz' then some (sz, n, shiftF off g, [off + n ≤ m]) else none
  | .owl sz _ off n, .arr sz' m g :: _ => bif Nat.beq sz sz' then some (sz, n, shiftF off g, [off + n ≤ m]) else none
  | .vsl sz _ path o n, .var x :: _ => match getP path x with
    | some (.vec sz' m g, c) => bif Nat.beq sz sz' then some (sz, n, shiftF o g, (o + n ≤ m) :: c) else none
    | _ => none
  | _, _ => none
def isNils : A → Bool
  | .nils => true
  | _ => false
def elems0 (x : A) (obs : List Obj) (sz : Nat) : Option (Nat × Nat × (Nat → A) × List Prop) :=
  match isNils x with
  | true => some (sz, 0, fun _ => .any, [])
  | false => elems x obs

def lenA : A → Option Nat
  | .nils => some 0
  | .ro _ n _ | .rol _ n _ | .own _ _ _ n | .owl _ _ _ n | .owk _ _ _ n _ | .vsl _ _ _ _ n => some n
  | .str l => some l.length
  | _ => none

def isInt (k : IntKind) (x : A) : Prop := ∃ n, x = .int k n
/-- The elements g, and behind n of them the elements h. -/
def catF (n : Nat) (g h : Nat → A) : Nat → A := match n with
  | 0 => h
  | n + 1 => fun i => bif Nat.blt i (n + 1) then g i else h (i - (n + 1))
def setF (g : Nat → A) (i : Nat) (x : A) : Nat → A := fun j => bif Nat.beq j i then x else g j
/-- The elements g, but m of them, from o on, are those of h. -/
def spliceF (g : Nat → A) (o m : Nat) (h : Nat → A) : Nat → A := fun i => bif Nat.ble o i && Nat.blt i (o + m) then h (i - o) else g i

/-- 'append(s, x...)' of elements of 'se' cells and 'be' bytes, nought being z; obs: the objects that s and x are slices of, s's first. -/
def appendV (se be : Nat) (z : A) (s x : A) (obs : List Obj) (nm : Nat) : Option Out :=
  match s with
  | .own sz id 0 n => (match obs with
    | .arr sz1 k g :: obs' => (match elems0 x obs' se with
      | some (sz', m, h, c) => bif Nat.beq sz se && (Nat.beq sz' se && (Nat.beq sz sz1 && Nat.blt 0 be)) then
          some ⟨((n + m) * be ≤ 17592186044416) :: z.sureP :: (n ≤ k) :: c, .own sz nm 0 (n + m), [(id, none), (nm, some (.arr sz (n + m) (catF n g h)))], true⟩ else none
      | none => none)
    | _ => none)
  | .nils => (match elems0 x obs se with
    | some (sz', m, h, c) => bif Nat.beq sz' se && Nat.blt 0 be then
        some ⟨(m * be ≤ 17592186044416) :: z.sureP :: c, .own sz' nm 0 m, [(nm, some (.arr sz' m h))], true⟩ else none
    | none => none)
  | .rol sz n g => (match elems0 x obs se with
    | some (sz', m, h, c) => bif Nat.beq sz se && (Nat.beq sz' se && Nat.blt 0 be) then
        some ⟨((n + m) * be ≤ 17592186044416) :: z.sureP :: (n = 0 ∨ 0 < m) :: c, .own sz nm 0 (n + m), [(nm, some (.arr sz (n + m) (catF n g h)))], true⟩ else none
    | none => none)
  | .owl sz _ off n => (match obs with
    | .arr sz1 k g :: obs' => (match elems0 x obs' se with
      | some (sz', m, h, c) => bif Nat.beq sz se && (Nat.beq sz' se && (Nat.beq sz sz1 && Nat.blt 0 be)) then
          some ⟨((n + m) * be ≤ 17592186044416) :: z.sureP :: (n = 0 ∨ 0 < m) :: (off + n ≤ k) :: c, .own sz nm 0 (n + m), [(nm, some (.arr sz (n + m) (catF n (shiftF off g) h)))], true⟩ else none
      | none => none)
    | _ => none)
  | _ => none

/-- 'copy(dst, src)': so many of the first elements. -/
def copyV (se : Nat) (dst src : A) (obs : List Obj) : Option Out :=
  match dst, obs with
  | .own sz id off n, .arr sz1 k g :: obs' => match elems0 src obs' sz with
    | some (sz', m, h, c) => bif Nat.beq sz sz' && (Nat.beq sz sz1 && Nat.beq sz se) then
        some ⟨(off + n ≤ k) :: c, .int .i64 ((min m n : Nat) : Int), [(id, some (.arr sz k (spliceF g off (min m n) h)))], false⟩ else none
    | none => none
  | .vsl sz id path o n, .var x :: obs' => match getP path x, elems0 src obs' sz with
    | some (.vec sz1 k g, c1), some (sz', m, h, c) => bif Nat.beq sz sz' && (Nat.beq sz sz1 && Nat.beq sz se) then
        some ⟨(0 < n) :: (o + n ≤ k) :: (c1 ++ c), .int .i64 ((min m n : Nat) : Int), [(id, some (.var (setP path x (.vec sz1 k (spliceF g o (min m n) h)))))], false⟩ else none
    | _, _ => none
  | _, _ => none

def loN : Option Int → Nat
  | some i => i.toNat
  | none => 0
def cLo : Option Int → Nat → List Prop
  | some i, h => [0 ≤ i, i ≤ h]
  | none, _ => []
def cHi : Option Int → Nat → List Prop
  | some i, h => [0 ≤ i, i ≤ h]
  | none, _ => []
def hiN : Option Int → Nat → Nat
  | some i, _ => i.toNat
  | none, n => n
def shiftO : Option Int → (Nat → A) → Nat → A
  | some i, g => shiftF i.toNat g
  | none, g => g
def dropO : Option Int → List UInt8 → List UInt8
  | some i, l => l.drop i.toNat
  | none, l => l
def takeO : Option Int → List UInt8 → List UInt8
  | some i, l => l.take i.toNat
  | none, l => l
def subO : Option Int → Nat → Nat
  | some i, n => n - i.toNat
  | none, n => n
/-- o + i; the bare i where o is nought. -/
def addI (o : Nat) (i : Int) : Nat := match o with
  | 0 => i.toNat
  | o + 1 => (o + 1) + i.toNat
def addO : Option Int → Nat → Nat
  | some i, n => addI n i
  | none, n => n

/-- 's[lo:hi:mx]' of elements of se cells. With mx the slice keeps no spare places: hi and mx must be one number. -/
def sliceV (se : Nat) (x : A) (lo hi mx : Option Int) : Option Out :=
  match mx with
  | none => match x with
    | .ro sz n g => bif Nat.beq sz se then some ⟨cHi hi n ++ cLo lo (hiN hi n), .ro sz (subO lo (hiN hi n)) (shiftO lo g), [], false⟩ else none
    | .rol sz n g => bif Nat.beq sz se then (match hi with
      | none => some ⟨cLo lo n, .rol sz (subO lo n) (shiftO lo g), [], false⟩
      | some h => some ⟨cHi (some h) n ++ cLo lo (hiN (some h) n), .ro sz (subO lo (hiN (some h) n)) (shiftO lo g), [], false⟩) else none
    | .own sz id off n => bif Nat.beq sz se then some ⟨cHi hi n ++ cLo lo (hiN hi n), .own sz id (addO lo off) (subO lo (hiN hi n)), [], false⟩ else none
    | .vsl sz id path o n => bif Nat.beq sz se then some ⟨cHi hi n ++ cLo lo (hiN hi n), .vsl sz id path (addO lo o) (subO lo (hiN hi n)), [], false⟩ else none
    | .nils => some ⟨cHi hi 0 ++ cLo lo (hiN hi 0), .nils, [], false⟩
    | _ => none
  | some m => match hi with
    | none => none
    | some h => match x with
      | .ro sz n g => bif Nat.beq sz se then some ⟨(m = h) :: (cHi (some h) n ++ cLo lo (hiN (some h) n)), .rol sz (subO lo (hiN (some h) n)) (shiftO lo g), [], false⟩ else none
      | .rol sz n g => bif Nat.beq sz se then some ⟨(m = h) :: (cHi (some h) n ++ cLo lo (hiN (some h) n)), .rol sz (subO lo (hiN (some h) n)) (shiftO lo g), [], false⟩ else none
      | .own sz id off n => bif Nat.beq sz se then some ⟨(m = h) :: (cHi (some h) n ++ cLo lo (hiN (some h) n)), .owl sz id (addO lo off) (subO lo (hiN (some h) n)), [], false⟩ else none
      | .nils => some ⟨(m = h) :: (cHi (some h) 0 ++ cLo lo (hiN (some h) 0)), .nils, [], false⟩
      | _ => none
def sliceStr (x : A) (lo hi mx : Option Int) : Option Out :=
  match mx with
  | none => (match x with
    | .str l => some ⟨cHi hi l.length ++ cLo lo (hiN hi l.length), .str (dropO lo (takeO hi l)), [], false⟩
    | _ => none)
  | some _ => none

/-- 'p[lo:hi]' of the address of an array of n elements of sz cells. -/
def sliceP (x : A) (obs : List Obj) (sz n : Nat) (lo hi : Option Int) : Option Out :=
  match x with
  | .ptr id path => (match obs with
    | .var y :: _ => (match getP path y with
      | some (.vec sz' n' _, c) => bif Nat.beq n n' && Nat.beq sz sz' then some ⟨cHi hi n ++ (cLo lo (hiN hi n) ++ c), .vsl sz id path (loN lo) (subO lo (hiN hi n)), [], false⟩ else none
      | _ => none)
    | _ => none)
  | .rop (.vec sz' n' g) => bif Nat.beq n n' && Nat.beq sz sz' then some ⟨cHi hi n ++ cLo lo (hiN hi n), .ro sz (subO lo (hiN hi n)) (shiftO lo g), [], false⟩ else none
  | _ => none

def intO : List A → Option (List Int)
  | [] => some []
  | .int _ n :: l => match intO l with
    | some r => some (n :: r)
    | none => none
  | _ => none
/-- Which of the bounds are there. -/
def bnd3 (lo hi mx : Option Operand) (l : List Int) : Option (Option Int × Option Int × Option Int) :=
  match lo, hi, mx, l with
  | none, none, none, [] => some (none, none, none)
  | some _, none, none, [a] => some (some a, none, none)
  | none, some _, none, [a] => some (none, some a, none)
  | some _, some _, none, [a, b] => some (some a, some b, none)
  | none, some _, some _, [a, b] => some (none, some a, some b)
  | some _, some _, some _, [a, b, c] => some (some a, some b, some c)
  | _, _, _, _ => none

/-- An element's address; elements of se cells; arr: so many, of an array. -/
def indexAddrV (se : Nat) (x : A) (i : Int) (arr : Option Nat) : Option Out :=
  match arr with
  | some n => (match x with
    | .ptr id path => some ⟨[0 ≤ i, i < n], .ptr id (path ++ [.idx i.toNat se]), [], false⟩
    | .rop (.vec sz n' g) => bif Nat.beq n n' && Nat.beq sz se then some ⟨[0 ≤ i, i < n], .rop (g i.toNat), [], false⟩ else none
    | _ => none)
  | none => (match x with
    | .ro sz n g => bif Nat.beq sz se then some ⟨[0 ≤ i, i < n], .rop (g i.toNat), [], false⟩ else none
    | .rol sz n g => bif Nat.beq sz se then some ⟨[0 ≤ i, i < n], .rop (g i.toNat), [], false⟩ else none
    | .own sz id off n => bif Nat.beq sz se then some ⟨[0 ≤ i, i < n], .ptr id [.idx (addI off i) sz], [], false⟩ else none
    | .owl sz id off n => bif Nat.beq sz se then some ⟨[0 ≤ i, i < n], .ptr id [.idx (addI off i) sz], [], false⟩ else none
    | .vsl sz id path o n => bif Nat.beq sz se then some ⟨[0 ≤ i, i < n], .ptr id (path ++ [.idx (addI o i) sz]), [], false⟩ else none
    | _ => none)

/-- What an address leads to: a part of an object. -/
def loadO (ob : Obj) (path : List Step) (m : Nat) : Option (A × List Prop) :=
  match ob with
  | .var x => bif Nat.beq (lastSz path x.size) m then getP path x else none
  | .arr sz n g => match path with
    | .idx e sz' :: p => bif Nat.beq sz sz' && Nat.beq (lastSz p sz) m then (match getP p (g e) with
      | some (y, c) => some (y, (e < n) :: c)
      | none => none) else none
    | _ => none
  | _ => none
def storeO (ob : Obj) (path : List Step) (m : Nat) (y : A) : Option (Obj × List Prop) :=
  match ob with
  | .var x => bif Nat.beq (lastSz path x.size) m then (match getP path x with
    | some (_, c) => some (.var (setP path x y), (y.size = m) :: (bif hasIdx path then y.pureP else y.sureP) :: c)
    | none => none) else none
  | .arr sz n g => match path with
    | .idx e sz' :: p => bif Nat.beq sz sz' && Nat.beq (lastSz p sz) m then (match getP p (g e) with
      | some (_, c) => some (.arr sz n (setF g e (setP p (g e) y)), (y.size = m) :: y.pureP :: (e < n) :: c)
      | none => none) else none
    | _ => none
  | _ => none

def listF (z : A) (l : List A) : Nat → A := fun i => l.getD i z
/-- Composite literals: parts in their places. -/
def setNth : List A → Nat → A → List A
  | [], _, _ => []
  | x :: xs, n, y => bif Nat.beq n 0 then y :: xs else x :: setNth xs (n - 1) y
def fillL (l : List A) : List (Nat × A) → List A
  | [] => l
  | (i, y) :: r => fillL (setNth l i y) r
def sizesOk (l : List A) : List (Nat × A) → Bool
  | [] => true
  | (i, y) :: r => (match nth l i with | some x => Nat.beq x.size y.size | none => false) && sizesOk l r
def repl (z : A) : Nat → List A
  | 0 => []
  | n + 1 => z :: repl z n

/-- The values of g from k on, so many. -/
def lstF (g : Nat → A) : Nat → Nat → List A
  | _, 0 => []
  | k, c + 1 => g k :: lstF g (k + 1) c
def zipParts : List (Nat × Operand) → List A → List (Nat × A)
  | (i, _) :: ps, x :: xs => (i, x) :: zipParts ps xs
  | _, _ => []

/-- The operands that an operation looks at, in order. -/
def opnds : Op → List Operand
  | .move x | .assign x | .box _ x | .load _ x | .nilCheck x | .unOp _ _ x | .convert _ _ x | .makeInterface _ x
  | .fieldAddr _ x _ | .field _ x _ | .extract x _ | .typeAssert x _ _ _ | .range _ x | .next x _ => [x]
  | .pick c a b => [c, a, b]
  | .build _ ps | .buildSlice _ _ ps => ps.toList.map (·.2)
  | .store _ a v | .binOp _ _ a v _ | .makeSlice _ a v | .indexAddr _ a v | .index _ a v | .lookup _ a v _ | .mapEntry _ a v => [a, v]
  | .makeFunc _ first captured => first.toList ++ captured.toList
  | .slice _ x l h m => x :: (l.toList ++ h.toList ++ m.toList)
  | .mapUpdate _ m k v | .entryStore _ m k v => [m, k, v]
  | .call c => (match c.callee with | .value f => [f] | .invoke r _ => [r] | .builtin _ => []) ++ c.args.toList
  | _ => []

/-- A datum of a type is an aggregate just if the type is one. -/
def aggD : TD → Bool
  | .struct _ => true
  | .array .. => true
  | _ => false
def knownD : TD → Bool
  | .other => false
  | _ => true
def eqlNil (op : BinOp) (b : Bool) : Option Out :=
  match op with
  | .eql => val (.bool b)
  | .neq => val (.bool !b)
  | _ => none
def eqFsW (f : Nat → A → A → Option (Bool × List Prop)) (T : Tab) : List (Nat × Nat) → List A → List A → Option (Bool × List Prop)
  | [], _, _ => some (true, [])
  | (off, ft) :: fs, ps, qs => match partL ps off with
    | none => none
    | some a => match partL qs off with
      | none => none
      | some b => match nth T.l ft with
        | none => none
        | some ⟨d, sz, _, _, _⟩ => bif Nat.beq a.size sz && Nat.beq b.size sz then (match f ft a b with
          | none => none
          | some (r1, c1) => match eqFsW f T fs ps qs with
            | none => none
            | some (r2, c2) => some (r1 && r2, (isAgg a = aggD d) :: (isAgg b = aggD d) :: (c1 ++ c2))) else none
/-- Equality of data of a type: what it comes to, under which conditions. -/
def eqA (T : Tab) : Nat → Nat → A → A → Option (Bool × List Prop)
  | 0, _, _, _ => none
  | n + 1, t, x, y => match T.d t with
    | .int k => (match x, y with
      | .int k1 a, .int k2 b => bif Nat.beq (kIdx k1) (kIdx k2) then some (decide (a = b), []) else none
      | _, _ => none)
    | .bool => (match x, y with
      | .bool a, .bool b => some (a == b, [])
      | _, _ => none)
    | .string => (match x, y with
      | .str a, .str b => some (decide (a = b), [])
      | _, _ => none)
    | .array m e => (match x, y with
      | .vec s1 m1 g, .vec s2 m2 h => (match nth T.l e with
        | some ⟨.int k, se, _, _, _⟩ => bif Nat.beq se 1 && (Nat.beq s1 1 && (Nat.beq s2 1 && (Nat.beq m m1 && Nat.beq m m2))) then some ((List.range m).all fun i => aeq (g i) (h i), [∀ i, i < m → isInt k (g i) ∧ isInt k (h i)]) else none
        | _ => none)
      | _, _ => none)
    | .struct fs => (match x, y with
      | .agg ps, .agg qs => (match n with
        | 0 => (match fs with
          | [] => some (true, [])
          | _ :: _ => none)
        | k + 1 => eqFsW (eqA T k) T fs ps qs)
      | _, _ => none)
    | _ => none
def eqFs (T : Tab) (n : Nat) (fs : List (Nat × Nat)) (ps qs : List A) : Option (Bool × List Prop) := match n with
  | 0 => (match fs with
    | [] => some (true, [])
    | _ :: _ => none)
  | k + 1 => eqFsW (eqA T k) T fs ps qs
def eqRes (op : BinOp) : Option (Bool × List Prop) → Option Out
  | some (b, c) => (match op with
    | .eql => some ⟨c, .bool b, [], false⟩
    | .neq => some ⟨c, .bool !b, [], false⟩
    | _ => none)
  | none => none
def eqV (T : Tab) (op : BinOp) (t : Nat) (x y : A) : Option Out :=
  match x with
  | .agg _ => bif T.eqok t then eqRes op (eqA T 8 t x y) else none
  | .vec .. => bif T.eqok t then eqRes op (eqA T 8 t x y) else none
  | .nilp => (match T.d t with
    | .pointer _ => (match y with
      | .nilp => eqlNil op true
      | .ptr .. => eqlNil op false
      | .rop _ => eqlNil op false
      | _ => none)
    | _ => none)
  | .ptr .. => (match T.d t with
    | .pointer _ => (match y with
      | .nilp => eqlNil op false
      | _ => none)
    | _ => none)
  | .rop _ => (match T.d t with
    | .pointer _ => (match y with
      | .nilp => eqlNil op false
      | _ => none)
    | _ => none)
  | .nils => (match T.d t with
    | .slice _ => (match y with
      | .nils => eqlNil op true
      | _ => none)
    | _ => none)
  | .nilf => (match T.d t with
    | .func => (match y with
      | .nilf => eqlNil op true
      | .func .. => eqlNil op false
      | _ => none)
    | _ => none)
  | .func .. => (match T.d t with
    | .func => (match y with
      | .nilf => eqlNil op false
      | _ => none)
    | _ => none)
  | _ => none

def primBuiltin (T : Tab) (b : Builtin) (ts : List Nat) (vs : List A) (obs : List Obj) (nm : Nat) : Option Out :=
  match b, ts, vs with
  | .len, [t], [x] => match T.d t with
    | .array n _ => val (.int .i64 n)
    | .slice _ => (match x with
      | .str _ => none
      | _ => (match lenA x with
        | some n => val (.int .i64 n)
        | none => none))
    | .string => (match x with
      | .str l => val (.int .i64 l.length)
      | _ => none)
    | _ => none
  | .append, [t, xt], [s, x] => match T.d t with
    | .slice e => (match nth T.l e with
      | some ⟨_, se, be, z, _⟩ => (match T.d xt with
        | .slice _ => appendV se be z s x obs nm
        | .string => (match x with
          | .str _ => appendV se be z s x obs nm
          | _ => none)
        | _ => none)
      | none => none)
    | _ => none
  | .copy, [t, xt], [s, x] => match T.d t with
    | .slice e => (match nth T.l e with
      | some ⟨_, se, _, _, _⟩ => copyV se s x obs
      | none => none)
    | _ => none
  | .max, _, [.int k a, .int _ b] => val (.int k (if a < b then b else a))
  | .min, _, [.int k a, .int _ b] => val (.int k (if b < a then b else a))
  | _, _, _ => none

def pMove : List A → Option Out
  | [x] => val x
  | _ => none
def pPick : List A → Option Out
  | [.bool c, x, y] => (match x, y with
    | .bool p, .bool q => val (.bool (bif c then p else q))
    | _, _ => val (bif c then x else y))
  | _ => none
def pAlloc (T : Tab) (t : Nat) (nm : Nat) : Option Out :=
  match nth T.l t with
  | some ⟨_, _, _, z, _⟩ => some ⟨[z.sureP], .ptr nm [], [(nm, some (.var z))], true⟩
  | none => none
def pBox (T : Tab) (t : Nat) (nm : Nat) : List A → Option Out
  | [x] => (match nth T.l t with
    | some ⟨_, sz, _, _, _⟩ => some ⟨[x.size = sz, x.sureP], .ptr nm [], [(nm, some (.var x))], true⟩
    | none => none)
  | _ => none
def pBuild (T : Tab) (t : Nat) (ps : List (Nat × Operand)) (vs : List A) : Option Out :=
  match T.d t with
  | .struct _ => (match nth T.l t with
    | some ⟨_, _, _, z, _⟩ => (match z with
      | .agg zs => bif sizesOk zs (zipParts ps vs) then some ⟨[A.surePL vs, A.surePL zs], .agg (fillL zs (zipParts ps vs)), [], false⟩ else none
      | _ => none)
    | none => none)
  | .array n e => (match nth T.l t with
    | some ⟨_, _, _, z, _⟩ => (match z with
      | .vec sz n' g => (match nth T.l e with
        | some ⟨_, se, _, _, _⟩ => bif sizesOk (lstF g 0 n') (zipParts ps vs) && (Nat.beq n n' && Nat.beq sz se) then
            some ⟨[A.purePL vs, (A.vec sz n' g).sureP], .vec sz n' (listF .any (fillL (lstF g 0 n') (zipParts ps vs))), [], false⟩ else none
        | none => none)
      | _ => none)
    | none => none)
  | _ => none
def pBuildSlice (T : Tab) (t n : Nat) (ps : List (Nat × Operand)) (nm : Nat) (vs : List A) : Option Out :=
  match T.d t with
  | .slice e => (match nth T.l e with
    | some ⟨_, se, _, z, _⟩ => bif sizesOk (repl z n) (zipParts ps vs) && Nat.ble (n * se) 4096 then
        some ⟨[A.purePL vs, z.sureP], .own se nm 0 n, [(nm, some (.arr se n (listF z (fillL (repl z n) (zipParts ps vs)))))], true⟩ else none
    | none => none)
  | _ => none
def pLoad (T : Tab) (t : Nat) (obs : List Obj) : List A → Option Out
  | [x] => (match nth T.l t with
    | some ⟨d, sz, _, _, _⟩ => bif knownD d then (match x with
      | .rop y => some ⟨[y.size = sz, isAgg y = aggD d], y, [], false⟩
      | .ptr _ path => (match obs with
        | [ob] => (match loadO ob path sz with
          | some (y, c) => some ⟨(isAgg y = aggD d) :: c, y, [], false⟩
          | none => none)
        | _ => none)
      | _ => none) else none
    | none => none)
  | _ => none
def pStore (T : Tab) (t : Nat) (obs : List Obj) : List A → Option Out
  | [.ptr id path, y] => (match obs with
    | ob :: _ => (match nth T.l t with
      | some ⟨_, sz, _, _, _⟩ => (match storeO ob path sz y with
        | some (ob', c) => some ⟨c, .any, [(id, some ob')], false⟩
        | none => none)
      | none => none)
    | _ => none)
  | _ => none
def pNilCheck : List A → Option Out
  | [x] => (match x with
    | .ptr .. | .rop _ => val x
    | _ => none)
  | _ => none
def pBinOp (T : Tab) (op : BinOp) (t : Nat) : List A → Option Out
  | [x, y] => (match binOp T op t x y with
    | some o => some o
    | none => eqV T op t x y)
  | _ => none
def pUnOp (T : Tab) (op : UnOp) : List A → Option Out
  | [.int k n] => (match op with
    | .neg => arith T k (0 - n)
    | .xor => val (.int k (bitsI .xor k (if k.signed then -1 else k.max) n))
    | _ => none)
  | [.bool b] => (match op with
    | .not => val (.bool !b)
    | _ => none)
  | _ => none
def byteOf : A → UInt8
  | .int _ n => UInt8.ofNat n.toNat
  | _ => 0
def bytesOf (n : Nat) (g : Nat → A) : List UInt8 := (List.range n).map fun i => byteOf (g i)
def pConvert (T : Tab) (s d : Nat) (nm : Nat) (obs : List Obj) : List A → Option Out
  | [x] => (match T.d s with
    | .other => none
    | .slice e => (match T.d d with
      | .slice _ => bif Nat.beq s d then (match T.d e with
        | .int .u8 => (match x, obs with
          | .own sz id 0 n, .arr sz' m g :: _ => bif Nat.beq sz 1 && Nat.beq sz' 1 then some ⟨[0 < n, n ≤ m], .own 1 nm 0 n, [(id, none), (nm, some (.arr 1 m g))], true⟩ else none
          | _, _ => none)
        | _ => none) else none
      | .string => (match T.d e with
        | .int .u8 => (match x with
          | .str _ => none
          | _ => (match elems0 x obs 1 with
            | some (sz, n, g, c) => bif Nat.beq sz 1 then some ⟨(∀ i, i < n → isInt .u8 (g i)) :: c, .str (bytesOf n g), [], false⟩ else none
            | none => none))
        | _ => none)
      | _ => none)
    | _ => (match x with
      | .int k0 n => (match T.d d with
        | .int k => (match k0, k with
          | .i64, .i64 => some ⟨[inr .i64 n], .int .i64 n, [], false⟩
          | _, _ => val (.int k (k.wrap n)))
        | _ => none)
      | .str l => (match T.d d with
        | .string => val (.str l)
        | .slice e => (match T.d e with
          | .int .u8 => some ⟨[l.length ≤ 17592186044416], .own 1 nm 0 l.length, [(nm, some (.arr 1 l.length (byteAt l)))], true⟩
          | _ => none)
        | _ => none)
      | _ => none))
  | _ => none
def pMakeInterface (T : Tab) (t : Nat) : List A → Option Out
  | [x] => (match T.d t with
    | .iface => none
    | .other => none
    | _ => val (.iface t x))
  | _ => none
def pMakeSlice (T : Tab) (t : Nat) (nm : Nat) : List A → Option Out
  | [.int _ l, .int _ c] => (match T.d t with
    | .slice e => (match nth T.l e with
      | some ⟨_, se, be, z, _⟩ => some ⟨[0 ≤ l, l ≤ c, c * (be : Int) ≤ 17592186044416, c < 4611686018427387904, z.sureP], .own se nm 0 l.toNat, [(nm, some (.arr se l.toNat fun _ => z))], true⟩
      | none => none)
    | _ => none)
  | _ => none
def pSlice (T : Tab) (t : Nat) (lo hi mx : Option Operand) (obs : List Obj) : List A → Option Out
  | x :: bs => (match intO bs with
    | some l => (match bnd3 lo hi mx l with
      | some (lo, hi, mx) => (match T.d t with
        | .string => sliceStr x lo hi mx
        | .slice e => (match nth T.l e with
          | some ⟨_, se, _, _, _⟩ => sliceV se x lo hi mx
          | none => none)
        | .array n e => (match mx with
          | none => (match nth T.l e with
            | some ⟨_, se, _, _, _⟩ => sliceP x obs se n lo hi
            | none => none)
          | some _ => none)
        | _ => none)
      | none => none)
    | none => none)
  | _ => none
def pFieldAddr (T : Tab) (t f : Nat) : List A → Option Out
  | [x] => (match T.d t with
    | .struct fs => (match nth fs f with
      | some (off, ft) => (match nth T.l ft with
        | some ⟨_, sz, _, _, _⟩ => bif Nat.blt 0 sz then (match x with
          | .ptr id path => val (.ptr id (path ++ [.fld off sz]))
          | .rop (.agg ps) => (match partL ps off with
            | some y => bif Nat.beq y.size sz then val (.rop y) else none
            | none => none)
          | _ => none) else none
        | none => none)
      | none => none)
    | _ => none)
  | _ => none
def pField (T : Tab) (t f : Nat) : List A → Option Out
  | [.agg ps] => (match T.d t with
    | .struct fs => (match nth fs f with
      | some (off, ft) => (match nth T.l ft with
        | some ⟨d, sz, _, _, _⟩ => (match partL ps off with
          | some y => bif Nat.beq y.size sz && knownD d then some ⟨[isAgg y = aggD d], y, [], false⟩ else none
          | none => none)
        | none => none)
      | none => none)
    | _ => none)
  | _ => none
/-- Arrays whose nought is told part by part are held part by part (their elements may own something). -/
def isAggZ : A → Bool
  | .agg _ => true
  | _ => false
def pIndexAddr (T : Tab) (t : Nat) : List A → Option Out
  | [x, .int _ i] => (match T.d t with
    | .array n e => (match nth T.l e with
      | some ⟨_, se, _, _, _⟩ => (match isAggZ (T.zero t) with
        | true => (match x with
          | .ptr id path => some ⟨[0 ≤ i, i < n], .ptr id (path ++ [.fld (i.toNat * se) se]), [], false⟩
          | _ => none)
        | false => indexAddrV se x i (some n))
      | none => none)
    | .slice e => (match nth T.l e with
      | some ⟨_, se, _, _, _⟩ => indexAddrV se x i none
      | none => none)
    | _ => none)
  | _ => none
def pIndex (T : Tab) (t : Nat) : List A → Option Out
  | [x, .int _ i] => (match T.d t with
    | .string => (match x with
      | .str l => some ⟨[0 ≤ i, i < l.length], byteAt l i.toNat, [], false⟩
      | _ => none)
    | .array n e => (match x with
      | .vec sz n' g => (match nth T.l e with
        | some ⟨d, se, _, _, _⟩ => bif Nat.beq n n' && (Nat.beq sz se && knownD d) then some ⟨[0 ≤ i, i < n, isAgg (g i.toNat) = aggD d], g i.toNat, [], false⟩ else none
        | none => none)
      | _ => none)
    | _ => none)
  | _ => none
def pExtract (i : Nat) : List A → Option Out
  | [.tup l] => (match nth l i with
    | some y => val y
    | none => none)
  | _ => none
def pTypeAssert (T : Tab) (t : Nat) (ok : Bool) : List A → Option Out
  | [.iface t' x] => (match T.d t with
    | .iface => none
    | .other => none
    | _ => bif Nat.beq t t' then (match ok with
      | true => val (.tup [x, .bool true])
      | false => val x) else none)
  | _ => none
def pCall (T : Tab) (c : Call) (obs : List Obj) (nm : Nat) (vs : List A) : Option Out :=
  match c.callee with
  | .builtin b => primBuiltin T b c.argTypes.toList vs obs nm
  | _ => none

/-- One operation: what it gives. 'obs': the objects of 'idOf' of each operand, in order. -/
def prim (T : Tab) (op : Op) (vs : List A) (obs : List Obj) (nm : Nat) : Option Out :=
  match op with
  | .move _ => pMove vs
  | .assign _ => pMove vs
  | .pick .. => pPick vs
  | .alloc t => pAlloc T t nm
  | .box t _ => pBox T t nm vs
  | .build t ps => pBuild T t ps.toList vs
  | .buildSlice t n ps => pBuildSlice T t n ps.toList nm vs
  | .load t _ => pLoad T t obs vs
  | .store t _ _ => pStore T t obs vs
  | .nilCheck _ => pNilCheck vs
  | .binOp op t _ _ _ => pBinOp T op t vs
  | .unOp op _ _ => pUnOp T op vs
  | .convert s d _ => pConvert T s d nm obs vs
  | .makeInterface t _ => pMakeInterface T t vs
  | .makeFunc fn first _ => val (.func fn (vs.take first.size) (vs.drop first.size))
  | .makeSlice t _ _ => pMakeSlice T t nm vs
  | .slice t _ lo hi mx => pSlice T t lo hi mx obs vs
  | .fieldAddr t _ f => pFieldAddr T t f vs
  | .field t _ f => pField T t f vs
  | .indexAddr t _ _ => pIndexAddr T t vs
  | .index t _ _ => pIndex T t vs
  | .extract _ i => pExtract i vs
  | .typeAssert _ _ t ok => pTypeAssert T t ok vs
  | .call c => pCall T c obs nm vs
  | _ => none

def looks (r : List (Nat × Option Obj)) : List Nat → Option (List Obj)
  | [] => some []
  | n :: l => match look r n with
    | some (some ob) => match looks r l with
      | none => none
      | some obs => some (ob :: obs)
    | _ => none
def idsOf : List A → List Nat
  | [] => []
  | x :: xs => idOf x ++ idsOf xs
def hasN : List Nat → Nat → Bool
  | [], _ => false
  | x :: xs, n => bif Nat.beq x n then true else hasN xs n

/-- Is the name taken? (Those from 1000 on are kept for what was handed over.) -/
def usedN (us : List Nat) (n : Nat) : Bool := bif Nat.ble 1000 n then true else hasN us n

/-- The name of what an operation makes: its destination (0 if it has none). -/
def nameOf : Option Tmp → Nat
  | some t => t
  | none => 0
/-- A new slice that does not change any more. -/
def frzO (b : Bool) (o : Out) : Out :=
  match b with
  | false => o
  | true => match o with
    | ⟨c, .own sz nm 0 n, [(nm', some (.arr sz' m g))], true⟩ => bif Nat.beq nm nm' && Nat.beq sz sz' then ⟨(n ≤ m) :: c, .ro sz n g, [(nm', none)], true⟩ else o
    | ⟨c, .own sz nm 0 n, [x, (nm', some (.arr sz' m g))], true⟩ => bif Nat.beq nm nm' && Nat.beq sz sz' then ⟨(n ≤ m) :: c, .ro sz n g, [x, (nm', none)], true⟩ else o
    | o => o
def primF (T : Tab) (op : Op) (vs : List A) (obs : List Obj) (d : Nat) : Option Out :=
  match prim T op vs obs d with
  | some out => some (frzO (hasN T.frz d) out)
  | none => none
/-- One operation of a region: what it gives. -/
def step1 (T : Tab) (o : Oper) (τ : List (Nat × A)) (r : List (Nat × Option Obj)) : Option Out :=
  match evs τ (opnds o.op) with
  | none => none
  | some vs => match looks r (idsOf vs) with
    | none => none
    | some obs => primF T o.op vs obs (nameOf o.dst)

/-- Where a walk stands: the conditions met, which guards are known (an operation of the region, its slot, what it gave), what is still to do, the state. -/
structure Res where
  c : List Prop
  g : List (Nat × Nat × Bool)
  k : List Item
  τ : List (Nat × A)
  r : List (Nat × Option Obj)
  us : List Nat

def gAt : List (Nat × Nat × Bool) → Nat → Option Bool
  | [], _ => none
  | (i, _, b) :: l, j => bif Nat.beq i j then some b else gAt l j
/-- Is the operation to be done? -/
def guardOf (o : Oper) (g : List (Nat × Nat × Bool)) : Option Bool :=
  match o.guard with
  | none => some true
  | some (j, want) => match gAt g j with
    | none => none
    | some b => some (match b, want with
      | true, true => true
      | false, false => true
      | _, _ => false)
/-- Does its guard hang on what was passed by? -/
def undefG (ops : Array Oper) (o : Oper) (τ : List (Nat × A)) : Bool :=
  match o.guard with
  | none => false
  | some (j, _) => match ops.toList[j]? with
    | some o' => (match o'.dst with
      | some t => (match look τ t with
        | some (.tup []) => true
        | _ => false)
      | none => false)
    | none => false
def offG (d : Nat) : List (Nat × Nat × Bool) → Bool
  | [] => true
  | (_, t, _) :: l => bif Nat.beq t d then false else offG d l
/-- May that slot be written? -/
def dstOk (nt : Nat) (g : List (Nat × Nat × Bool)) : Option Tmp → Bool
  | some d => bif Nat.blt d nt then offG d g else false
  | none => true

/-- So far as no call of a Go function, no test, no loop comes. nt: so many slots. -/
def run (T : Tab) (nt : Nat) : Nat → List (Nat × Nat × Bool) → List Item → List (Nat × A) → List (Nat × Option Obj) → List Nat → List Prop → Res
  | 0, g, k, τ, r, us, c => ⟨c, g, k, τ, r, us⟩
  | n + 1, g, k, τ, r, us, c =>
    match k with
    | .code x :: k' => match x with
      | .skip => run T nt n [] k' τ r us c
      | .label _ => run T nt n [] k' τ r us c
      | .seq a b => run T nt n [] (.code a :: .code b :: k') τ r us c
      | .block id b => run T nt n [] (.code b :: .inBlock id :: k') τ r us c
      | .scope b => run T nt n [] (.code b :: .inScope b :: k') τ r us c
      | .exit id => (match exitTo id k' with
        | some k'' => run T nt n [] k'' τ r us c
        | none => ⟨c, g, k, τ, r, us⟩)
      | .region id ops d => (match bif hasN T.stop id then true else d with
        | false => run T nt n [] (.inRegion ops (List.range ops.size) :: k') τ r us c
        | true => ⟨c, g, k, τ, r, us⟩)
      | _ => ⟨c, g, k, τ, r, us⟩
    | .inBlock _ :: k' => run T nt n [] k' τ r us c
    | .inScope _ :: k' => run T nt n [] k' τ r us c
    | .inRegion ops l :: k' => (match l with
      | [] => run T nt n [] k' τ r us c
      | i :: l' => (match ops.toList[i]? with
        | some o => (match dstOk nt g o.dst with
          | true => (match guardOf o g with
            | some true => (match step1 T o τ r with
              | some ⟨c', v, w, al⟩ => (match o.dst with
                | none => (match al, w with
                  | false, [] => run T nt n g (.inRegion ops l' :: k') τ r us (c' ++ c)
                  | false, [x] => run T nt n g (.inRegion ops l' :: k') τ (x :: r) us (c' ++ c)
                  | _, _ => ⟨c, g, k, τ, r, us⟩)
                | some d => (match al, w with
                  | false, [] => run T nt n g (.inRegion ops l' :: k') ((d, v) :: τ) r us (c' ++ c)
                  | false, [x] => run T nt n g (.inRegion ops l' :: k') ((d, v) :: τ) (x :: r) us (c' ++ c)
                  | true, [x] => (match usedN us d with
                    | false => run T nt n g (.inRegion ops l' :: k') ((d, v) :: τ) (x :: r) (d :: us) (c' ++ c)
                    | true => ⟨c, g, k, τ, r, us⟩)
                  | true, [x, y] => (match usedN us d with
                    | false => run T nt n g (.inRegion ops l' :: k') ((d, v) :: τ) (y :: x :: r) (d :: us) (c' ++ c)
                    | true => ⟨c, g, k, τ, r, us⟩)
                  | _, _ => ⟨c, g, k, τ, r, us⟩))
              | none => ⟨c, g, k, τ, r, us⟩)
            | some false => (match o.dst with
              | none => run T nt n g (.inRegion ops l' :: k') τ r us c
              | some d => run T nt n g (.inRegion ops l' :: k') ((d, .tup []) :: τ) r us c)
            | none => (match undefG ops o τ with
              | true => (match o.dst with
                | none => run T nt n g (.inRegion ops l' :: k') τ r us c
                | some d => run T nt n g (.inRegion ops l' :: k') ((d, .tup []) :: τ) r us c)
              | false => ⟨c, g, k, τ, r, us⟩))
          | false => ⟨c, g, k, τ, r, us⟩)
        | none => ⟨c, g, k, τ, r, us⟩))
    | _ => ⟨c, g, k, τ, r, us⟩

/-- A way to go on: the guards known, what is to do, the slots. -/
structure Way where
  g : List (Nat × Nat × Bool)
  k : List Item
  τ : List (Nat × A)
/-- Where it parts: the test, the way if it holds, the way if not. -/
def branch (g : List (Nat × Nat × Bool)) (τ : List (Nat × A)) (k : List Item) : Option (Bool × Way × Way) :=
  match k with
  | .code (.cond c x y) :: k' => match ev τ c with
    | some (.bool b) => some (b, ⟨[], .code x :: k', τ⟩, ⟨[], .code y :: k', τ⟩)
    | _ => none
  | .inRegion ops (i :: _) :: _ => match ops.toList[i]? with
    | some o => (match o.guard with
      | some (j, _) => (match ops.toList[j]? with
        | some o' => (match o'.dst with
          | some t => (match look τ t with
            | some (.bool b) => (match gAt g j with
              | none => some (b, ⟨(j, t, true) :: g, k, (t, .bool true) :: τ⟩, ⟨(j, t, false) :: g, k, (t, .bool false) :: τ⟩)
              | some _ => none)
            | _ => none)
          | none => none)
        | none => none)
      | none => none)
    | none => none
  | _ => none

def allP : List Prop → Prop
  | [] => True
  | p :: l => p ∧ allP l

end VX

/- VX 2: what abstract values and objects mean in a world; the general laws of that. -/
namespace VX
open Go

/-- What never changes: cells and what they hold. -/
abbrev Imm := Nat → Nat → Option Value
/-- Where a name's object lies: a block, of so many cells; nowhere (an array of nothing). -/
inductive Loc where
  | blk (b N : Nat)
  | nil
abbrev Ren := Nat → Option Loc
def nr : Ren := fun _ => none

mutual
inductive R (I : Imm) : Ren → A → Value → Prop
  | int {ρ : Ren} {k : IntKind} {n : Int} : R I ρ (.int k n) (.int k n)
  | bool {ρ : Ren} {b : Bool} : R I ρ (.bool b) (.bool b)
  | str {ρ : Ren} {l : List UInt8} : R I ρ (.str l) (.string ⟨l.toArray⟩)
  | agg {ρ : Ren} {x : A} {vs : List Value} : isAgg x = true → x.wf → RL I ρ x.cells vs → R I ρ x (.agg vs.toArray)
  | ro {ρ : Ren} {sz n : Nat} {g : Nat → A} {b o c : Nat} : n ≤ c → (∀ i, i < n → (g i).wf ∧ (g i).size = sz ∧ (g i).pureP) → (∀ i, i < n → RA I nr (g i).cells b (o + i * sz)) →
      R I ρ (.ro sz n g) (.slice (some ⟨b, o, none⟩) n c)
  | ro0 {ρ : Ren} {sz : Nat} {g : Nat → A} {a : Option Addr} {c : Nat} : R I ρ (.ro sz 0 g) (.slice a 0 c)
  | rol {ρ : Ren} {sz n : Nat} {g : Nat → A} {b o : Nat} : (∀ i, i < n → (g i).wf ∧ (g i).size = sz ∧ (g i).pureP) → (∀ i, i < n → RA I nr (g i).cells b (o + i * sz)) →
      R I ρ (.rol sz n g) (.slice (some ⟨b, o, none⟩) n n)
  | rol0 {ρ : Ren} {sz : Nat} {g : Nat → A} {a : Option Addr} : R I ρ (.rol sz 0 g) (.slice a 0 0)
  | own {ρ : Ren} {sz id off n b N c : Nat} : ρ id = some (.blk b N) → n ≤ c → (off + c) * sz ≤ N → R I ρ (.own sz id off n) (.slice (some ⟨b, off * sz, none⟩) n c)
  | own0 {ρ : Ren} {sz id off : Nat} {a : Option Addr} : R I ρ (.own sz id off 0) (.slice a 0 0)
  | owl {ρ : Ren} {sz id off n b N : Nat} : ρ id = some (.blk b N) → (off + n) * sz ≤ N → R I ρ (.owl sz id off n) (.slice (some ⟨b, off * sz, none⟩) n n)
  | owl0 {ρ : Ren} {sz id off : Nat} {a : Option Addr} : R I ρ (.owl sz id off 0) (.slice a 0 0)
  | owk {ρ : Ren} {sz id off n K b N c : Nat} : ρ id = some (.blk b N) → n ≤ K → K ≤ c → (off + c) * sz ≤ N → R I ρ (.owk sz id off n K) (.slice (some ⟨b, off * sz, none⟩) n c)
  | owk0 {ρ : Ren} {sz id off : Nat} {a : Option Addr} : R I ρ (.owk sz id off 0 0) (.slice a 0 0)
  | vsl {ρ : Ren} {sz id : Nat} {path : List Step} {i n b N c : Nat} : ρ id = some (.blk b N) → n ≤ c → addr path + (i + c) * sz ≤ N →
      R I ρ (.vsl sz id path i n) (.slice (some ⟨b, addr path + i * sz, none⟩) n c)
  | vsl0 {ρ : Ren} {sz id : Nat} {path : List Step} {i : Nat} {a : Option Addr} : R I ρ (.vsl sz id path i 0) (.slice a 0 0)
  | ptr {ρ : Ren} {id : Nat} {path : List Step} {b N : Nat} : ρ id = some (.blk b N) → R I ρ (.ptr id path) (.pointer (some ⟨b, addr path, none⟩))
  | rop {ρ : Ren} {x : A} {b o : Nat} : x.wf → x.pureP → RA I nr x.cells b o → R I ρ (.rop x) (.pointer (some ⟨b, o, none⟩))
  | nils {ρ : Ren} : R I ρ .nils (.slice none 0 0)
  | nilp {ρ : Ren} : R I ρ .nilp (.pointer none)
  | nilm {ρ : Ren} : R I ρ .nilm (.map none)
  | nilf {ρ : Ren} : R I ρ .nilf .nilFunc
  | nili {ρ : Ren} : R I ρ .nili .nilIface
  | map {ρ : Ren} {id b : Nat} : ρ id = some (.blk b 0) → R I ρ (.map id) (.map (some b))
  | func {ρ : Ren} {fn : Fn} {f c : List A} {fs cs : List Value} : RL I ρ f fs → RL I ρ c cs → R I ρ (.func fn f c) (.func fn fs.toArray cs.toArray)
  | iface {ρ : Ren} {t : TypeId} {x : A} {v : Value} : R I ρ x v → R I ρ (.iface t x) (.iface t v)
  | tup {ρ : Ren} {l : List A} {vs : List Value} : RL I ρ l vs → R I ρ (.tup l) (.tuple vs.toArray)
  | any {ρ : Ren} {v : Value} : R I ρ .any v
inductive RL (I : Imm) : Ren → List A → List Value → Prop
  | nil {ρ : Ren} : RL I ρ [] []
  | cons {ρ : Ren} {x : A} {v : Value} {xs : List A} {vs : List Value} : R I ρ x v → RL I ρ xs vs → RL I ρ (x :: xs) (v :: vs)
inductive RA (I : Imm) : Ren → List A → Nat → Nat → Prop
  | nil {ρ : Ren} {b o : Nat} : RA I ρ [] b o
  | cons {ρ : Ren} {x : A} {v : Value} {xs : List A} {b o : Nat} : I b o = some v → v.oneCell' = true → R I ρ x v → RA I ρ xs b (o + 1) → RA I ρ (x :: xs) b o
end

def Imm.le (I I' : Imm) : Prop := ∀ b o v, I b o = some v → I' b o = some v
def Ren.le (ρ ρ' : Ren) : Prop := ∀ n l, ρ n = some l → ρ' n = some l
theorem Imm.le.refl (I : Imm) : I.le I := fun _ _ _ h => h
theorem Ren.le.refl (ρ : Ren) : ρ.le ρ := fun _ _ h => h
theorem Ren.le.nr (ρ : Ren) : nr.le ρ := fun _ _ h => by cases h
theorem Imm.le.trans {I J K : Imm} (h : I.le J) (k : J.le K) : I.le K := fun b o v e => k b o v (h b o v e)
theorem Ren.le.trans {I J K : Ren} (h : I.le J) (k : J.le K) : I.le K := fun b o e => k b o (h b o e)

mutual
theorem R.mono {I I' : Imm} (hI : I.le I') : ∀ {ρ ρ' : Ren} {x : A} {v : Value}, ρ.le ρ' → R I ρ x v → R I' ρ' x v
  | _, _, _, _, _, .int => .int
  | _, _, _, _, _, .bool => .bool
  | _, _, _, _, _, .str => .str
  | _, _, _, _, h, .agg a b c => .agg a b (RL.mono hI h c)
  | _, _, _, _, _, .ro a b c => .ro a b fun i hi => RA.mono hI (Ren.le.refl _) (c i hi)
  | _, _, _, _, _, .ro0 => .ro0
  | _, _, _, _, _, .rol b c => .rol b fun i hi => RA.mono hI (Ren.le.refl _) (c i hi)
  | _, _, _, _, _, .rol0 => .rol0
  | _, _, _, _, h, .own a b c => .own (h _ _ a) b c
  | _, _, _, _, _, .own0 => .own0
  | _, _, _, _, h, .owl a b => .owl (h _ _ a) b
  | _, _, _, _, _, .owl0 => .owl0
  | _, _, _, _, h, .owk a b c d => .owk (h _ _ a) b c d
  | _, _, _, _, _, .owk0 => .owk0
  | _, _, _, _, h, .vsl a b c => .vsl (h _ _ a) b c
  | _, _, _, _, _, .vsl0 => .vsl0
  | _, _, _, _, h, .ptr a => .ptr (h _ _ a)
  | _, _, _, _, _, .rop a a' b => .rop a a' (RA.mono hI (Ren.le.refl _) b)
  | _, _, _, _, _, .nils => .nils
  | _, _, _, _, _, .nilp => .nilp
  | _, _, _, _, _, .nilm => .nilm
  | _, _, _, _, _, .nilf => .nilf
  | _, _, _, _, _, .nili => .nili
  | _, _, _, _, h, .map a => .map (h _ _ a)
  | _, _, _, _, h, .func a b => .func (RL.mono hI h a) (RL.mono hI h b)
  | _, _, _, _, h, .iface a => .iface (R.mono hI h a)
  | _, _, _, _, h, .tup a => .tup (RL.mono hI h a)
  | _, _, _, _, _, .any => .any
theorem RL.mono {I I' : Imm} (hI : I.le I') : ∀ {ρ ρ' : Ren} {x : List A} {v : List Value}, ρ.le ρ' → RL I ρ x v → RL I' ρ' x v
  | _, _, _, _, _, .nil => .nil
  | _, _, _, _, h, .cons a b => .cons (R.mono hI h a) (RL.mono hI h b)
theorem RA.mono {I I' : Imm} (hI : I.le I') : ∀ {ρ ρ' : Ren} {x : List A} {b o : Nat}, ρ.le ρ' → RA I ρ x b o → RA I' ρ' x b o
  | _, _, _, _, _, _, .nil => .nil
  | _, _, _, _, _, h, .cons a b c d => .cons (hI _ _ _ a) b (R.mono hI h c) (RA.mono hI h d)
end

theorem RL.length {I : Imm} {ρ : Ren} : ∀ {xs : List A} {vs : List Value}, RL I ρ xs vs → xs.length = vs.length
  | _, _, .nil => rfl
  | _, _, .cons _ h => by simp [RL.length h]
theorem RL.append {I : Imm} {ρ : Ren} : ∀ {xs : List A} {vs : List Value} {ys : List A} {us : List Value}, RL I ρ xs vs → RL I ρ ys us → RL I ρ (xs ++ ys) (vs ++ us)
  | _, _, _, _, .nil, h => h
  | _, _, _, _, .cons a b, h => .cons a (RL.append b h)
theorem RL.split {I : Imm} {ρ : Ren} : ∀ {xs ys : List A} {vs : List Value}, RL I ρ (xs ++ ys) vs → RL I ρ xs (vs.take xs.length) ∧ RL I ρ ys (vs.drop xs.length)
  | [], _, _, h => ⟨.nil, by simpa using h⟩
  | x :: xs, ys, _, .cons a b => by
    obtain ⟨h1, h2⟩ := RL.split (xs := xs) b
    exact ⟨by simpa using RL.cons a h1, by simpa using h2⟩

/-! ### sizes -/
mutual
theorem A.length_cells : ∀ (x : A), x.wf → x.cells.length = x.size
  | .vec sz n g, h => by
    have : ∀ k, k ≤ n → ((List.range k).flatMap fun i => (g i).cells).length = k * sz := by
      intro k
      induction k with
      | zero => intro _; simp
      | succ k ih =>
        intro hk
        have hg := h k (by omega)
        rw [List.range_succ, List.flatMap_append, List.length_append, ih (by omega)]
        simp only [List.flatMap_cons, List.flatMap_nil, List.append_nil]
        rw [A.length_cells (g k) hg.1, hg.2.1, Nat.succ_mul]
    simpa [A.cells, A.size] using this n (Nat.le_refl n)
  | .agg ps, h => by simpa [A.cells, A.size] using A.length_cellsL ps h
  | .int .., _ | .bool _, _ | .str _, _ | .ro .., _ | .rol .., _ | .own .., _ | .owl .., _ | .owk .., _ | .ptr .., _ | .vsl .., _ | .rop _, _ | .nils, _ | .nilp, _ | .nilm, _ | .nilf, _ | .nili, _
  | .map _, _ | .func .., _ | .iface .., _ | .tup _, _ | .any, _ => by simp [A.cells, A.size]
theorem A.length_cellsL : ∀ (l : List A), A.wfL l → (A.cellsL l).length = A.sizeL l
  | [], _ => rfl
  | x :: xs, h => by
    rw [A.cellsL, List.length_append, A.sizeL, A.length_cells x h.1, A.length_cellsL xs h.2]
end

theorem cells_of_one {x : A} (h : isAgg x = false) : x.cells = [x] := by
  cases x <;> simp_all [A.cells, isAgg]
theorem size_of_one {x : A} (h : isAgg x = false) : x.size = 1 := by
  cases x <;> simp_all [A.size, isAgg]

theorem R.wf {I : Imm} {ρ : Ren} {x : A} {v : Value} (h : R I ρ x v) : x.wf := by
  cases h with
  | agg _ h _ => exact h
  | _ => simp [A.wf]

/-- A value of one cell. -/
theorem R.one {I : Imm} {ρ : Ren} {x : A} {v : Value} (h : R I ρ x v) (hx : isAgg x = false) (ha : x ≠ .any) (ht : ∀ l, x ≠ .tup l) : v.oneCell' = true := by
  cases h with
  | agg h _ _ => rw [hx] at h; cases h
  | any => exact absurd rfl ha
  | tup => exact absurd rfl (ht _)
  | _ => rfl
end VX

/- VX 3: the world's part of the relation: what never changes, what is owned, what was there at the call's begin. -/
namespace VX
open Go

/-- At the call's begin: the world, what never changes, the blocks handed over, the slots of the frame. -/
structure Ctx where
  w0 : World
  I0 : Imm
  fp : Nat → Prop
  n : Nat
  ρ0 : Ren

structure FrameW (Γ : Ctx) (I : Imm) (w : World) : Prop where
  size : Γ.w0.heap.size ≤ w.heap.size
  blocks : ∀ b, b < Γ.w0.heap.size → ¬ Γ.fp b → w.heap[b]? = Γ.w0.heap[b]?
  imm : ∀ b, b < Γ.w0.heap.size → ¬ Γ.fp b → ∀ o, I b o = Γ.I0 b o
  le : Γ.I0.le I
  os : w.os = Γ.w0.os
  tape : w.tape = Γ.w0.tape
  output : w.output = Γ.w0.output

/-- Nothing of the first N cells is frozen. -/
def Thawed (fz : Nat × Nat) (N : Nat) : Prop := fz.1 ≤ fz.2 ∧ ∀ o, o < N → (decide (fz.1 ≤ o) && decide (o < fz.2)) = false

def HoldsC (I : Imm) (ρ : Ren) : Obj → List Value → Prop
  | .var x, vs => x.wf ∧ RL I ρ x.cells vs
  | .arr sz n g, vs => n * sz ≤ vs.length ∧ (∀ i, i < n → (g i).wf ∧ (g i).size = sz ∧ (g i).pureP) ∧ ∀ i, i < n → RL I nr (g i).cells ((vs.drop (i * sz)).take sz)
  | .smap .., _ => False
  | .pmap .., _ => False

/-- The entries of a map with string keys: the keys are ks, each once, and g tells what they hold. -/
def MapC (I : Imm) (z : A) (ks : List (List UInt8)) (g : List UInt8 → A) (es : List MapEntry) : Prop :=
  ks.Nodup ∧ es.length = ks.length ∧ (∀ (i : Nat) (e : MapEntry), es[i]? = some e → ∃ s, ks[i]? = some s ∧ e.key = .string ⟨s.toArray⟩ ∧ R I nr (g s) e.val) ∧ (∀ s, s ∉ ks → g s = z)

/-- The entries of a map with string keys, whose values are xs, in the order of the keys. -/
def PMapC (I : Imm) (ρ : Ren) (ks : List (List UInt8)) (xs : List A) (es : List MapEntry) : Prop :=
  ks.Nodup ∧ es.length = ks.length ∧ (∀ (i : Nat) (e : MapEntry), es[i]? = some e → ∃ s, ks[i]? = some s ∧ e.key = .string ⟨s.toArray⟩) ∧ RL I ρ xs (es.map (·.val))

def BlkHolds (I : Imm) (ρ : Ren) (ob : Obj) (N : Nat) : Go.Obj → Prop
  | .cells vs _ fz => vs.size = N ∧ Thawed fz N ∧ HoldsC I ρ ob vs.toList ∧ ∀ v ∈ vs.toList, v.oneCell' = true
  | .map es _ => N = 0 ∧ match ob with
    | .smap z ks g => MapC I z ks g es.toList
    | .pmap ks xs => PMapC I ρ ks xs es.toList
    | _ => False
  | _ => False

structure OwnB (Γ : Ctx) (I : Imm) (ρ : Ren) (w : World) (b N : Nat) (ob : Obj) : Prop where
  noI : ∀ o, I b o = none
  mine : Γ.fp b ∨ Γ.w0.heap.size ≤ b
  blk : ∃ o, w.heap[b]? = some o ∧ BlkHolds I ρ ob N o

def Own (Γ : Ctx) (I : Imm) (ρ : Ren) (w : World) : Loc → Obj → Prop
  | .blk b N, ob => OwnB Γ I ρ w b N ob
  | .nil, .arr _ n _ => n = 0
  | .nil, _ => False

theorem Own.nil_iff {Γ : Ctx} {I I' : Imm} {ρ ρ' : Ren} {w w' : World} {ob : Obj} (h : Own Γ I ρ w .nil ob) : Own Γ I' ρ' w' .nil ob := by
  cases ob <;> exact h

structure RW (Γ : Ctx) (I : Imm) (ρ : Ren) (r : List (Nat × Option Obj)) (us : List Nat) (w : World) : Prop where
  imm : ∀ b o v, I b o = some v → w.cell? ⟨b, o, none⟩ = some v
  own : ∀ n ob, look r n = some (some ob) → ∃ l, ρ n = some l ∧ Own Γ I ρ w l ob
  inj : ∀ m n ob ob' b N N', look r m = some (some ob) → look r n = some (some ob') → ρ m = some (.blk b N) → ρ n = some (.blk b N') → m = n
  names : ∀ n, usedN us n = false → ρ n = none
  frame : FrameW Γ I w
  keep : ∀ n l, 1000 ≤ n → ρ n = some l → Γ.ρ0 n = some l

theorem nbeq_ne {k n : Nat} (h : k ≠ n) : Nat.beq k n = false := by
  cases e : Nat.beq k n with
  | false => rfl
  | true => exact absurd (Nat.eq_of_beq_eq_true e) h
theorem look_cons {α : Type} (l : List (Nat × α)) (k n : Nat) (v : α) : look ((k, v) :: l) n = if k = n then some v else look l n := by
  simp only [look]
  by_cases h : k = n
  · simp [h]
  · have : Nat.beq k n = false := nbeq_ne h
    simp [this, h]
theorem hasN_cons (l : List Nat) (k n : Nat) : hasN (k :: l) n = (decide (k = n) || hasN l n) := by
  simp only [hasN]
  by_cases h : k = n
  · simp [h]
  · have : Nat.beq k n = false := nbeq_ne h
    simp [this, h]

theorem usedN_cons (l : List Nat) (k n : Nat) : usedN (k :: l) n = (decide (k = n) || usedN l n) := by
  unfold usedN
  rw [hasN_cons]
  cases Nat.ble 1000 n <;> simp
theorem usedN_lt {us : List Nat} {n : Nat} (h : usedN us n = false) : n < 1000 := by
  unfold usedN at h
  cases e : Nat.ble 1000 n with
  | true => rw [e] at h; cases h
  | false => exact Nat.lt_of_not_le (fun hh => by rw [Nat.ble_eq_true_of_le hh] at e; cases e)
theorem usedN_hasN {us : List Nat} {n : Nat} (h : usedN us n = false) : hasN us n = false := by
  unfold usedN at h
  cases e : Nat.ble 1000 n with
  | true => rw [e] at h; cases h
  | false => rw [e] at h; exact h

theorem HoldsC.mono {I I' : Imm} {ρ ρ' : Ren} (hI : I.le I') (hρ : ρ.le ρ') : ∀ {ob : Obj} {vs : List Value}, HoldsC I ρ ob vs → HoldsC I' ρ' ob vs
  | .var _, _, h => ⟨h.1, RL.mono hI hρ h.2⟩
  | .arr .., _, h => ⟨h.1, h.2.1, fun i hi => RL.mono hI (Ren.le.refl _) (h.2.2 i hi)⟩
  | .smap .., _, h => h
  | .pmap .., _, h => h
theorem PMapC.mono {I I' : Imm} {ρ ρ' : Ren} (hI : I.le I') (hρ : ρ.le ρ') {ks : List (List UInt8)} {xs : List A} {es : List MapEntry} (h : PMapC I ρ ks xs es) : PMapC I' ρ' ks xs es :=
  ⟨h.1, h.2.1, h.2.2.1, RL.mono hI hρ h.2.2.2⟩
theorem MapC.mono {I I' : Imm} (hI : I.le I') {z : A} {ks : List (List UInt8)} {g : List UInt8 → A} {es : List MapEntry} (h : MapC I z ks g es) : MapC I' z ks g es :=
  ⟨h.1, h.2.1, fun i e he => let ⟨s, a, b, c⟩ := h.2.2.1 i e he; ⟨s, a, b, R.mono hI (Ren.le.refl _) c⟩, h.2.2.2⟩
theorem BlkHolds.mono {I I' : Imm} {ρ ρ' : Ren} (hI : I.le I') (hρ : ρ.le ρ') {ob : Obj} {N : Nat} : ∀ {o : Go.Obj}, BlkHolds I ρ ob N o → BlkHolds I' ρ' ob N o
  | .cells .., h => ⟨h.1, h.2.1, HoldsC.mono hI hρ h.2.2.1, h.2.2.2⟩
  | .map .., h => ⟨h.1, by
    have h2 := h.2
    cases ob <;> simp only at h2 ⊢
    · exact h2.mono hI
    · exact h2.mono hI hρ⟩
  | .pending .., h | .view .., h | .number .., h | .chan .., h | .stringIter .., h | .mapIter .., h | .loop .., h | .deferred .., h | .coro .., h | .finalizers .., h => by simp [BlkHolds] at h

section
variable {Γ : Ctx} {I : Imm} {ρ : Ren} {r : List (Nat × Option Obj)} {us : List Nat} {w : World}

theorem RW.lt_of_own (h : RW Γ I ρ r us w) {n : Nat} {ob : Obj} (hn : look r n = some (some ob)) {b N : Nat} (hb : ρ n = some (.blk b N)) : OwnB Γ I ρ w b N ob := by
  obtain ⟨l, hl, ho⟩ := h.own n ob hn
  rw [hb] at hl
  cases hl
  exact ho
theorem OwnB.lt {b N : Nat} {ob : Obj} (h : OwnB Γ I ρ w b N ob) : b < w.heap.size := by
  obtain ⟨o, ho, _⟩ := h.blk
  exact (Array.getElem?_eq_some_iff.1 ho).1
theorem RW.imm_lt (h : RW Γ I ρ r us w) {b o : Nat} {v : Value} (hb : I b o = some v) : b < w.heap.size :=
  World.block_lt_of_cell? w _ (h.imm b o v hb)

/-- A world in which just the count of draws has moved. -/
theorem RW.drew (h : RW Γ I ρ r us w) : RW Γ I ρ r us w.drew :=
  ⟨h.imm, fun n ob hn => let ⟨l, hl, ho⟩ := h.own n ob hn; ⟨l, hl, by cases l <;> exact (by first | exact ⟨ho.noI, ho.mine, ho.blk⟩ | exact ho.nil_iff)⟩, h.inj, h.names,
    ⟨h.frame.size, h.frame.blocks, h.frame.imm, h.frame.le, h.frame.os, h.frame.tape, h.frame.output⟩, h.keep⟩

def Ren.set (ρ : Ren) (n : Nat) (l : Loc) : Ren := fun m => if m = n then some l else ρ m
theorem Ren.le_set {ρ : Ren} {n : Nat} {l : Loc} (h : ρ n = none) : ρ.le (ρ.set n l) := fun m k hm => by
  unfold Ren.set
  by_cases e : m = n
  · subst e; rw [h] at hm; cases hm
  · simpa [e] using hm

theorem heap_alloc_lt (w : World) (o : Go.Obj) {b : Nat} (h : b < w.heap.size) : (w.alloc o).heap[b]? = w.heap[b]? := by
  show (w.heap.push o)[b]? = _
  rw [Array.getElem?_push, if_neg (by omega)]
theorem heap_alloc_at (w : World) (o : Go.Obj) : (w.alloc o).heap[w.heap.size]? = some o := by
  show (w.heap.push o)[w.heap.size]? = _
  simp

theorem keep_set (hk : ∀ n l, 1000 ≤ n → ρ n = some l → Γ.ρ0 n = some l) {nm : Nat} (hnm : usedN us nm = false) {l : Loc} : ∀ n l', 1000 ≤ n → (ρ.set nm l) n = some l' → Γ.ρ0 n = some l' := fun n l' hn hl => by
  have := usedN_lt hnm
  simp only [Ren.set, if_neg (show ¬ n = nm by omega)] at hl
  exact hk n l' hn hl

/-- A new block. -/
theorem RW.alloc (h : RW Γ I ρ r us w) {nm : Nat} (hnm : usedN us nm = false) {ob : Obj} {o : Go.Obj} {N : Nat} (hob : BlkHolds I ρ ob N o) :
    RW Γ I (ρ.set nm (.blk w.heap.size N)) ((nm, some ob) :: r) (nm :: us) (w.alloc o) := by
  have hle : ρ.le (ρ.set nm (.blk w.heap.size N)) := Ren.le_set (h.names nm hnm)
  have hnoI : ∀ o, I w.heap.size o = none := fun o => by
    cases e : I w.heap.size o with
    | none => rfl
    | some v => exact absurd (h.imm_lt e) (Nat.lt_irrefl _)
  have hold : ∀ b N ob, OwnB Γ I ρ w b N ob → OwnB Γ I (ρ.set nm (.blk w.heap.size N)) (w.alloc o) b N ob := fun b N ob hb =>
    ⟨hb.noI, hb.mine, let ⟨o', ho', hh⟩ := hb.blk; ⟨o', by rw [heap_alloc_lt _ _ hb.lt]; exact ho', hh.mono (Imm.le.refl _) (by exact Ren.le_set (h.names nm hnm))⟩⟩
  refine ⟨fun b o' v hv => ?_, fun n ob' hn => ?_, fun m n ob1 ob2 b N1 N2 hm hn hbm hbn => ?_, fun n hn => ?_, ?_, keep_set h.keep hnm⟩
  · rw [World.cell?_alloc_lt _ _ _ (h.imm_lt hv)]
    exact h.imm _ _ _ hv
  · rw [look_cons] at hn
    by_cases e : nm = n
    · subst e
      simp only [if_true, Option.some.injEq] at hn
      subst hn
      exact ⟨.blk w.heap.size N, by simp [Ren.set], hnoI, Or.inr h.frame.size, o, heap_alloc_at _ _, hob.mono (Imm.le.refl _) hle⟩
    · rw [if_neg e] at hn
      obtain ⟨l, hl, ho⟩ := h.own n ob' hn
      refine ⟨l, hle _ _ hl, ?_⟩
      cases l with
      | nil => exact ho.nil_iff
      | blk b N' => exact ⟨ho.noI, ho.mine, let ⟨o', ho', hh⟩ := ho.blk; ⟨o', by rw [heap_alloc_lt _ _ ho.lt]; exact ho', hh.mono (Imm.le.refl _) hle⟩⟩
  · rw [look_cons] at hm hn
    simp only [Ren.set] at hbm hbn
    by_cases em : nm = m <;> by_cases en : nm = n
    · exact em.symm.trans en
    · subst em
      rw [if_neg en] at hn
      simp only [if_true, Option.some.injEq, Loc.blk.injEq] at hbm
      rw [if_neg (Ne.symm en)] at hbn
      have := (h.lt_of_own hn hbn).lt
      omega
    · subst en
      rw [if_neg em] at hm
      simp only [if_true, Option.some.injEq, Loc.blk.injEq] at hbn
      rw [if_neg (Ne.symm em)] at hbm
      have := (h.lt_of_own hm hbm).lt
      omega
    · rw [if_neg em] at hm
      rw [if_neg en] at hn
      rw [if_neg (Ne.symm em)] at hbm
      rw [if_neg (Ne.symm en)] at hbn
      exact h.inj m n ob1 ob2 b N1 N2 hm hn hbm hbn
  · rw [usedN_cons] at hn
    simp only [Bool.or_eq_false_iff, decide_eq_false_iff_not] at hn
    simp only [Ren.set, if_neg (Ne.symm hn.1)]
    exact h.names n hn.2
  · exact ⟨by have := h.frame.size; simp; omega, fun b hb hf => by rw [heap_alloc_lt _ _ (Nat.lt_of_lt_of_le hb h.frame.size)]; exact h.frame.blocks b hb hf,
      h.frame.imm, h.frame.le, h.frame.os, h.frame.tape, h.frame.output⟩

/-- A new name for an array of nothing that lies nowhere. -/
theorem RW.allocNil (h : RW Γ I ρ r us w) {nm : Nat} (hnm : usedN us nm = false) {sz : Nat} {g : Nat → A} :
    RW Γ I (ρ.set nm .nil) ((nm, some (.arr sz 0 g)) :: r) (nm :: us) w := by
  have hle : ρ.le (ρ.set nm .nil) := Ren.le_set (h.names nm hnm)
  refine ⟨h.imm, fun n ob' hn => ?_, fun m n ob1 ob2 b N1 N2 hm hn hbm hbn => ?_, fun n hn => ?_, h.frame, keep_set h.keep hnm⟩
  · rw [look_cons] at hn
    by_cases e : nm = n
    · subst e
      simp only [if_true, Option.some.injEq] at hn
      subst hn
      exact ⟨.nil, by simp [Ren.set], rfl⟩
    · rw [if_neg e] at hn
      obtain ⟨l, hl, ho⟩ := h.own n ob' hn
      refine ⟨l, hle _ _ hl, ?_⟩
      cases l with
      | nil => exact ho.nil_iff
      | blk b N' => exact ⟨ho.noI, ho.mine, let ⟨o', ho', hh⟩ := ho.blk; ⟨o', ho', hh.mono (Imm.le.refl _) hle⟩⟩
  · rw [look_cons] at hm hn
    simp only [Ren.set] at hbm hbn
    by_cases em : nm = m <;> by_cases en : nm = n
    · exact em.symm.trans en
    · subst em; simp at hbm
    · subst en; simp at hbn
    · rw [if_neg em] at hm
      rw [if_neg en] at hn
      rw [if_neg (Ne.symm em)] at hbm
      rw [if_neg (Ne.symm en)] at hbn
      exact h.inj m n ob1 ob2 b N1 N2 hm hn hbm hbn
  · rw [usedN_cons] at hn
    simp only [Bool.or_eq_false_iff, decide_eq_false_iff_not] at hn
    simp only [Ren.set, if_neg (Ne.symm hn.1)]
    exact h.names n hn.2

/-- A name goes. -/
theorem RW.drop (h : RW Γ I ρ r us w) (n : Nat) : RW Γ I ρ ((n, none) :: r) us w := by
  refine ⟨h.imm, fun m ob hm => ?_, fun m m' ob ob' b N N' hm hm' => ?_, h.names, h.frame, h.keep⟩
  · rw [look_cons] at hm
    by_cases e : n = m
    · rw [if_pos e] at hm; cases hm
    · rw [if_neg e] at hm; exact h.own m ob hm
  · rw [look_cons] at hm hm'
    by_cases e : n = m
    · rw [if_pos e] at hm; cases hm
    · by_cases e' : n = m'
      · rw [if_pos e'] at hm'; cases hm'
      · rw [if_neg e] at hm
        rw [if_neg e'] at hm'
        exact h.inj m m' ob ob' b N N' hm hm'

/-- Another thing at the place of block b. -/
def setBlk (w : World) (b : Nat) (o : Go.Obj) : World := { w with heap := w.heap.setIfInBounds b o }
theorem heap_setBlk_ne (w : World) (b : Nat) (o : Go.Obj) {k : Nat} (h : k ≠ b) : (setBlk w b o).heap[k]? = w.heap[k]? := by
  show (w.heap.setIfInBounds b o)[k]? = _
  rw [Array.getElem?_setIfInBounds_ne (Ne.symm h)]
theorem heap_setBlk_at (w : World) (b : Nat) (o : Go.Obj) (h : b < w.heap.size) : (setBlk w b o).heap[b]? = some o := by
  show (w.heap.setIfInBounds b o)[b]? = _
  simp [h]
theorem cell?_setBlk_ne (w : World) (b : Nat) (o : Go.Obj) {a : Addr} (h : a.block ≠ b) : (setBlk w b o).cell? a = w.cell? a := by
  simp only [World.cell?, heap_setBlk_ne w b o h]

/-- An owned block holds something else. -/
theorem RW.put (h : RW Γ I ρ r us w) {n : Nat} {ob : Obj} (hn : look r n = some (some ob)) {b N : Nat} (hb : ρ n = some (.blk b N)) {ob' : Obj} {o : Go.Obj} (hob : BlkHolds I ρ ob' N o) :
    RW Γ I ρ ((n, some ob') :: r) us (setBlk w b o) := by
  have hO := h.lt_of_own hn hb
  refine ⟨fun b' o' v hv => ?_, fun m ob1 hm => ?_, fun m m' ob1 ob2 b' N1 N2 hm hm' hbm hbm' => ?_, h.names, ?_, h.keep⟩
  · rw [cell?_setBlk_ne _ _ _ (by rintro rfl; rw [hO.noI] at hv; cases hv)]
    exact h.imm _ _ _ hv
  · rw [look_cons] at hm
    by_cases e : n = m
    · subst e
      simp only [if_true, Option.some.injEq] at hm
      subst hm
      exact ⟨.blk b N, hb, hO.noI, hO.mine, o, heap_setBlk_at _ _ _ hO.lt, hob⟩
    · rw [if_neg e] at hm
      obtain ⟨l, hl, ho⟩ := h.own m ob1 hm
      refine ⟨l, hl, ?_⟩
      cases l with
      | nil => exact ho.nil_iff
      | blk b' N' =>
        have hne : b' ≠ b := by
          rintro rfl
          exact e (h.inj n m ob ob1 b' N N' hn hm hb hl)
        exact ⟨ho.noI, ho.mine, let ⟨o', ho', hh⟩ := ho.blk; ⟨o', by rw [heap_setBlk_ne _ _ _ hne]; exact ho', hh⟩⟩
  · have key : ∀ k ob1, look ((n, some ob') :: r) k = some (some ob1) → ∃ ob2, look r k = some (some ob2) := fun k ob1 hk => by
      rw [look_cons] at hk
      by_cases e : n = k
      · subst e; exact ⟨ob, hn⟩
      · rw [if_neg e] at hk; exact ⟨ob1, hk⟩
    obtain ⟨o1, h1⟩ := key m ob1 hm
    obtain ⟨o2, h2⟩ := key m' ob2 hm'
    exact h.inj m m' o1 o2 b' N1 N2 h1 h2 hbm hbm'
  · refine ⟨by have := h.frame.size; simpa [setBlk] using this, fun b' hb' hf => ?_, h.frame.imm, h.frame.le, h.frame.os, h.frame.tape, h.frame.output⟩
    have hne : b' ≠ b := by
      rintro rfl
      rcases hO.mine with hm | hm
      · exact hf hm
      · omega
    rw [heap_setBlk_ne _ _ _ hne]
    exact h.frame.blocks b' hb' hf
end

/-- Some cells of a row are others. -/
def spliceL (vs : List Value) (o : Nat) (news : List Value) : List Value := vs.take o ++ news ++ vs.drop (o + news.length)

theorem setCell_setBlk (w : World) (b o : Nat) (vs : Array Value) (e : TypeId) (fz : Nat × Nat) (v : Value) (h : w.heap[b]? = some (.cells vs e fz)) :
    w.setCell ⟨b, o, none⟩ v = setBlk w b (.cells (vs.setIfInBounds o v) e fz) := by
  have hb : b < w.heap.size := (Array.getElem?_eq_some_iff.1 h).1
  unfold World.setCell setBlk
  congr 1
  apply Array.ext_getElem?
  intro k
  by_cases hk : b = k
  · subst hk
    rw [Array.getElem?_modify, if_pos rfl, h, Array.getElem?_setIfInBounds]
    simp [hb]
  · simp [Array.getElem?_modify, Array.getElem?_setIfInBounds, hk]

theorem setBlk_setBlk (w : World) (b : Nat) (o o' : Go.Obj) : setBlk (setBlk w b o) b o' = setBlk w b o' := by
  unfold setBlk
  simp
theorem setBlk_self (w : World) (b : Nat) (o : Go.Obj) (h : w.heap[b]? = some o) : setBlk w b o = w := by
  unfold setBlk
  have hb : b < w.heap.size := (Array.getElem?_eq_some_iff.1 h).1
  have : w.heap.setIfInBounds b o = w.heap := by
    apply Array.ext_getElem?
    intro k
    rw [Array.getElem?_setIfInBounds]
    by_cases hk : b = k
    · subst hk; rw [if_pos rfl, if_pos hb, h]
    · simp [hk]
  rw [this]

theorem setCells_setBlk (b : Nat) (e : TypeId) (fz : Nat × Nat) : ∀ (news : List Value) (o : Nat) (w : World) (vs : Array Value), w.heap[b]? = some (.cells vs e fz) → o + news.length ≤ vs.size →
    w.setCells b o news = setBlk w b (.cells (spliceL vs.toList o news).toArray e fz)
  | [], o, w, vs, h, _ => by
    simp only [World.setCells, spliceL, List.append_nil, List.length_nil, Nat.add_zero, List.take_append_drop, Array.toArray_toList]
    rw [setBlk_self w b _ h]
  | v :: news, o, w, vs, h, hl => by
    have hb : b < w.heap.size := (Array.getElem?_eq_some_iff.1 h).1
    rw [World.setCells, setCell_setBlk w b o vs e fz v h]
    rw [setCells_setBlk b e fz news (o + 1) _ (vs.setIfInBounds o v) (heap_setBlk_at _ _ _ hb) (by simp at hl ⊢; omega), setBlk_setBlk]
    congr 2
    apply congrArg
    simp only [List.length_cons] at hl
    simp only [spliceL, Array.toList_setIfInBounds, List.length_cons]
    have ho : o < vs.toList.length := by simp; omega
    rw [List.take_add_one, List.take_set_of_le (Nat.le_refl o)]
    rw [List.getElem?_set_self (by simpa using ho)]
    rw [List.drop_set_of_lt (by omega)]
    simp only [Option.toList_some, List.append_assoc, List.cons_append, List.nil_append]
    rw [show o + 1 + news.length = o + (news.length + 1) by omega]

theorem run_storeCells {P : Program} {w : World} {b o : Nat} {news : List Value} {vs : Array Value} {e : TypeId} {fz : Nat × Nat}
    (h : w.heap[b]? = some (.cells vs e fz)) (hl : o + news.length ≤ vs.size) (hfz : Thawed fz vs.size) (h1 : ∀ v ∈ news, v.oneCell' = true) :
    (storeCells ⟨b, o, none⟩ news).run P w = .ok () (setBlk w b (.cells (spliceL vs.toList o news).toArray e fz)) := by
  have := run_storeCells_cells (P := P) b o news 0 w (fun j hj => by
      simp only [World.cell?, h, Nat.add_zero]
      simp [Array.getElem?_eq_getElem (show o + j < vs.size by omega)])
    (fun j hj => by
      simp only [World.frozen?, h, Nat.add_zero]
      exact hfz.2 (o + j) (by omega)) h1
  rw [this, Nat.add_zero, setCells_setBlk b e fz news o w vs h hl]

theorem run_loadCells_blk {P : Program} {w : World} {b o n : Nat} {vs : Array Value} {e : TypeId} {fz : Nat × Nat} (h : w.heap[b]? = some (.cells vs e fz)) (hl : o + n ≤ vs.size) :
    (loadCells ⟨b, o, none⟩ n).run P w = .ok ((vs.toList.drop o).take n).toArray w := by
  have hn : ((vs.toList.drop o).take n).length = n := by simp; omega
  have := run_loadCells_list (P := P) w ⟨b, o, none⟩ ((vs.toList.drop o).take n) (fun j v hv => by
    have hj : j < n := by
      rcases Nat.lt_or_ge j n with h' | h'
      · exact h'
      · rw [List.getElem?_eq_none (by rw [hn]; exact h')] at hv; cases hv
    rw [List.getElem?_take_of_lt hj, List.getElem?_drop] at hv
    have hadd : (⟨b, o, none⟩ : Addr).add j = ⟨b, o + j, none⟩ := by unfold Addr.add; split <;> simp_all
    rw [hadd]
    simp only [World.cell?, h]
    simpa using hv)
  rw [hn] at this
  exact this
theorem run_loadCells_imm {P : Program} {w : World} {I : Imm} (hI : ∀ b o v, I b o = some v → w.cell? ⟨b, o, none⟩ = some v) {b o : Nat} {vs : List Value} (h : ∀ j v, vs[j]? = some v → I b (o + j) = some v) :
    (loadCells ⟨b, o, none⟩ vs.length).run P w = .ok vs.toArray w := by
  refine run_loadCells_list (P := P) w ⟨b, o, none⟩ vs (fun j v hv => ?_)
  have hadd : (⟨b, o, none⟩ : Addr).add j = ⟨b, o + j, none⟩ := by unfold Addr.add; split <;> simp_all
  rw [hadd]
  exact hI _ _ _ (h j v hv)
end VX

/- VX 4: the table of types against the program; parts of data; the operations that touch no memory. -/
namespace VX
open Go

def tdOf : TypeDesc → TD
  | .int k => .int k
  | .bool => .bool
  | .string => .string
  | .slice e => .slice e
  | .array n e => .array n e
  | .struct fs => .struct (fs.toList.map fun f => (f.offset, f.type))
  | .pointer e => .pointer e
  | .map k e => .map k e
  | .interface _ => .iface
  | .func .. => .func
  | _ => .other

/-- A type of data that are compared part by part. -/
def eqTypeOK (P : Program) : Nat → Nat → Bool
  | 0, _ => false
  | n + 1, t => match P.underlying t with
    | some (.int _) | some .bool | some .string => true
    | some (.array _ e) => eqTypeOK P n e
    | some (.struct fs) => !P.stoodInHeld t && fs.toList.all fun f => f.name != "_" && eqTypeOK P n f.type
    | _ => false
/-- What the table says of a type is so. -/
structure TIok (P : Program) (t : Nat) (ti : TI) : Prop where
  d : ∃ u, P.underlying t = some u ∧ tdOf u = ti.d
  info : ∃ i, P.info? t = some i ∧ i.size = ti.size ∧ i.bytes = ti.bytes ∧ (ti.zero.sureP → ∃ z, i.zero = some z ∧ (∀ I ρ, R I ρ ti.zero z) ∧ ti.zero.size = ti.size ∧ ti.zero.pureP)
  bld : ∀ fs zs, ti.d = .struct fs → ti.zero = .agg zs → ∃ u pl, P.underlying t = some (.struct u) ∧ u.toList.mapM (fun f => (P.info? f.type).map fun i => (f.offset, i.size)) = some pl ∧ pl.length = zs.length ∧
    ∀ i x, zs[i]? = some x → pl[i]? = some (A.sizeL (zs.take i), x.size)
  eq : ti.eqok = true → P.eqGuardType P.depth t = false ∧ eqTypeOK P 10 t = true
def TabOK (P : Program) (l : List TI) : Prop := ∀ t ti, nth l t = some ti → TIok P t ti

section
variable {P : Program} {T : Tab} (hT : TabOK P T.l)
include hT
theorem Tab.under {t : Nat} {d : TD} (h : T.d t = d) (hd : d ≠ .other) : ∃ u, P.underlying t = some u ∧ tdOf u = d := by
  unfold Tab.d at h
  cases e : nth T.l t with
  | none => rw [e] at h; exact absurd h.symm hd
  | some ti =>
    rw [e] at h
    obtain ⟨u, hu, hd'⟩ := (hT t ti e).d
    exact ⟨u, hu, hd'.trans h⟩
theorem Tab.int {t : Nat} {k : IntKind} (h : T.d t = .int k) : P.underlying t = some (.int k) := by
  obtain ⟨u, hu, hd⟩ := Tab.under hT h (by simp)
  cases u <;> simp [tdOf] at hd
  rw [hu, hd]
theorem Tab.str {t : Nat} (h : T.d t = .string) : P.underlying t = some .string := by
  obtain ⟨u, hu, hd⟩ := Tab.under hT h (by simp)
  cases u <;> simp [tdOf] at hd
  exact hu
theorem Tab.slice {t e : Nat} (h : T.d t = .slice e) : P.underlying t = some (.slice e) := by
  obtain ⟨u, hu, hd⟩ := Tab.under hT h (by simp)
  cases u <;> simp [tdOf] at hd
  rw [hu, hd]
theorem Tab.array {t n e : Nat} (h : T.d t = .array n e) : P.underlying t = some (.array n e) := by
  obtain ⟨u, hu, hd⟩ := Tab.under hT h (by simp)
  cases u <;> simp [tdOf] at hd
  rw [hu, hd.1, hd.2]
theorem Tab.struct {t : Nat} {fs : List (Nat × Nat)} (h : T.d t = .struct fs) : ∃ fl : Array Field, P.underlying t = some (.struct fl) ∧ fl.toList.map (fun f => (f.offset, f.type)) = fs := by
  obtain ⟨u, hu, hd⟩ := Tab.under hT h (by simp)
  cases u <;> simp [tdOf] at hd
  exact ⟨_, hu, hd⟩
end

theorem nth_getElem? {α : Type} : ∀ (l : List α) (n : Nat), nth l n = l[n]?
  | [], n => by simp [nth]
  | x :: xs, 0 => by simp [nth]
  | x :: xs, n + 1 => by
    have : Nat.beq (n + 1) 0 = false := rfl
    simp [nth, this, nth_getElem? xs n]

/-! ### inversions -/
theorem R.int_inv {I : Imm} {ρ : Ren} {k : IntKind} {n : Int} {v : Value} (h : R I ρ (.int k n) v) : v = .int k n := by
  cases h with
  | int => rfl
  | agg h _ _ => cases h
theorem R.bool_inv {I : Imm} {ρ : Ren} {b : Bool} {v : Value} (h : R I ρ (.bool b) v) : v = .bool b := by
  cases h with
  | bool => rfl
  | agg h _ _ => cases h
theorem R.str_inv {I : Imm} {ρ : Ren} {l : List UInt8} {v : Value} (h : R I ρ (.str l) v) : v = .string ⟨l.toArray⟩ := by
  cases h with
  | str => rfl
  | agg h _ _ => cases h
theorem R.agg_inv {I : Imm} {ρ : Ren} {x : A} {v : Value} (hx : isAgg x = true) (h : R I ρ x v) : ∃ vs, v = .agg vs.toArray ∧ x.wf ∧ RL I ρ x.cells vs := by
  cases h with
  | agg _ h1 h2 => exact ⟨_, rfl, h1, h2⟩
  | _ => cases hx
theorem R.tup_inv {I : Imm} {ρ : Ren} {l : List A} {v : Value} (h : R I ρ (.tup l) v) : ∃ vs, v = .tuple vs.toArray ∧ RL I ρ l vs := by
  cases h with
  | tup h => exact ⟨_, rfl, h⟩
  | agg h _ _ => cases h
theorem R.iface_inv {I : Imm} {ρ : Ren} {t : TypeId} {x : A} {v : Value} (h : R I ρ (.iface t x) v) : ∃ u, v = .iface t u ∧ R I ρ x u := by
  cases h with
  | iface h => exact ⟨_, rfl, h⟩
  | agg h _ _ => cases h
theorem R.func_inv {I : Imm} {ρ : Ren} {fn : Fn} {f c : List A} {v : Value} (h : R I ρ (.func fn f c) v) : ∃ fs cs, v = .func fn fs.toArray cs.toArray ∧ RL I ρ f fs ∧ RL I ρ c cs := by
  cases h with
  | func h h' => exact ⟨_, _, rfl, h, h'⟩
  | agg h _ _ => cases h
theorem R.ptr_inv {I : Imm} {ρ : Ren} {id : Nat} {p : List Step} {v : Value} (h : R I ρ (.ptr id p) v) : ∃ b N, v = .pointer (some ⟨b, addr p, none⟩) ∧ ρ id = some (.blk b N) := by
  cases h with
  | ptr h => exact ⟨_, _, rfl, h⟩
  | agg h _ _ => cases h
theorem R.rop_inv {I : Imm} {ρ : Ren} {x : A} {v : Value} (h : R I ρ (.rop x) v) : ∃ b o, v = .pointer (some ⟨b, o, none⟩) ∧ x.wf ∧ x.pureP ∧ RA I nr x.cells b o := by
  cases h with
  | rop h h1 h' => exact ⟨_, _, rfl, h, h1, h'⟩
  | agg h _ _ => cases h
theorem R.nils_inv {I : Imm} {ρ : Ren} {v : Value} (h : R I ρ .nils v) : v = .slice none 0 0 := by
  cases h with
  | nils => rfl
  | agg h _ _ => cases h
theorem R.nilp_inv {I : Imm} {ρ : Ren} {v : Value} (h : R I ρ .nilp v) : v = .pointer none := by
  cases h with
  | nilp => rfl
  | agg h _ _ => cases h
theorem R.nilm_inv {I : Imm} {ρ : Ren} {v : Value} (h : R I ρ .nilm v) : v = .map none := by
  cases h with
  | nilm => rfl
  | agg h _ _ => cases h
theorem R.nilf_inv {I : Imm} {ρ : Ren} {v : Value} (h : R I ρ .nilf v) : v = .nilFunc := by
  cases h with
  | nilf => rfl
  | agg h _ _ => cases h
theorem R.nili_inv {I : Imm} {ρ : Ren} {v : Value} (h : R I ρ .nili v) : v = .nilIface := by
  cases h with
  | nili => rfl
  | agg h _ _ => cases h
theorem R.map_inv {I : Imm} {ρ : Ren} {id : Nat} {v : Value} (h : R I ρ (.map id) v) : ∃ b, v = .map (some b) ∧ ρ id = some (.blk b 0) := by
  cases h with
  | map h => exact ⟨_, rfl, h⟩
  | agg h _ _ => cases h
theorem RL.one_inv {I : Imm} {ρ : Ren} {x : A} {vs : List Value} (h : RL I ρ [x] vs) : ∃ v, vs = [v] ∧ R I ρ x v := by
  cases h with
  | cons h t => cases t; exact ⟨_, rfl, h⟩
theorem RL.two_inv {I : Imm} {ρ : Ren} {x y : A} {vs : List Value} (h : RL I ρ [x, y] vs) : ∃ v u, vs = [v, u] ∧ R I ρ x v ∧ R I ρ y u := by
  cases h with
  | cons h t => obtain ⟨u, rfl, hu⟩ := t.one_inv; exact ⟨_, _, rfl, h, hu⟩
theorem RL.three_inv {I : Imm} {ρ : Ren} {x y z : A} {vs : List Value} (h : RL I ρ [x, y, z] vs) : ∃ v u t, vs = [v, u, t] ∧ R I ρ x v ∧ R I ρ y u ∧ R I ρ z t := by
  cases h with
  | cons h t => obtain ⟨u, t, rfl, hu, ht⟩ := t.two_inv; exact ⟨_, _, _, rfl, h, hu, ht⟩
theorem RL.get {I : Imm} {ρ : Ren} : ∀ {xs : List A} {vs : List Value}, RL I ρ xs vs → ∀ {i : Nat} {x : A}, xs[i]? = some x → ∃ v, vs[i]? = some v ∧ R I ρ x v
  | _, _, .nil, _, _, h => by simp at h
  | _, _, .cons a b, 0, _, h => by simp at h; subst h; exact ⟨_, rfl, a⟩
  | _, _, .cons a b, i + 1, _, h => by
    obtain ⟨v, hv, hr⟩ := RL.get b (i := i) (by simpa using h)
    exact ⟨v, by simpa using hv, hr⟩

theorem RA.get {I : Imm} {ρ : Ren} : ∀ {xs : List A} {b o : Nat}, RA I ρ xs b o → ∃ vs, RL I ρ xs vs ∧ (∀ j v, vs[j]? = some v → I b (o + j) = some v ∧ v.oneCell' = true)
  | _, _, _, .nil => ⟨[], .nil, fun j v h => by simp at h⟩
  | _, b, o, .cons (v := v) h1 h2 h3 h4 => by
    obtain ⟨vs, hr, hv⟩ := RA.get h4
    refine ⟨v :: vs, .cons h3 hr, fun j u hu => ?_⟩
    cases j with
    | zero => simp at hu; subst hu; exact ⟨by simpa using h1, h2⟩
    | succ j =>
      have := hv j u (by simpa using hu)
      rwa [show o + 1 + j = o + (j + 1) by omega] at this

/-! ### one operation: what is shown of it -/
def nxV : Next → Option Value
  | .value v => some v
  | .skip => some undef
  | _ => none

def addW (r : List (Nat × Option Obj)) : List (Nat × Option Obj) → List (Nat × Option Obj)
  | [] => r
  | x :: w => addW (x :: r) w
def addU (us : List Nat) (nm : Nat) : Bool → List Nat
  | true => nm :: us
  | false => us

/-- An operation, of operands xs, in a world that fits. -/
structure Done (Γ : Ctx) (I : Imm) (ρ : Ren) (r : List (Nat × Option Obj)) (us : List Nat) (nm : Nat) (out : Out) (res : Result Next) : Prop where
  ex : ∃ nx v w' ρ', res = .ok nx w' ∧ nxV nx = some v ∧ ρ.le ρ' ∧ RW Γ I ρ' (addW r out.w) (addU us nm out.al) w' ∧ R I ρ' out.v v

section
variable {Γ : Ctx} {I : Imm} {ρ : Ren} {r : List (Nat × Option Obj)} {us : List Nat} {w : World} {nm : Nat}

theorem Done.value {v : A} {u : Value} {c : List Prop} (h : RW Γ I ρ r us w) (hu : R I ρ v u) : Done Γ I ρ r us nm ⟨c, v, [], false⟩ (.ok (.value u) w) :=
  ⟨.value u, u, w, ρ, rfl, rfl, Ren.le.refl _, h, hu⟩
theorem val_inv {v : A} {out : Out} (h : val v = some out) : out = ⟨[], v, [], false⟩ := by
  unfold val at h; exact (Option.some.inj h).symm

theorem move_ok {vs : List A} {xs : List Value} {out : Out} (hp : pMove vs = some out) (h : RW Γ I ρ r us w) (hv : RL I ρ vs xs) :
    ∃ x, xs = [x] ∧ Done Γ I ρ r us nm out (.ok (.value x) w) := by
  unfold pMove at hp
  split at hp
  · obtain ⟨x, rfl, hx⟩ := hv.one_inv
    rw [val_inv hp]
    exact ⟨x, rfl, .value h hx⟩
  · cases hp

theorem pick_ok {vs : List A} {xs : List Value} {out : Out} (hp : pPick vs = some out) (h : RW Γ I ρ r us w) (hv : RL I ρ vs xs) :
    ∃ b x y, xs = [.bool b, x, y] ∧ Done Γ I ρ r us nm out (.ok (.value (if b then x else y)) w) := by
  unfold pPick at hp
  split at hp
  · rename_i c x y
    obtain ⟨v, u, t, rfl, h1, h2, h3⟩ := hv.three_inv
    cases h1.bool_inv
    refine ⟨c, u, t, rfl, ?_⟩
    split at hp
    · rw [val_inv hp]
      cases h2.bool_inv
      cases h3.bool_inv
      refine .value h ?_
      cases c <;> exact .bool
    · rw [val_inv hp]
      refine .value h ?_
      cases c <;> assumption
  · cases hp
end
end VX

