/- A pool of requests that wait: what its operations come to, in plain Lean. -/
import Derived.Test.YthnmbpcdcjamoaaOrdL
import Derived.Test.YthnmbpcdcjamoaaLsL
import Derived.Test.YthnmbpcdcjamoaaInsL
set_option linter.unusedSimpArgs false
set_option linter.unusedVariables false
namespace VX
open Go

structure Upd where
  name : List UInt8
  ver : Int
  key : Int
  cls : Int
  r : Int
  s : Int
  deriving DecidableEq, Inhabited
structure Pen where
  u : Upd
  tick : Int
  seq : Int
  syn : Bool
  deriving DecidableEq, Inhabited
abbrev updA (u : Upd) : A := .agg [.str u.name, .int .i64 u.ver, .int .u64 u.key, .int .i64 u.cls, .agg [.int .u64 u.r, .int .u64 u.s]]
abbrev penA (p : Pen) : A := .agg [updA p.u, .int .i64 p.tick, .int .i64 p.seq, .bool p.syn]

/-- How many of a name wait. -/
def cntN (l : List Pen) (s : List UInt8) : Nat := (l.filter fun x => decide (x.u.name = s)).length
def mayS (l : List Pen) (sh : Bool) (u : Upd) : Int := if 3 ≤ cntN l u.name then 29 else if 32 ≤ l.length ∨ (sh = true ∧ u.cls = 0) then 30 else 0
def addL (l : List Pen) (sh : Bool) (u : Upd) (t q : Int) : List Pen := if mayS l sh u = 0 then l ++ [⟨u, t, q, false⟩] else l
def addB (l : List Pen) (sh : Bool) (u : Upd) : Bool := if mayS l sh u = 0 then sh || decide (24 ≤ l.length + 1) else sh
def setSyn (p : Pen) : Pen := { p with syn := true }
def synP (p : Pen) : Bool := p.syn
def syncL (l : List Pen) : List Pen := l.map setSyn
def syncO (l : List Pen) : List Pen := (l.filter fun x => !x.syn).map setSyn
def minT (l : List Pen) (a : Int) : Int := l.foldl (fun a x => if x.tick < a then x.tick else a) a
def nearS (l : List Pen) : Int × Bool := match l.filter synP with
  | [] => (0, false)
  | x :: r => (minT r x.tick + 40, true)
def isP (s : List UInt8) (v : Int) (p : Pen) : Bool := !(decide (p.u.name = s) && decide (p.u.ver = v))
def idxP (l : List Pen) (s : List UInt8) (v : Int) : Int := idxS (isP s v) l 0
def remL (l : List Pen) (s : List UInt8) (v : Int) : List Pen := if idxP l s v < 0 then l else l.eraseIdx (idxP l s v).toNat
def remB (l : List Pen) (sh : Bool) (s : List UInt8) (v : Int) : Bool := if idxP l s v < 0 then sh else sh && decide (12 < l.length - 1)
/-- The first ones of each name. -/
def frs (l : List Pen) : List Pen := l.foldl (fun a x => if x.u.name ∈ a.map (·.u.name) then a else a ++ [x]) []
/-- The first one of a name. -/
def fnd (l : List Pen) (s : List UInt8) : Pen := (l.find? fun x => decide (x.u.name = s)).getD default
def dueOf (G : List UInt8 → Int) (p : Pen) : Due := ⟨p.tick + 40, p.u.cls, G p.u.name, p.u.name⟩
def dues (G : List UInt8 → Int) (l : List Pen) : List Due := ((frs l).filter synP).map (dueOf G)
def pickS (G : List UInt8 → Int) (l : List Pen) (n : Int) : List Pen := ((HP.srt lessS (dues G l)).take n.toNat).map fun d => fnd l d.name

theorem snocInd {α : Type} {C : List α → Prop} (nil : C []) (snoc : ∀ l x, C l → C (l ++ [x])) (l : List α) : C l := by
  have : ∀ m : List α, C m.reverse := fun m => by
    induction m with
    | nil => exact nil
    | cons x m ih => rw [List.reverse_cons]; exact snoc _ _ ih
  have h := this l.reverse
  rwa [List.reverse_reverse] at h
theorem cntN_snoc (l : List Pen) (x : Pen) (s : List UInt8) : cntN (l ++ [x]) s = cntN l s + if x.u.name = s then 1 else 0 := by
  unfold cntN
  rw [List.filter_append, List.length_append]
  by_cases h : x.u.name = s
  · rw [if_pos h, List.filter_cons_of_pos (by simpa using h)]; simp
  · rw [if_neg h, List.filter_cons_of_neg (by simpa using h)]; simp
theorem cntN_le (l : List Pen) (s : List UInt8) : cntN l s ≤ l.length := List.length_filter_le _ _
theorem frs_snoc (l : List Pen) (x : Pen) : frs (l ++ [x]) = if x.u.name ∈ (frs l).map (·.u.name) then frs l else frs l ++ [x] := by
  unfold frs
  rw [List.foldl_append]
  rfl
theorem frs_names (l : List Pen) (s : List UInt8) : s ∈ (frs l).map (·.u.name) ↔ s ∈ l.map (·.u.name) := by
  induction l using snocInd with
  | nil => exact Iff.rfl
  | snoc l x ih =>
    rw [frs_snoc]
    by_cases h : x.u.name ∈ (frs l).map (·.u.name)
    · rw [if_pos h, ih, List.map_append, List.mem_append]
      refine ⟨.inl, fun k => k.elim id fun k => ?_⟩
      have : s = x.u.name := by simpa using k
      subst this
      exact ih.1 h
    · rw [if_neg h, List.map_append, List.map_append, List.mem_append, List.mem_append, ih]
end VX
