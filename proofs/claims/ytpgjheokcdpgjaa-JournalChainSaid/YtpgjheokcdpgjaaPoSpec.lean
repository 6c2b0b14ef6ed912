/- A pool of requests that wait: what its operations come to, in plain Lean. -/
import Derived.Test.YtpgjheokcdpgjaaOrdL
import Derived.Test.YtpgjheokcdpgjaaLsL
import Derived.Test.YtpgjheokcdpgjaaInsL
set_option linter.unusedSimpArgs false
set_option linter.unusedVariables false
namespace VX
open Go

structure Upd where
  name : List UInt8
  ver : Int
  key : Int
  cls : Int
  r : Int
  s : Int
  deriving DecidableEq, Inhabited
structure Pen where
  u : Upd
  tick : Int
  seq : Int
  syn : Bool
  deriving DecidableEq, Inhabited
abbrev updA (u : Upd) : A := .agg [.str u.name, .int .i64 u.ver, .int .u64 u.key, .int .i64 u.cls, .agg [.int .u64 u.r, .int .u64 u.s]]
abbrev penA (p : Pen) : A := .agg [updA p.u, .int .i64 p.tick, .int .i64 p.seq, .bool p.syn]

def setSyn (p : Pen) : Pen := { p with syn := true }
def syncL (l : List Pen) : List Pen := l.map setSyn
def syncO (l : List Pen) : List Pen := (l.filter fun x => !x.syn).map setSyn
def isP (s : List UInt8) (v : Int) (p : Pen) : Bool := !(decide (p.u.name = s) && decide (p.u.ver = v))
def idxP (l : List Pen) (s : List UInt8) (v : Int) : Int := idxS (isP s v) l 0
theorem snocInd {α : Type} {C : List α → Prop} (nil : C []) (snoc : ∀ l x, C l → C (l ++ [x])) (l : List α) : C l := by
  have : ∀ m : List α, C m.reverse := fun m => by
    induction m with
    | nil => exact nil
    | cons x m ih => rw [List.reverse_cons]; exact snoc _ _ ih
  have h := this l.reverse
  rwa [List.reverse_reverse] at h
end VX
