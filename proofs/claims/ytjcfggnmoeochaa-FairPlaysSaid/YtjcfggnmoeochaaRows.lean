/-
  No cell of these rows narrows 'for every input' (looked for: loops, veiled, ifaces, maps, wideKeys, modest, calm, conditions, laid).
  DERIVED. THE GIVEN ROWS OF THIS SEAT. 2 by the template 'for every input the law returns true; each argument reads behind the call as it read before'; 0 by the template 'total and deterministic' (their statements: YtjcfggnmoeochaaTotals.lean).
  GIVEN WITH THE SEED: the statements are not yours to turn. If you find one false, say at which input.
  Laid BY PROGRAM, IN A SANDBOX (cutbox-rows.mjs): the forced cells as the released guide's own fill.sh prints them over the translation 750ed2437f93098f… (all of the seat's roots in one cut). By AI agents, Wed Nov 11 2026. No macro, syntax, notation, axiom, sorry.
-/
import Derived.Test.YtjcfggnmoeochaaChecked
import GoSem.Claim
import GoSem.ClaimJoined
import GoSem.ClaimMapViews
import Derived.JoinedTies
import Derived.KernelRfl
namespace Go.Proofs.Ytjcfggnmoeochaa
/- THE CELL 'sum', in the pinned program and in every row, IS THE sha256 OF THE DUMP (.gsa) THAT YtjcfggnmoeochaaProg.lean LOADS. Nothing in Lean hashes anything: it is a label: what it is worth is what the hold of that sum in a sandbox is worth. -/
noncomputable def Try.pinned : Pinned := { name := "ytjcfggnmoeochaa", sum := "750ed2437f93098f6ed723d9bdd7974c37a4faf3751d7cfe54fc8d733017e117", checked := Try.checked }
namespace Rows
def none {H : Type} : Left H := { results := [], args := [] }

/-- 'postmarklaw19.FairPlays': WHATEVER THE INPUT: true; the input reads as it did. -/
def fairPlaysSpec : ChangeSpec := { name := "fairPlays", fn := fun _ => fun
  | [d1, d2] => { results := [.lit (.bool true)], args := [d1, d2] }
  | _ => none }
def fairPlaysRow : OpenClaim := { program := "ytjcfggnmoeochaa", sum := "750ed2437f93098f6ed723d9bdd7974c37a4faf3751d7cfe54fc8d733017e117", func := "postmark/postmarklaw19.FairPlays", spec := "fairPlays", unfollowed := true, recurses := true, apart := false }
def FairPlaysSaid : Prop := fairPlaysRow.holds Try.pinned (OpenSpec.ofChange fairPlaysSpec)

/-- ITS FALSE NEIGHBOUR: 'it returns false'. Refute it at one input. -/
def fairPlaysWrong : ChangeSpec := { name := "fairPlays", fn := fun _ => fun
  | [d1, d2] => { results := [.lit (.bool false)], args := [d1, d2] }
  | _ => none }
def FairPlaysWrongFalsely : Prop := fairPlaysRow.holds Try.pinned (OpenSpec.ofChange fairPlaysWrong)

/-- 'postmarklaw19.FairTurns': WHATEVER THE INPUT: true; the input reads as it did. -/
def fairTurnsSpec : ChangeSpec := { name := "fairTurns", fn := fun _ => fun
  | [d1, d2] => { results := [.lit (.bool true)], args := [d1, d2] }
  | _ => none }
def fairTurnsRow : OpenClaim := { program := "ytjcfggnmoeochaa", sum := "750ed2437f93098f6ed723d9bdd7974c37a4faf3751d7cfe54fc8d733017e117", func := "postmark/postmarklaw19.FairTurns", spec := "fairTurns", unfollowed := true, recurses := true, apart := false }
def FairTurnsSaid : Prop := fairTurnsRow.holds Try.pinned (OpenSpec.ofChange fairTurnsSpec)

/-- ITS FALSE NEIGHBOUR: 'it returns false'. Refute it at one input. -/
def fairTurnsWrong : ChangeSpec := { name := "fairTurns", fn := fun _ => fun
  | [d1, d2] => { results := [.lit (.bool false)], args := [d1, d2] }
  | _ => none }
def FairTurnsWrongFalsely : Prop := fairTurnsRow.holds Try.pinned (OpenSpec.ofChange fairTurnsWrong)

/- THE SECOND FORM. 'bulk': how many values and letters a reading holds, each counted each time it is reached (what is shared counts as often as it is met; a slice's spare places count too). A statement '..UptoSaid' is the law's where the arguments, and the package variables that the reading takes, are together of bulk at most 1048576: NARROWER than '..Said'. Prove '..Said' where nothing that the law and all that it calls make is longer than what came in: it says more and counts as full. Else prove '..UptoSaid'. A law counts once. -/
mutual
def uptoBulk {H : Type} : DataW H → Nat
  | .lit (.string bytes) => bytes.length + 1
  | .lit _ => 1
  | .nil => 1
  | .ptr d => uptoBulk d + 1
  | .slice elems spare => uptoBulkAll elems + uptoBulkAll spare + 1
  | .agg parts => uptoBulkAll parts + 1
  | .iface _ d => uptoBulk d + 1
  | .map entries => uptoBulkEntries entries + 1
  | .held _ => 1
def uptoBulkAll {H : Type} : List (DataW H) → Nat
  | [] => 0
  | d :: r => uptoBulk d + uptoBulkAll r
def uptoBulkEntries {H : Type} : List (Lit × DataW H) → Nat
  | [] => 0
  | x :: r => uptoBulkEntry x + uptoBulkEntries r
def uptoBulkEntry {H : Type} : Lit × DataW H → Nat
  | (.string bytes, d) => bytes.length + uptoBulk d + 1
  | (_, d) => uptoBulk d + 1
 end
def uptoSmall : (H : Type) → List (DataW H) → Bool := fun _ ds => decide (uptoBulkAll ds ≤ 1048576)
def OpenSpec.upto (s : _root_.Go.ChangeSpec) : _root_.Go.OpenSpec := { _root_.Go.OpenSpec.ofChange s with cond := some uptoSmall }

/-- 'postmarklaw19.FairPlays', WHERE WHAT IT READS IS OF BULK AT MOST 1048576: true; the input reads as it did. -/
def fairPlaysUptoRow : OpenClaim := { program := "ytjcfggnmoeochaa", sum := "750ed2437f93098f6ed723d9bdd7974c37a4faf3751d7cfe54fc8d733017e117", func := "postmark/postmarklaw19.FairPlays", spec := "fairPlays", unfollowed := true, recurses := true, apart := false, narrowed := true }
def FairPlaysUptoSaid : Prop := fairPlaysUptoRow.holds Try.pinned (OpenSpec.upto fairPlaysSpec)

/-- 'postmarklaw19.FairTurns', WHERE WHAT IT READS IS OF BULK AT MOST 1048576: true; the input reads as it did. -/
def fairTurnsUptoRow : OpenClaim := { program := "ytjcfggnmoeochaa", sum := "750ed2437f93098f6ed723d9bdd7974c37a4faf3751d7cfe54fc8d733017e117", func := "postmark/postmarklaw19.FairTurns", spec := "fairTurns", unfollowed := true, recurses := true, apart := false, narrowed := true }
def FairTurnsUptoSaid : Prop := fairTurnsUptoRow.holds Try.pinned (OpenSpec.upto fairTurnsSpec)

end Rows
end Go.Proofs.Ytjcfggnmoeochaa
