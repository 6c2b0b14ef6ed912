/-
  No cell of these rows narrows 'for every input' (looked for: loops, veiled, ifaces, maps, wideKeys, modest, calm, conditions, laid).
  DERIVED. THE GIVEN ROWS OF THIS SEAT. 4 by the template 'for every input the law returns true; each argument reads behind the call as it read before'; 0 by the template 'total and deterministic' (their statements: YtfmoafpnhndinaaTotals.lean).
  GIVEN WITH THE SEED: the statements are not yours to turn. If you find one false, say at which input.
  Laid BY PROGRAM, IN A SANDBOX (cutbox-rows.mjs): the forced cells as the released guide's own fill.sh prints them over the translation edefc6e3fc4cba92… (all of the seat's roots in one cut). By AI agents, Wed Nov 11 2026. No macro, syntax, notation, axiom, sorry.
-/
import Derived.Test.YtfmoafpnhndinaaChecked
import GoSem.Claim
import GoSem.ClaimJoined
import GoSem.ClaimMapViews
import Derived.JoinedTies
import Derived.KernelRfl
namespace Go.Proofs.Ytfmoafpnhndinaa
/- THE CELL 'sum', in the pinned program and in every row, IS THE sha256 OF THE DUMP (.gsa) THAT YtfmoafpnhndinaaProg.lean LOADS. Nothing in Lean hashes anything: it is a label: what it is worth is what the hold of that sum in a sandbox is worth. -/
noncomputable def Try.pinned : Pinned := { name := "ytfmoafpnhndinaa", sum := "edefc6e3fc4cba9208723e1a151c3989a8585a10ab1a5d52c09dff90df9b6cc5", checked := Try.checked }
namespace Rows
def none {H : Type} : Left H := { results := [], args := [] }

/-- 'postmarklaw22.CutTells': WHATEVER THE INPUT: true; the input reads as it did. -/
def cutTellsSpec : ChangeSpec := { name := "cutTells", fn := fun _ => fun
  | [d1, d2, d3, d4, d5, d6, d7] => { results := [.lit (.bool true)], args := [d1, d2, d3, d4, d5, d6, d7] }
  | _ => none }
def cutTellsRow : OpenClaim := { program := "ytfmoafpnhndinaa", sum := "edefc6e3fc4cba9208723e1a151c3989a8585a10ab1a5d52c09dff90df9b6cc5", func := "postmark/postmarklaw22.CutTells", spec := "cutTells", apart := false }
def CutTellsSaid : Prop := cutTellsRow.holds Try.pinned (OpenSpec.ofChange cutTellsSpec)

/-- ITS FALSE NEIGHBOUR: 'it returns false'. Refute it at one input. -/
def cutTellsWrong : ChangeSpec := { name := "cutTells", fn := fun _ => fun
  | [d1, d2, d3, d4, d5, d6, d7] => { results := [.lit (.bool false)], args := [d1, d2, d3, d4, d5, d6, d7] }
  | _ => none }
def CutTellsWrongFalsely : Prop := cutTellsRow.holds Try.pinned (OpenSpec.ofChange cutTellsWrong)

/-- 'postmarklaw22.CutBound': WHATEVER THE INPUT: true; the input reads as it did. -/
def cutBoundSpec : ChangeSpec := { name := "cutBound", fn := fun _ => fun
  | [d] => { results := [.lit (.bool true)], args := [d] }
  | _ => none }
def cutBoundRow : OpenClaim := { program := "ytfmoafpnhndinaa", sum := "edefc6e3fc4cba9208723e1a151c3989a8585a10ab1a5d52c09dff90df9b6cc5", func := "postmark/postmarklaw22.CutBound", spec := "cutBound", apart := false }
def CutBoundSaid : Prop := cutBoundRow.holds Try.pinned (OpenSpec.ofChange cutBoundSpec)

/-- ITS FALSE NEIGHBOUR: 'it returns false'. Refute it at one input. -/
def cutBoundWrong : ChangeSpec := { name := "cutBound", fn := fun _ => fun
  | [d] => { results := [.lit (.bool false)], args := [d] }
  | _ => none }
def CutBoundWrongFalsely : Prop := cutBoundRow.holds Try.pinned (OpenSpec.ofChange cutBoundWrong)

/-- 'postmarklaw22.CutKinds': WHATEVER THE INPUT: true; the input reads as it did. -/
def cutKindsSpec : ChangeSpec := { name := "cutKinds", fn := fun _ => fun
  | [d1, d2, d3, d4] => { results := [.lit (.bool true)], args := [d1, d2, d3, d4] }
  | _ => none }
def cutKindsRow : OpenClaim := { program := "ytfmoafpnhndinaa", sum := "edefc6e3fc4cba9208723e1a151c3989a8585a10ab1a5d52c09dff90df9b6cc5", func := "postmark/postmarklaw22.CutKinds", spec := "cutKinds", apart := false }
def CutKindsSaid : Prop := cutKindsRow.holds Try.pinned (OpenSpec.ofChange cutKindsSpec)

/-- ITS FALSE NEIGHBOUR: 'it returns false'. Refute it at one input. -/
def cutKindsWrong : ChangeSpec := { name := "cutKinds", fn := fun _ => fun
  | [d1, d2, d3, d4] => { results := [.lit (.bool false)], args := [d1, d2, d3, d4] }
  | _ => none }
def CutKindsWrongFalsely : Prop := cutKindsRow.holds Try.pinned (OpenSpec.ofChange cutKindsWrong)

/-- 'postmarklaw22.CutRounds': WHATEVER THE INPUT: true; the input reads as it did. -/
def cutRoundsSpec : ChangeSpec := { name := "cutRounds", fn := fun _ => fun
  | [d1, d2, d3, d4] => { results := [.lit (.bool true)], args := [d1, d2, d3, d4] }
  | _ => none }
def cutRoundsRow : OpenClaim := { program := "ytfmoafpnhndinaa", sum := "edefc6e3fc4cba9208723e1a151c3989a8585a10ab1a5d52c09dff90df9b6cc5", func := "postmark/postmarklaw22.CutRounds", spec := "cutRounds", apart := false }
def CutRoundsSaid : Prop := cutRoundsRow.holds Try.pinned (OpenSpec.ofChange cutRoundsSpec)

/-- ITS FALSE NEIGHBOUR: 'it returns false'. Refute it at one input. -/
def cutRoundsWrong : ChangeSpec := { name := "cutRounds", fn := fun _ => fun
  | [d1, d2, d3, d4] => { results := [.lit (.bool false)], args := [d1, d2, d3, d4] }
  | _ => none }
def CutRoundsWrongFalsely : Prop := cutRoundsRow.holds Try.pinned (OpenSpec.ofChange cutRoundsWrong)

/- THE SECOND FORM. 'bulk': how many values and letters a reading holds, each counted each time it is reached (what is shared counts as often as it is met; a slice's spare places count too). A statement '..UptoSaid' is the law's where the arguments, and the package variables that the reading takes, are together of bulk at most 1048576: NARROWER than '..Said'. Prove '..Said' where nothing that the law and all that it calls make is longer than what came in: it says more and counts as full. Else prove '..UptoSaid'. A law counts once. -/
mutual
def uptoBulk {H : Type} : DataW H → Nat
  | .lit (.string bytes) => bytes.length + 1
  | .lit _ => 1
  | .nil => 1
  | .ptr d => uptoBulk d + 1
  | .slice elems spare => uptoBulkAll elems + uptoBulkAll spare + 1
  | .agg parts => uptoBulkAll parts + 1
  | .iface _ d => uptoBulk d + 1
  | .map entries => uptoBulkEntries entries + 1
  | .held _ => 1
def uptoBulkAll {H : Type} : List (DataW H) → Nat
  | [] => 0
  | d :: r => uptoBulk d + uptoBulkAll r
def uptoBulkEntries {H : Type} : List (Lit × DataW H) → Nat
  | [] => 0
  | x :: r => uptoBulkEntry x + uptoBulkEntries r
def uptoBulkEntry {H : Type} : Lit × DataW H → Nat
  | (.string bytes, d) => bytes.length + uptoBulk d + 1
  | (_, d) => uptoBulk d + 1
 end
def uptoSmall : (H : Type) → List (DataW H) → Bool := fun _ ds => decide (uptoBulkAll ds ≤ 1048576)
def OpenSpec.upto (s : _root_.Go.ChangeSpec) : _root_.Go.OpenSpec := { _root_.Go.OpenSpec.ofChange s with cond := some uptoSmall }

/-- 'postmarklaw22.CutTells', WHERE WHAT IT READS IS OF BULK AT MOST 1048576: true; the input reads as it did. -/
def cutTellsUptoRow : OpenClaim := { program := "ytfmoafpnhndinaa", sum := "edefc6e3fc4cba9208723e1a151c3989a8585a10ab1a5d52c09dff90df9b6cc5", func := "postmark/postmarklaw22.CutTells", spec := "cutTells", apart := false, narrowed := true }
def CutTellsUptoSaid : Prop := cutTellsUptoRow.holds Try.pinned (OpenSpec.upto cutTellsSpec)

/-- 'postmarklaw22.CutBound', WHERE WHAT IT READS IS OF BULK AT MOST 1048576: true; the input reads as it did. -/
def cutBoundUptoRow : OpenClaim := { program := "ytfmoafpnhndinaa", sum := "edefc6e3fc4cba9208723e1a151c3989a8585a10ab1a5d52c09dff90df9b6cc5", func := "postmark/postmarklaw22.CutBound", spec := "cutBound", apart := false, narrowed := true }
def CutBoundUptoSaid : Prop := cutBoundUptoRow.holds Try.pinned (OpenSpec.upto cutBoundSpec)

/-- 'postmarklaw22.CutKinds', WHERE WHAT IT READS IS OF BULK AT MOST 1048576: true; the input reads as it did. -/
def cutKindsUptoRow : OpenClaim := { program := "ytfmoafpnhndinaa", sum := "edefc6e3fc4cba9208723e1a151c3989a8585a10ab1a5d52c09dff90df9b6cc5", func := "postmark/postmarklaw22.CutKinds", spec := "cutKinds", apart := false, narrowed := true }
def CutKindsUptoSaid : Prop := cutKindsUptoRow.holds Try.pinned (OpenSpec.upto cutKindsSpec)

/-- 'postmarklaw22.CutRounds', WHERE WHAT IT READS IS OF BULK AT MOST 1048576: true; the input reads as it did. -/
def cutRoundsUptoRow : OpenClaim := { program := "ytfmoafpnhndinaa", sum := "edefc6e3fc4cba9208723e1a151c3989a8585a10ab1a5d52c09dff90df9b6cc5", func := "postmark/postmarklaw22.CutRounds", spec := "cutRounds", apart := false, narrowed := true }
def CutRoundsUptoSaid : Prop := cutRoundsUptoRow.holds Try.pinned (OpenSpec.upto cutRoundsSpec)

end Rows
end Go.Proofs.Ytfmoafpnhndinaa
