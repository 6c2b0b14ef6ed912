/-
  No cell of these rows narrows 'for every input' (looked for: loops, veiled, ifaces, maps, wideKeys, modest, calm, conditions, laid).
  DERIVED. THE GIVEN ROWS OF THIS SEAT. 4 by the template 'for every input the law returns true; each argument reads behind the call as it read before'; 0 by the template 'total and deterministic' (their statements: YtbogdiogmfgobaaTotals.lean).
  GIVEN WITH THE SEED: the statements are not yours to turn. If you find one false, say at which input.
  Laid BY PROGRAM, IN A SANDBOX (cutbox-rows.mjs): the forced cells as the released guide's own fill.sh prints them over the translation b04d251702936145… (all of the seat's roots in one cut). By AI agents, Wed Nov 11 2026. No macro, syntax, notation, axiom, sorry.
-/
import Derived.Test.YtbogdiogmfgobaaChecked
import GoSem.Claim
import GoSem.ClaimJoined
import GoSem.ClaimMapViews
import Derived.JoinedTies
import Derived.KernelRfl
namespace Go.Proofs.Ytbogdiogmfgobaa
/- THE CELL 'sum', in the pinned program and in every row, IS THE sha256 OF THE DUMP (.gsa) THAT YtbogdiogmfgobaaProg.lean LOADS. Nothing in Lean hashes anything: it is a label: what it is worth is what the hold of that sum in a sandbox is worth. -/
noncomputable def Try.pinned : Pinned := { name := "ytbogdiogmfgobaa", sum := "b04d251702936145f7556b8922d63bdfcad4db06bf68187759381cc1a4f4a469", checked := Try.checked }
namespace Rows
def none {H : Type} : Left H := { results := [], args := [] }

/-- 'postmarklaw8.LogTells': WHATEVER THE INPUT: true; the input reads as it did. -/
def logTellsSpec : ChangeSpec := { name := "logTells", fn := fun _ => fun
  | [d1, d2, d3, d4, d5, d6, d7, d8] => { results := [.lit (.bool true)], args := [d1, d2, d3, d4, d5, d6, d7, d8] }
  | _ => none }
def logTellsRow : OpenClaim := { program := "ytbogdiogmfgobaa", sum := "b04d251702936145f7556b8922d63bdfcad4db06bf68187759381cc1a4f4a469", func := "postmark/postmarklaw8.LogTells", spec := "logTells", recurses := true, apart := false }
def LogTellsSaid : Prop := logTellsRow.holds Try.pinned (OpenSpec.ofChange logTellsSpec)

/-- ITS FALSE NEIGHBOUR: 'it returns false'. Refute it at one input. -/
def logTellsWrong : ChangeSpec := { name := "logTells", fn := fun _ => fun
  | [d1, d2, d3, d4, d5, d6, d7, d8] => { results := [.lit (.bool false)], args := [d1, d2, d3, d4, d5, d6, d7, d8] }
  | _ => none }
def LogTellsWrongFalsely : Prop := logTellsRow.holds Try.pinned (OpenSpec.ofChange logTellsWrong)

/-- 'postmarklaw8.LogPaths': WHATEVER THE INPUT: true; the input reads as it did. -/
def logPathsSpec : ChangeSpec := { name := "logPaths", fn := fun _ => fun
  | [d1, d2] => { results := [.lit (.bool true)], args := [d1, d2] }
  | _ => none }
def logPathsRow : OpenClaim := { program := "ytbogdiogmfgobaa", sum := "b04d251702936145f7556b8922d63bdfcad4db06bf68187759381cc1a4f4a469", func := "postmark/postmarklaw8.LogPaths", spec := "logPaths", recurses := true, apart := false }
def LogPathsSaid : Prop := logPathsRow.holds Try.pinned (OpenSpec.ofChange logPathsSpec)

/-- ITS FALSE NEIGHBOUR: 'it returns false'. Refute it at one input. -/
def logPathsWrong : ChangeSpec := { name := "logPaths", fn := fun _ => fun
  | [d1, d2] => { results := [.lit (.bool false)], args := [d1, d2] }
  | _ => none }
def LogPathsWrongFalsely : Prop := logPathsRow.holds Try.pinned (OpenSpec.ofChange logPathsWrong)

/-- 'postmarklaw8.LogSplits': WHATEVER THE INPUT: true; the input reads as it did. -/
def logSplitsSpec : ChangeSpec := { name := "logSplits", fn := fun _ => fun
  | [d] => { results := [.lit (.bool true)], args := [d] }
  | _ => none }
def logSplitsRow : OpenClaim := { program := "ytbogdiogmfgobaa", sum := "b04d251702936145f7556b8922d63bdfcad4db06bf68187759381cc1a4f4a469", func := "postmark/postmarklaw8.LogSplits", spec := "logSplits", recurses := true, apart := false }
def LogSplitsSaid : Prop := logSplitsRow.holds Try.pinned (OpenSpec.ofChange logSplitsSpec)

/-- ITS FALSE NEIGHBOUR: 'it returns false'. Refute it at one input. -/
def logSplitsWrong : ChangeSpec := { name := "logSplits", fn := fun _ => fun
  | [d] => { results := [.lit (.bool false)], args := [d] }
  | _ => none }
def LogSplitsWrongFalsely : Prop := logSplitsRow.holds Try.pinned (OpenSpec.ofChange logSplitsWrong)

/-- 'postmarklaw8.LogParts': WHATEVER THE INPUT: true; the input reads as it did. -/
def logPartsSpec : ChangeSpec := { name := "logParts", fn := fun _ => fun
  | [d] => { results := [.lit (.bool true)], args := [d] }
  | _ => none }
def logPartsRow : OpenClaim := { program := "ytbogdiogmfgobaa", sum := "b04d251702936145f7556b8922d63bdfcad4db06bf68187759381cc1a4f4a469", func := "postmark/postmarklaw8.LogParts", spec := "logParts", recurses := true, apart := false }
def LogPartsSaid : Prop := logPartsRow.holds Try.pinned (OpenSpec.ofChange logPartsSpec)

/-- ITS FALSE NEIGHBOUR: 'it returns false'. Refute it at one input. -/
def logPartsWrong : ChangeSpec := { name := "logParts", fn := fun _ => fun
  | [d] => { results := [.lit (.bool false)], args := [d] }
  | _ => none }
def LogPartsWrongFalsely : Prop := logPartsRow.holds Try.pinned (OpenSpec.ofChange logPartsWrong)

/- THE SECOND FORM. 'bulk': how many values and letters a reading holds, each counted each time it is reached (what is shared counts as often as it is met; a slice's spare places count too). A statement '..UptoSaid' is the law's where the arguments, and the package variables that the reading takes, are together of bulk at most 1048576: NARROWER than '..Said'. Prove '..Said' where nothing that the law and all that it calls make is longer than what came in: it says more and counts as full. Else prove '..UptoSaid'. A law counts once. -/
mutual
def uptoBulk {H : Type} : DataW H → Nat
  | .lit (.string bytes) => bytes.length + 1
  | .lit _ => 1
  | .nil => 1
  | .ptr d => uptoBulk d + 1
  | .slice elems spare => uptoBulkAll elems + uptoBulkAll spare + 1
  | .agg parts => uptoBulkAll parts + 1
  | .iface _ d => uptoBulk d + 1
  | .map entries => uptoBulkEntries entries + 1
  | .held _ => 1
def uptoBulkAll {H : Type} : List (DataW H) → Nat
  | [] => 0
  | d :: r => uptoBulk d + uptoBulkAll r
def uptoBulkEntries {H : Type} : List (Lit × DataW H) → Nat
  | [] => 0
  | x :: r => uptoBulkEntry x + uptoBulkEntries r
def uptoBulkEntry {H : Type} : Lit × DataW H → Nat
  | (.string bytes, d) => bytes.length + uptoBulk d + 1
  | (_, d) => uptoBulk d + 1
 end
def uptoSmall : (H : Type) → List (DataW H) → Bool := fun _ ds => decide (uptoBulkAll ds ≤ 1048576)
def OpenSpec.upto (s : _root_.Go.ChangeSpec) : _root_.Go.OpenSpec := { _root_.Go.OpenSpec.ofChange s with cond := some uptoSmall }

/-- 'postmarklaw8.LogTells', WHERE WHAT IT READS IS OF BULK AT MOST 1048576: true; the input reads as it did. -/
def logTellsUptoRow : OpenClaim := { program := "ytbogdiogmfgobaa", sum := "b04d251702936145f7556b8922d63bdfcad4db06bf68187759381cc1a4f4a469", func := "postmark/postmarklaw8.LogTells", spec := "logTells", recurses := true, apart := false, narrowed := true }
def LogTellsUptoSaid : Prop := logTellsUptoRow.holds Try.pinned (OpenSpec.upto logTellsSpec)

/-- 'postmarklaw8.LogPaths', WHERE WHAT IT READS IS OF BULK AT MOST 1048576: true; the input reads as it did. -/
def logPathsUptoRow : OpenClaim := { program := "ytbogdiogmfgobaa", sum := "b04d251702936145f7556b8922d63bdfcad4db06bf68187759381cc1a4f4a469", func := "postmark/postmarklaw8.LogPaths", spec := "logPaths", recurses := true, apart := false, narrowed := true }
def LogPathsUptoSaid : Prop := logPathsUptoRow.holds Try.pinned (OpenSpec.upto logPathsSpec)

/-- 'postmarklaw8.LogSplits', WHERE WHAT IT READS IS OF BULK AT MOST 1048576: true; the input reads as it did. -/
def logSplitsUptoRow : OpenClaim := { program := "ytbogdiogmfgobaa", sum := "b04d251702936145f7556b8922d63bdfcad4db06bf68187759381cc1a4f4a469", func := "postmark/postmarklaw8.LogSplits", spec := "logSplits", recurses := true, apart := false, narrowed := true }
def LogSplitsUptoSaid : Prop := logSplitsUptoRow.holds Try.pinned (OpenSpec.upto logSplitsSpec)

/-- 'postmarklaw8.LogParts', WHERE WHAT IT READS IS OF BULK AT MOST 1048576: true; the input reads as it did. -/
def logPartsUptoRow : OpenClaim := { program := "ytbogdiogmfgobaa", sum := "b04d251702936145f7556b8922d63bdfcad4db06bf68187759381cc1a4f4a469", func := "postmark/postmarklaw8.LogParts", spec := "logParts", recurses := true, apart := false, narrowed := true }
def LogPartsUptoSaid : Prop := logPartsUptoRow.holds Try.pinned (OpenSpec.upto logPartsSpec)

end Rows
end Go.Proofs.Ytbogdiogmfgobaa
