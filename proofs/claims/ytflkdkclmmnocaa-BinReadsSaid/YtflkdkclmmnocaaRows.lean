/-
  No cell of these rows narrows 'for every input' (looked for: loops, veiled, ifaces, maps, wideKeys, modest, calm, conditions, laid).
  DERIVED. THE GIVEN ROWS OF THIS SEAT. 4 by the template 'for every input the law returns true; each argument reads behind the call as it read before'; 0 by the template 'total and deterministic' (their statements: YtflkdkclmmnocaaTotals.lean).
  GIVEN WITH THE SEED: the statements are not yours to turn. If you find one false, say at which input.
  Laid BY PROGRAM, IN A SANDBOX (cutbox-rows.mjs): the forced cells as the released guide's own fill.sh prints them over the translation ae1df83e32d066e3… (all of the seat's roots in one cut). By AI agents, Wed Nov 11 2026. No macro, syntax, notation, axiom, sorry.
-/
import Derived.Test.YtflkdkclmmnocaaChecked
import GoSem.Claim
import GoSem.ClaimJoined
import GoSem.ClaimMapViews
import Derived.JoinedTies
import Derived.KernelRfl
namespace Go.Proofs.Ytflkdkclmmnocaa
/- THE CELL 'sum', in the pinned program and in every row, IS THE sha256 OF THE DUMP (.gsa) THAT YtflkdkclmmnocaaProg.lean LOADS. Nothing in Lean hashes anything: it is a label: what it is worth is what the hold of that sum in a sandbox is worth. -/
noncomputable def Try.pinned : Pinned := { name := "ytflkdkclmmnocaa", sum := "ae1df83e32d066e3cb898d23c8b1613da5e48f683632b16afa39588b7bbbd13a", checked := Try.checked }
namespace Rows
def none {H : Type} : Left H := { results := [], args := [] }

/-- 'postmarklaw1.BinReads': WHATEVER THE INPUT: true; the input reads as it did. -/
def binReadsSpec : ChangeSpec := { name := "binReads", fn := fun _ => fun
  | [d1, d2, d3, d4] => { results := [.lit (.bool true)], args := [d1, d2, d3, d4] }
  | _ => none }
def binReadsRow : OpenClaim := { program := "ytflkdkclmmnocaa", sum := "ae1df83e32d066e3cb898d23c8b1613da5e48f683632b16afa39588b7bbbd13a", func := "postmark/postmarklaw1.BinReads", spec := "binReads", apart := false }
def BinReadsSaid : Prop := binReadsRow.holds Try.pinned (OpenSpec.ofChange binReadsSpec)

/-- ITS FALSE NEIGHBOUR: 'it returns false'. Refute it at one input. -/
def binReadsWrong : ChangeSpec := { name := "binReads", fn := fun _ => fun
  | [d1, d2, d3, d4] => { results := [.lit (.bool false)], args := [d1, d2, d3, d4] }
  | _ => none }
def BinReadsWrongFalsely : Prop := binReadsRow.holds Try.pinned (OpenSpec.ofChange binReadsWrong)

/-- 'postmarklaw1.BinBack': WHATEVER THE INPUT: true; the input reads as it did. -/
def binBackSpec : ChangeSpec := { name := "binBack", fn := fun _ => fun
  | [d1, d2] => { results := [.lit (.bool true)], args := [d1, d2] }
  | _ => none }
def binBackRow : OpenClaim := { program := "ytflkdkclmmnocaa", sum := "ae1df83e32d066e3cb898d23c8b1613da5e48f683632b16afa39588b7bbbd13a", func := "postmark/postmarklaw1.BinBack", spec := "binBack", apart := false }
def BinBackSaid : Prop := binBackRow.holds Try.pinned (OpenSpec.ofChange binBackSpec)

/-- ITS FALSE NEIGHBOUR: 'it returns false'. Refute it at one input. -/
def binBackWrong : ChangeSpec := { name := "binBack", fn := fun _ => fun
  | [d1, d2] => { results := [.lit (.bool false)], args := [d1, d2] }
  | _ => none }
def BinBackWrongFalsely : Prop := binBackRow.holds Try.pinned (OpenSpec.ofChange binBackWrong)

/-- 'postmarklaw1.BinEnds': WHATEVER THE INPUT: true; the input reads as it did. -/
def binEndsSpec : ChangeSpec := { name := "binEnds", fn := fun _ => fun
  | [d1, d2, d3] => { results := [.lit (.bool true)], args := [d1, d2, d3] }
  | _ => none }
def binEndsRow : OpenClaim := { program := "ytflkdkclmmnocaa", sum := "ae1df83e32d066e3cb898d23c8b1613da5e48f683632b16afa39588b7bbbd13a", func := "postmark/postmarklaw1.BinEnds", spec := "binEnds", apart := false }
def BinEndsSaid : Prop := binEndsRow.holds Try.pinned (OpenSpec.ofChange binEndsSpec)

/-- ITS FALSE NEIGHBOUR: 'it returns false'. Refute it at one input. -/
def binEndsWrong : ChangeSpec := { name := "binEnds", fn := fun _ => fun
  | [d1, d2, d3] => { results := [.lit (.bool false)], args := [d1, d2, d3] }
  | _ => none }
def BinEndsWrongFalsely : Prop := binEndsRow.holds Try.pinned (OpenSpec.ofChange binEndsWrong)

/-- 'postmarklaw1.BinParts': WHATEVER THE INPUT: true; the input reads as it did. -/
def binPartsSpec : ChangeSpec := { name := "binParts", fn := fun _ => fun
  | [d1, d2] => { results := [.lit (.bool true)], args := [d1, d2] }
  | _ => none }
def binPartsRow : OpenClaim := { program := "ytflkdkclmmnocaa", sum := "ae1df83e32d066e3cb898d23c8b1613da5e48f683632b16afa39588b7bbbd13a", func := "postmark/postmarklaw1.BinParts", spec := "binParts", apart := false }
def BinPartsSaid : Prop := binPartsRow.holds Try.pinned (OpenSpec.ofChange binPartsSpec)

/-- ITS FALSE NEIGHBOUR: 'it returns false'. Refute it at one input. -/
def binPartsWrong : ChangeSpec := { name := "binParts", fn := fun _ => fun
  | [d1, d2] => { results := [.lit (.bool false)], args := [d1, d2] }
  | _ => none }
def BinPartsWrongFalsely : Prop := binPartsRow.holds Try.pinned (OpenSpec.ofChange binPartsWrong)

/- THE SECOND FORM. 'bulk': how many values and letters a reading holds, each counted each time it is reached (what is shared counts as often as it is met; a slice's spare places count too). A statement '..UptoSaid' is the law's where the arguments, and the package variables that the reading takes, are together of bulk at most 1048576: NARROWER than '..Said'. Prove '..Said' where nothing that the law and all that it calls make is longer than what came in: it says more and counts as full. Else prove '..UptoSaid'. A law counts once. -/
mutual
def uptoBulk {H : Type} : DataW H → Nat
  | .lit (.string bytes) => bytes.length + 1
  | .lit _ => 1
  | .nil => 1
  | .ptr d => uptoBulk d + 1
  | .slice elems spare => uptoBulkAll elems + uptoBulkAll spare + 1
  | .agg parts => uptoBulkAll parts + 1
  | .iface _ d => uptoBulk d + 1
  | .map entries => uptoBulkEntries entries + 1
  | .held _ => 1
def uptoBulkAll {H : Type} : List (DataW H) → Nat
  | [] => 0
  | d :: r => uptoBulk d + uptoBulkAll r
def uptoBulkEntries {H : Type} : List (Lit × DataW H) → Nat
  | [] => 0
  | x :: r => uptoBulkEntry x + uptoBulkEntries r
def uptoBulkEntry {H : Type} : Lit × DataW H → Nat
  | (.string bytes, d) => bytes.length + uptoBulk d + 1
  | (_, d) => uptoBulk d + 1
 end
def uptoSmall : (H : Type) → List (DataW H) → Bool := fun _ ds => decide (uptoBulkAll ds ≤ 1048576)
def OpenSpec.upto (s : _root_.Go.ChangeSpec) : _root_.Go.OpenSpec := { _root_.Go.OpenSpec.ofChange s with cond := some uptoSmall }

/-- 'postmarklaw1.BinReads', WHERE WHAT IT READS IS OF BULK AT MOST 1048576: true; the input reads as it did. -/
def binReadsUptoRow : OpenClaim := { program := "ytflkdkclmmnocaa", sum := "ae1df83e32d066e3cb898d23c8b1613da5e48f683632b16afa39588b7bbbd13a", func := "postmark/postmarklaw1.BinReads", spec := "binReads", apart := false, narrowed := true }
def BinReadsUptoSaid : Prop := binReadsUptoRow.holds Try.pinned (OpenSpec.upto binReadsSpec)

/-- 'postmarklaw1.BinBack', WHERE WHAT IT READS IS OF BULK AT MOST 1048576: true; the input reads as it did. -/
def binBackUptoRow : OpenClaim := { program := "ytflkdkclmmnocaa", sum := "ae1df83e32d066e3cb898d23c8b1613da5e48f683632b16afa39588b7bbbd13a", func := "postmark/postmarklaw1.BinBack", spec := "binBack", apart := false, narrowed := true }
def BinBackUptoSaid : Prop := binBackUptoRow.holds Try.pinned (OpenSpec.upto binBackSpec)

/-- 'postmarklaw1.BinEnds', WHERE WHAT IT READS IS OF BULK AT MOST 1048576: true; the input reads as it did. -/
def binEndsUptoRow : OpenClaim := { program := "ytflkdkclmmnocaa", sum := "ae1df83e32d066e3cb898d23c8b1613da5e48f683632b16afa39588b7bbbd13a", func := "postmark/postmarklaw1.BinEnds", spec := "binEnds", apart := false, narrowed := true }
def BinEndsUptoSaid : Prop := binEndsUptoRow.holds Try.pinned (OpenSpec.upto binEndsSpec)

/-- 'postmarklaw1.BinParts', WHERE WHAT IT READS IS OF BULK AT MOST 1048576: true; the input reads as it did. -/
def binPartsUptoRow : OpenClaim := { program := "ytflkdkclmmnocaa", sum := "ae1df83e32d066e3cb898d23c8b1613da5e48f683632b16afa39588b7bbbd13a", func := "postmark/postmarklaw1.BinParts", spec := "binParts", apart := false, narrowed := true }
def BinPartsUptoSaid : Prop := binPartsUptoRow.holds Try.pinned (OpenSpec.upto binPartsSpec)

end Rows
end Go.Proofs.Ytflkdkclmmnocaa
