/-
  No cell of these rows narrows 'for every input' (looked for: loops, veiled, ifaces, maps, wideKeys, modest, calm, conditions, laid).
  DERIVED. THE GIVEN ROWS OF THIS SEAT. 5 by the template 'for every input the law returns true; each argument reads behind the call as it read before'; 0 by the template 'total and deterministic' (their statements: YtkcloienempifaaTotals.lean).
  GIVEN WITH THE SEED: the statements are not yours to turn. If you find one false, say at which input.
  Laid BY PROGRAM, IN A SANDBOX (cutbox-rows.mjs): the forced cells as the released guide's own fill.sh prints them over the translation 267675d22683c9ef… (all of the seat's roots in one cut). By AI agents, Wed Nov 11 2026. No macro, syntax, notation, axiom, sorry.
-/
import Derived.Test.YtkcloienempifaaChecked
import GoSem.Claim
import GoSem.ClaimJoined
import GoSem.ClaimMapViews
import Derived.JoinedTies
import Derived.KernelRfl
namespace Go.Proofs.Ytkcloienempifaa
/- THE CELL 'sum', in the pinned program and in every row, IS THE sha256 OF THE DUMP (.gsa) THAT YtkcloienempifaaProg.lean LOADS. Nothing in Lean hashes anything: it is a label: what it is worth is what the hold of that sum in a sandbox is worth. -/
noncomputable def Try.pinned : Pinned := { name := "ytkcloienempifaa", sum := "267675d22683c9efb6d527b28819d7084af04c3b4cd0c0c688113b3bd0ac5c66", checked := Try.checked }
namespace Rows
def none {H : Type} : Left H := { results := [], args := [] }

/-- 'postmarklaw2.SpongeTells': WHATEVER THE INPUT: true; the input reads as it did. -/
def spongeTellsSpec : ChangeSpec := { name := "spongeTells", fn := fun _ => fun
  | [d1, d2, d3, d4] => { results := [.lit (.bool true)], args := [d1, d2, d3, d4] }
  | _ => none }
def spongeTellsRow : OpenClaim := { program := "ytkcloienempifaa", sum := "267675d22683c9efb6d527b28819d7084af04c3b4cd0c0c688113b3bd0ac5c66", func := "postmark/postmarklaw2.SpongeTells", spec := "spongeTells", apart := false }
def SpongeTellsSaid : Prop := spongeTellsRow.holds Try.pinned (OpenSpec.ofChange spongeTellsSpec)

/-- ITS FALSE NEIGHBOUR: 'it returns false'. Refute it at one input. -/
def spongeTellsWrong : ChangeSpec := { name := "spongeTells", fn := fun _ => fun
  | [d1, d2, d3, d4] => { results := [.lit (.bool false)], args := [d1, d2, d3, d4] }
  | _ => none }
def SpongeTellsWrongFalsely : Prop := spongeTellsRow.holds Try.pinned (OpenSpec.ofChange spongeTellsWrong)

/-- 'postmarklaw2.SpongeBlocks': WHATEVER THE INPUT: true; the input reads as it did. -/
def spongeBlocksSpec : ChangeSpec := { name := "spongeBlocks", fn := fun _ => fun
  | [d1, d2] => { results := [.lit (.bool true)], args := [d1, d2] }
  | _ => none }
def spongeBlocksRow : OpenClaim := { program := "ytkcloienempifaa", sum := "267675d22683c9efb6d527b28819d7084af04c3b4cd0c0c688113b3bd0ac5c66", func := "postmark/postmarklaw2.SpongeBlocks", spec := "spongeBlocks", apart := false }
def SpongeBlocksSaid : Prop := spongeBlocksRow.holds Try.pinned (OpenSpec.ofChange spongeBlocksSpec)

/-- ITS FALSE NEIGHBOUR: 'it returns false'. Refute it at one input. -/
def spongeBlocksWrong : ChangeSpec := { name := "spongeBlocks", fn := fun _ => fun
  | [d1, d2] => { results := [.lit (.bool false)], args := [d1, d2] }
  | _ => none }
def SpongeBlocksWrongFalsely : Prop := spongeBlocksRow.holds Try.pinned (OpenSpec.ofChange spongeBlocksWrong)

/-- 'postmarklaw2.SpongeTexts': WHATEVER THE INPUT: true; the input reads as it did. -/
def spongeTextsSpec : ChangeSpec := { name := "spongeTexts", fn := fun _ => fun
  | [d1, d2, d3, d4] => { results := [.lit (.bool true)], args := [d1, d2, d3, d4] }
  | _ => none }
def spongeTextsRow : OpenClaim := { program := "ytkcloienempifaa", sum := "267675d22683c9efb6d527b28819d7084af04c3b4cd0c0c688113b3bd0ac5c66", func := "postmark/postmarklaw2.SpongeTexts", spec := "spongeTexts", apart := false }
def SpongeTextsSaid : Prop := spongeTextsRow.holds Try.pinned (OpenSpec.ofChange spongeTextsSpec)

/-- ITS FALSE NEIGHBOUR: 'it returns false'. Refute it at one input. -/
def spongeTextsWrong : ChangeSpec := { name := "spongeTexts", fn := fun _ => fun
  | [d1, d2, d3, d4] => { results := [.lit (.bool false)], args := [d1, d2, d3, d4] }
  | _ => none }
def SpongeTextsWrongFalsely : Prop := spongeTextsRow.holds Try.pinned (OpenSpec.ofChange spongeTextsWrong)

/-- 'postmarklaw2.SpongePerm': WHATEVER THE INPUT: true; the input reads as it did. -/
def spongePermSpec : ChangeSpec := { name := "spongePerm", fn := fun _ => fun
  | [d1, d2, d3, d4] => { results := [.lit (.bool true)], args := [d1, d2, d3, d4] }
  | _ => none }
def spongePermRow : OpenClaim := { program := "ytkcloienempifaa", sum := "267675d22683c9efb6d527b28819d7084af04c3b4cd0c0c688113b3bd0ac5c66", func := "postmark/postmarklaw2.SpongePerm", spec := "spongePerm", apart := false }
def SpongePermSaid : Prop := spongePermRow.holds Try.pinned (OpenSpec.ofChange spongePermSpec)

/-- ITS FALSE NEIGHBOUR: 'it returns false'. Refute it at one input. -/
def spongePermWrong : ChangeSpec := { name := "spongePerm", fn := fun _ => fun
  | [d1, d2, d3, d4] => { results := [.lit (.bool false)], args := [d1, d2, d3, d4] }
  | _ => none }
def SpongePermWrongFalsely : Prop := spongePermRow.holds Try.pinned (OpenSpec.ofChange spongePermWrong)

/-- 'postmarklaw2.SpongePads': WHATEVER THE INPUT: true; the input reads as it did. -/
def spongePadsSpec : ChangeSpec := { name := "spongePads", fn := fun _ => fun
  | [d1, d2] => { results := [.lit (.bool true)], args := [d1, d2] }
  | _ => none }
def spongePadsRow : OpenClaim := { program := "ytkcloienempifaa", sum := "267675d22683c9efb6d527b28819d7084af04c3b4cd0c0c688113b3bd0ac5c66", func := "postmark/postmarklaw2.SpongePads", spec := "spongePads", apart := false }
def SpongePadsSaid : Prop := spongePadsRow.holds Try.pinned (OpenSpec.ofChange spongePadsSpec)

/-- ITS FALSE NEIGHBOUR: 'it returns false'. Refute it at one input. -/
def spongePadsWrong : ChangeSpec := { name := "spongePads", fn := fun _ => fun
  | [d1, d2] => { results := [.lit (.bool false)], args := [d1, d2] }
  | _ => none }
def SpongePadsWrongFalsely : Prop := spongePadsRow.holds Try.pinned (OpenSpec.ofChange spongePadsWrong)

/- THE SECOND FORM. 'bulk': how many values and letters a reading holds, each counted each time it is reached (what is shared counts as often as it is met; a slice's spare places count too). A statement '..UptoSaid' is the law's where the arguments, and the package variables that the reading takes, are together of bulk at most 1048576: NARROWER than '..Said'. Prove '..Said' where nothing that the law and all that it calls make is longer than what came in: it says more and counts as full. Else prove '..UptoSaid'. A law counts once. -/
mutual
def uptoBulk {H : Type} : DataW H → Nat
  | .lit (.string bytes) => bytes.length + 1
  | .lit _ => 1
  | .nil => 1
  | .ptr d => uptoBulk d + 1
  | .slice elems spare => uptoBulkAll elems + uptoBulkAll spare + 1
  | .agg parts => uptoBulkAll parts + 1
  | .iface _ d => uptoBulk d + 1
  | .map entries => uptoBulkEntries entries + 1
  | .held _ => 1
def uptoBulkAll {H : Type} : List (DataW H) → Nat
  | [] => 0
  | d :: r => uptoBulk d + uptoBulkAll r
def uptoBulkEntries {H : Type} : List (Lit × DataW H) → Nat
  | [] => 0
  | x :: r => uptoBulkEntry x + uptoBulkEntries r
def uptoBulkEntry {H : Type} : Lit × DataW H → Nat
  | (.string bytes, d) => bytes.length + uptoBulk d + 1
  | (_, d) => uptoBulk d + 1
 end
def uptoSmall : (H : Type) → List (DataW H) → Bool := fun _ ds => decide (uptoBulkAll ds ≤ 1048576)
def OpenSpec.upto (s : _root_.Go.ChangeSpec) : _root_.Go.OpenSpec := { _root_.Go.OpenSpec.ofChange s with cond := some uptoSmall }

/-- 'postmarklaw2.SpongeTells', WHERE WHAT IT READS IS OF BULK AT MOST 1048576: true; the input reads as it did. -/
def spongeTellsUptoRow : OpenClaim := { program := "ytkcloienempifaa", sum := "267675d22683c9efb6d527b28819d7084af04c3b4cd0c0c688113b3bd0ac5c66", func := "postmark/postmarklaw2.SpongeTells", spec := "spongeTells", apart := false, narrowed := true }
def SpongeTellsUptoSaid : Prop := spongeTellsUptoRow.holds Try.pinned (OpenSpec.upto spongeTellsSpec)

/-- 'postmarklaw2.SpongeBlocks', WHERE WHAT IT READS IS OF BULK AT MOST 1048576: true; the input reads as it did. -/
def spongeBlocksUptoRow : OpenClaim := { program := "ytkcloienempifaa", sum := "267675d22683c9efb6d527b28819d7084af04c3b4cd0c0c688113b3bd0ac5c66", func := "postmark/postmarklaw2.SpongeBlocks", spec := "spongeBlocks", apart := false, narrowed := true }
def SpongeBlocksUptoSaid : Prop := spongeBlocksUptoRow.holds Try.pinned (OpenSpec.upto spongeBlocksSpec)

/-- 'postmarklaw2.SpongeTexts', WHERE WHAT IT READS IS OF BULK AT MOST 1048576: true; the input reads as it did. -/
def spongeTextsUptoRow : OpenClaim := { program := "ytkcloienempifaa", sum := "267675d22683c9efb6d527b28819d7084af04c3b4cd0c0c688113b3bd0ac5c66", func := "postmark/postmarklaw2.SpongeTexts", spec := "spongeTexts", apart := false, narrowed := true }
def SpongeTextsUptoSaid : Prop := spongeTextsUptoRow.holds Try.pinned (OpenSpec.upto spongeTextsSpec)

/-- 'postmarklaw2.SpongePerm', WHERE WHAT IT READS IS OF BULK AT MOST 1048576: true; the input reads as it did. -/
def spongePermUptoRow : OpenClaim := { program := "ytkcloienempifaa", sum := "267675d22683c9efb6d527b28819d7084af04c3b4cd0c0c688113b3bd0ac5c66", func := "postmark/postmarklaw2.SpongePerm", spec := "spongePerm", apart := false, narrowed := true }
def SpongePermUptoSaid : Prop := spongePermUptoRow.holds Try.pinned (OpenSpec.upto spongePermSpec)

/-- 'postmarklaw2.SpongePads', WHERE WHAT IT READS IS OF BULK AT MOST 1048576: true; the input reads as it did. -/
def spongePadsUptoRow : OpenClaim := { program := "ytkcloienempifaa", sum := "267675d22683c9efb6d527b28819d7084af04c3b4cd0c0c688113b3bd0ac5c66", func := "postmark/postmarklaw2.SpongePads", spec := "spongePads", apart := false, narrowed := true }
def SpongePadsUptoSaid : Prop := spongePadsUptoRow.holds Try.pinned (OpenSpec.upto spongePadsSpec)

end Rows
end Go.Proofs.Ytkcloienempifaa
