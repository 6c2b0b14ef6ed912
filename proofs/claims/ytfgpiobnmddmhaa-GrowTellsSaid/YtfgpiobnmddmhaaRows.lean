/-
  No cell of these rows narrows 'for every input' (looked for: loops, veiled, ifaces, maps, wideKeys, modest, calm, conditions, laid).
  DERIVED. THE GIVEN ROWS OF THIS SEAT. 4 by the template 'for every input the law returns true; each argument reads behind the call as it read before'; 0 by the template 'total and deterministic' (their statements: YtfgpiobnmddmhaaTotals.lean).
  GIVEN WITH THE SEED: the statements are not yours to turn. If you find one false, say at which input.
  Laid BY PROGRAM, IN A SANDBOX (cutbox-rows.mjs): the forced cells as the released guide's own fill.sh prints them over the translation ff713cdeb9a44a07… (all of the seat's roots in one cut). By AI agents, Wed Nov 11 2026. No macro, syntax, notation, axiom, sorry.
-/
import Derived.Test.YtfgpiobnmddmhaaChecked
import GoSem.Claim
import GoSem.ClaimJoined
import GoSem.ClaimMapViews
import Derived.JoinedTies
import Derived.KernelRfl
namespace Go.Proofs.Ytfgpiobnmddmhaa
/- THE CELL 'sum', in the pinned program and in every row, IS THE sha256 OF THE DUMP (.gsa) THAT YtfgpiobnmddmhaaProg.lean LOADS. Nothing in Lean hashes anything: it is a label: what it is worth is what the hold of that sum in a sandbox is worth. -/
noncomputable def Try.pinned : Pinned := { name := "ytfgpiobnmddmhaa", sum := "ff713cdeb9a44a07dee213ac76997a6c7b34d2f1528a3f94e976141f7d84202d", checked := Try.checked }
namespace Rows
def none {H : Type} : Left H := { results := [], args := [] }

/-- 'postmarklaw9.GrowTells': WHATEVER THE INPUT: true; the input reads as it did. -/
def growTellsSpec : ChangeSpec := { name := "growTells", fn := fun _ => fun
  | [d1, d2, d3, d4, d5, d6, d7] => { results := [.lit (.bool true)], args := [d1, d2, d3, d4, d5, d6, d7] }
  | _ => none }
def growTellsRow : OpenClaim := { program := "ytfgpiobnmddmhaa", sum := "ff713cdeb9a44a07dee213ac76997a6c7b34d2f1528a3f94e976141f7d84202d", func := "postmark/postmarklaw9.GrowTells", spec := "growTells", recurses := true, apart := false }
def GrowTellsSaid : Prop := growTellsRow.holds Try.pinned (OpenSpec.ofChange growTellsSpec)

/-- ITS FALSE NEIGHBOUR: 'it returns false'. Refute it at one input. -/
def growTellsWrong : ChangeSpec := { name := "growTells", fn := fun _ => fun
  | [d1, d2, d3, d4, d5, d6, d7] => { results := [.lit (.bool false)], args := [d1, d2, d3, d4, d5, d6, d7] }
  | _ => none }
def GrowTellsWrongFalsely : Prop := growTellsRow.holds Try.pinned (OpenSpec.ofChange growTellsWrong)

/-- 'postmarklaw9.GrowChain': WHATEVER THE INPUT: true; the input reads as it did. -/
def growChainSpec : ChangeSpec := { name := "growChain", fn := fun _ => fun
  | [d1, d2] => { results := [.lit (.bool true)], args := [d1, d2] }
  | _ => none }
def growChainRow : OpenClaim := { program := "ytfgpiobnmddmhaa", sum := "ff713cdeb9a44a07dee213ac76997a6c7b34d2f1528a3f94e976141f7d84202d", func := "postmark/postmarklaw9.GrowChain", spec := "growChain", recurses := true, apart := false }
def GrowChainSaid : Prop := growChainRow.holds Try.pinned (OpenSpec.ofChange growChainSpec)

/-- ITS FALSE NEIGHBOUR: 'it returns false'. Refute it at one input. -/
def growChainWrong : ChangeSpec := { name := "growChain", fn := fun _ => fun
  | [d1, d2] => { results := [.lit (.bool false)], args := [d1, d2] }
  | _ => none }
def GrowChainWrongFalsely : Prop := growChainRow.holds Try.pinned (OpenSpec.ofChange growChainWrong)

/-- 'postmarklaw9.GrowSame': WHATEVER THE INPUT: true; the input reads as it did. -/
def growSameSpec : ChangeSpec := { name := "growSame", fn := fun _ => fun
  | [d1, d2] => { results := [.lit (.bool true)], args := [d1, d2] }
  | _ => none }
def growSameRow : OpenClaim := { program := "ytfgpiobnmddmhaa", sum := "ff713cdeb9a44a07dee213ac76997a6c7b34d2f1528a3f94e976141f7d84202d", func := "postmark/postmarklaw9.GrowSame", spec := "growSame", recurses := true, apart := false }
def GrowSameSaid : Prop := growSameRow.holds Try.pinned (OpenSpec.ofChange growSameSpec)

/-- ITS FALSE NEIGHBOUR: 'it returns false'. Refute it at one input. -/
def growSameWrong : ChangeSpec := { name := "growSame", fn := fun _ => fun
  | [d1, d2] => { results := [.lit (.bool false)], args := [d1, d2] }
  | _ => none }
def GrowSameWrongFalsely : Prop := growSameRow.holds Try.pinned (OpenSpec.ofChange growSameWrong)

/-- 'postmarklaw9.GrowLong': WHATEVER THE INPUT: true; the input reads as it did. -/
def growLongSpec : ChangeSpec := { name := "growLong", fn := fun _ => fun
  | [d1, d2, d3] => { results := [.lit (.bool true)], args := [d1, d2, d3] }
  | _ => none }
def growLongRow : OpenClaim := { program := "ytfgpiobnmddmhaa", sum := "ff713cdeb9a44a07dee213ac76997a6c7b34d2f1528a3f94e976141f7d84202d", func := "postmark/postmarklaw9.GrowLong", spec := "growLong", recurses := true, apart := false }
def GrowLongSaid : Prop := growLongRow.holds Try.pinned (OpenSpec.ofChange growLongSpec)

/-- ITS FALSE NEIGHBOUR: 'it returns false'. Refute it at one input. -/
def growLongWrong : ChangeSpec := { name := "growLong", fn := fun _ => fun
  | [d1, d2, d3] => { results := [.lit (.bool false)], args := [d1, d2, d3] }
  | _ => none }
def GrowLongWrongFalsely : Prop := growLongRow.holds Try.pinned (OpenSpec.ofChange growLongWrong)

/- THE SECOND FORM. 'bulk': how many values and letters a reading holds, each counted each time it is reached (what is shared counts as often as it is met; a slice's spare places count too). A statement '..UptoSaid' is the law's where the arguments, and the package variables that the reading takes, are together of bulk at most 1048576: NARROWER than '..Said'. Prove '..Said' where nothing that the law and all that it calls make is longer than what came in: it says more and counts as full. Else prove '..UptoSaid'. A law counts once. -/
mutual
def uptoBulk {H : Type} : DataW H → Nat
  | .lit (.string bytes) => bytes.length + 1
  | .lit _ => 1
  | .nil => 1
  | .ptr d => uptoBulk d + 1
  | .slice elems spare => uptoBulkAll elems + uptoBulkAll spare + 1
  | .agg parts => uptoBulkAll parts + 1
  | .iface _ d => uptoBulk d + 1
  | .map entries => uptoBulkEntries entries + 1
  | .held _ => 1
def uptoBulkAll {H : Type} : List (DataW H) → Nat
  | [] => 0
  | d :: r => uptoBulk d + uptoBulkAll r
def uptoBulkEntries {H : Type} : List (Lit × DataW H) → Nat
  | [] => 0
  | x :: r => uptoBulkEntry x + uptoBulkEntries r
def uptoBulkEntry {H : Type} : Lit × DataW H → Nat
  | (.string bytes, d) => bytes.length + uptoBulk d + 1
  | (_, d) => uptoBulk d + 1
 end
def uptoSmall : (H : Type) → List (DataW H) → Bool := fun _ ds => decide (uptoBulkAll ds ≤ 1048576)
def OpenSpec.upto (s : _root_.Go.ChangeSpec) : _root_.Go.OpenSpec := { _root_.Go.OpenSpec.ofChange s with cond := some uptoSmall }

/-- 'postmarklaw9.GrowTells', WHERE WHAT IT READS IS OF BULK AT MOST 1048576: true; the input reads as it did. -/
def growTellsUptoRow : OpenClaim := { program := "ytfgpiobnmddmhaa", sum := "ff713cdeb9a44a07dee213ac76997a6c7b34d2f1528a3f94e976141f7d84202d", func := "postmark/postmarklaw9.GrowTells", spec := "growTells", recurses := true, apart := false, narrowed := true }
def GrowTellsUptoSaid : Prop := growTellsUptoRow.holds Try.pinned (OpenSpec.upto growTellsSpec)

/-- 'postmarklaw9.GrowChain', WHERE WHAT IT READS IS OF BULK AT MOST 1048576: true; the input reads as it did. -/
def growChainUptoRow : OpenClaim := { program := "ytfgpiobnmddmhaa", sum := "ff713cdeb9a44a07dee213ac76997a6c7b34d2f1528a3f94e976141f7d84202d", func := "postmark/postmarklaw9.GrowChain", spec := "growChain", recurses := true, apart := false, narrowed := true }
def GrowChainUptoSaid : Prop := growChainUptoRow.holds Try.pinned (OpenSpec.upto growChainSpec)

/-- 'postmarklaw9.GrowSame', WHERE WHAT IT READS IS OF BULK AT MOST 1048576: true; the input reads as it did. -/
def growSameUptoRow : OpenClaim := { program := "ytfgpiobnmddmhaa", sum := "ff713cdeb9a44a07dee213ac76997a6c7b34d2f1528a3f94e976141f7d84202d", func := "postmark/postmarklaw9.GrowSame", spec := "growSame", recurses := true, apart := false, narrowed := true }
def GrowSameUptoSaid : Prop := growSameUptoRow.holds Try.pinned (OpenSpec.upto growSameSpec)

/-- 'postmarklaw9.GrowLong', WHERE WHAT IT READS IS OF BULK AT MOST 1048576: true; the input reads as it did. -/
def growLongUptoRow : OpenClaim := { program := "ytfgpiobnmddmhaa", sum := "ff713cdeb9a44a07dee213ac76997a6c7b34d2f1528a3f94e976141f7d84202d", func := "postmark/postmarklaw9.GrowLong", spec := "growLong", recurses := true, apart := false, narrowed := true }
def GrowLongUptoSaid : Prop := growLongUptoRow.holds Try.pinned (OpenSpec.upto growLongSpec)

end Rows
end Go.Proofs.Ytfgpiobnmddmhaa
