/-
  No cell of these rows narrows 'for every input' (looked for: loops, veiled, ifaces, maps, wideKeys, modest, calm, conditions, laid).
  DERIVED. THE GIVEN ROWS OF THIS SEAT. 2 by the template 'for every input the law returns true; each argument reads behind the call as it read before'; 0 by the template 'total and deterministic' (their statements: YtgnfgjlfmmpalaaTotals.lean).
  GIVEN WITH THE SEED: the statements are not yours to turn. If you find one false, say at which input.
  Laid BY PROGRAM, IN A SANDBOX (cutbox-rows.mjs): the forced cells as the released guide's own fill.sh prints them over the translation 945fdf363ff73ed7… (all of the seat's roots in one cut). By AI agents, Wed Nov 11 2026. No macro, syntax, notation, axiom, sorry.
-/
import Derived.Test.YtgnfgjlfmmpalaaChecked
import GoSem.Claim
import GoSem.ClaimJoined
import GoSem.ClaimMapViews
import Derived.JoinedTies
import Derived.KernelRfl
namespace Go.Proofs.Ytgnfgjlfmmpalaa
/- THE CELL 'sum', in the pinned program and in every row, IS THE sha256 OF THE DUMP (.gsa) THAT YtgnfgjlfmmpalaaProg.lean LOADS. Nothing in Lean hashes anything: it is a label: what it is worth is what the hold of that sum in a sandbox is worth. -/
noncomputable def Try.pinned : Pinned := { name := "ytgnfgjlfmmpalaa", sum := "945fdf363ff73ed72d5ea36c7b25aaec572b48f08bc73db366f6d69d78300035", checked := Try.checked }
namespace Rows
def none {H : Type} : Left H := { results := [], args := [] }

/-- 'postmarklaw18.RateBound': WHATEVER THE INPUT: true; the input reads as it did. -/
def rateBoundSpec : ChangeSpec := { name := "rateBound", fn := fun _ => fun
  | [d] => { results := [.lit (.bool true)], args := [d] }
  | _ => none }
def rateBoundRow : OpenClaim := { program := "ytgnfgjlfmmpalaa", sum := "945fdf363ff73ed72d5ea36c7b25aaec572b48f08bc73db366f6d69d78300035", func := "postmark/postmarklaw18.RateBound", spec := "rateBound", apart := false }
def RateBoundSaid : Prop := rateBoundRow.holds Try.pinned (OpenSpec.ofChange rateBoundSpec)

/-- ITS FALSE NEIGHBOUR: 'it returns false'. Refute it at one input. -/
def rateBoundWrong : ChangeSpec := { name := "rateBound", fn := fun _ => fun
  | [d] => { results := [.lit (.bool false)], args := [d] }
  | _ => none }
def RateBoundWrongFalsely : Prop := rateBoundRow.holds Try.pinned (OpenSpec.ofChange rateBoundWrong)

/-- 'postmarklaw18.RateFull': WHATEVER THE INPUT: true; the input reads as it did. -/
def rateFullSpec : ChangeSpec := { name := "rateFull", fn := fun _ => fun
  | [d1, d2, d3] => { results := [.lit (.bool true)], args := [d1, d2, d3] }
  | _ => none }
def rateFullRow : OpenClaim := { program := "ytgnfgjlfmmpalaa", sum := "945fdf363ff73ed72d5ea36c7b25aaec572b48f08bc73db366f6d69d78300035", func := "postmark/postmarklaw18.RateFull", spec := "rateFull", apart := false }
def RateFullSaid : Prop := rateFullRow.holds Try.pinned (OpenSpec.ofChange rateFullSpec)

/-- ITS FALSE NEIGHBOUR: 'it returns false'. Refute it at one input. -/
def rateFullWrong : ChangeSpec := { name := "rateFull", fn := fun _ => fun
  | [d1, d2, d3] => { results := [.lit (.bool false)], args := [d1, d2, d3] }
  | _ => none }
def RateFullWrongFalsely : Prop := rateFullRow.holds Try.pinned (OpenSpec.ofChange rateFullWrong)

/- THE SECOND FORM. 'bulk': how many values and letters a reading holds, each counted each time it is reached (what is shared counts as often as it is met; a slice's spare places count too). A statement '..UptoSaid' is the law's where the arguments, and the package variables that the reading takes, are together of bulk at most 1048576: NARROWER than '..Said'. Prove '..Said' where nothing that the law and all that it calls make is longer than what came in: it says more and counts as full. Else prove '..UptoSaid'. A law counts once. -/
mutual
def uptoBulk {H : Type} : DataW H → Nat
  | .lit (.string bytes) => bytes.length + 1
  | .lit _ => 1
  | .nil => 1
  | .ptr d => uptoBulk d + 1
  | .slice elems spare => uptoBulkAll elems + uptoBulkAll spare + 1
  | .agg parts => uptoBulkAll parts + 1
  | .iface _ d => uptoBulk d + 1
  | .map entries => uptoBulkEntries entries + 1
  | .held _ => 1
def uptoBulkAll {H : Type} : List (DataW H) → Nat
  | [] => 0
  | d :: r => uptoBulk d + uptoBulkAll r
def uptoBulkEntries {H : Type} : List (Lit × DataW H) → Nat
  | [] => 0
  | x :: r => uptoBulkEntry x + uptoBulkEntries r
def uptoBulkEntry {H : Type} : Lit × DataW H → Nat
  | (.string bytes, d) => bytes.length + uptoBulk d + 1
  | (_, d) => uptoBulk d + 1
 end
def uptoSmall : (H : Type) → List (DataW H) → Bool := fun _ ds => decide (uptoBulkAll ds ≤ 1048576)
def OpenSpec.upto (s : _root_.Go.ChangeSpec) : _root_.Go.OpenSpec := { _root_.Go.OpenSpec.ofChange s with cond := some uptoSmall }

/-- 'postmarklaw18.RateBound', WHERE WHAT IT READS IS OF BULK AT MOST 1048576: true; the input reads as it did. -/
def rateBoundUptoRow : OpenClaim := { program := "ytgnfgjlfmmpalaa", sum := "945fdf363ff73ed72d5ea36c7b25aaec572b48f08bc73db366f6d69d78300035", func := "postmark/postmarklaw18.RateBound", spec := "rateBound", apart := false, narrowed := true }
def RateBoundUptoSaid : Prop := rateBoundUptoRow.holds Try.pinned (OpenSpec.upto rateBoundSpec)

/-- 'postmarklaw18.RateFull', WHERE WHAT IT READS IS OF BULK AT MOST 1048576: true; the input reads as it did. -/
def rateFullUptoRow : OpenClaim := { program := "ytgnfgjlfmmpalaa", sum := "945fdf363ff73ed72d5ea36c7b25aaec572b48f08bc73db366f6d69d78300035", func := "postmark/postmarklaw18.RateFull", spec := "rateFull", apart := false, narrowed := true }
def RateFullUptoSaid : Prop := rateFullUptoRow.holds Try.pinned (OpenSpec.upto rateFullSpec)

end Rows
end Go.Proofs.Ytgnfgjlfmmpalaa
