/-
  No cell of these rows narrows 'for every input' (looked for: loops, veiled, ifaces, maps, wideKeys, modest, calm, conditions, laid).
  DERIVED. THE GIVEN ROWS OF THIS SEAT. 5 by the template 'for every input the law returns true; each argument reads behind the call as it read before'; 0 by the template 'total and deterministic' (their statements: YtcolghonbncpnaaTotals.lean).
  GIVEN WITH THE SEED: the statements are not yours to turn. If you find one false, say at which input.
  Laid BY PROGRAM, IN A SANDBOX (cutbox-rows.mjs): the forced cells as the released guide's own fill.sh prints them over the translation 7656d953d0aebfe2… (all of the seat's roots in one cut). By AI agents, Wed Nov 11 2026. No macro, syntax, notation, axiom, sorry.
-/
import Derived.Test.YtcolghonbncpnaaChecked
import GoSem.Claim
import GoSem.ClaimJoined
import GoSem.ClaimMapViews
import Derived.JoinedTies
import Derived.KernelRfl
namespace Go.Proofs.Ytcolghonbncpnaa
/- THE CELL 'sum', in the pinned program and in every row, IS THE sha256 OF THE DUMP (.gsa) THAT YtcolghonbncpnaaProg.lean LOADS. Nothing in Lean hashes anything: it is a label: what it is worth is what the hold of that sum in a sandbox is worth. -/
noncomputable def Try.pinned : Pinned := { name := "ytcolghonbncpnaa", sum := "7656d953d0aebfe25cda5838aa771b41493e17c1987864c2a46194664c00d3fc", checked := Try.checked }
namespace Rows
def none {H : Type} : Left H := { results := [], args := [] }

/-- 'postmarklaw15.ScanTells': WHATEVER THE INPUT: true; the input reads as it did. -/
def scanTellsSpec : ChangeSpec := { name := "scanTells", fn := fun _ => fun
  | [d1, d2, d3, d4, d5, d6, d7, d8, d9, d10] => { results := [.lit (.bool true)], args := [d1, d2, d3, d4, d5, d6, d7, d8, d9, d10] }
  | _ => none }
def scanTellsRow : OpenClaim := { program := "ytcolghonbncpnaa", sum := "7656d953d0aebfe25cda5838aa771b41493e17c1987864c2a46194664c00d3fc", func := "postmark/postmarklaw15.ScanTells", spec := "scanTells", apart := false }
def ScanTellsSaid : Prop := scanTellsRow.holds Try.pinned (OpenSpec.ofChange scanTellsSpec)

/-- ITS FALSE NEIGHBOUR: 'it returns false'. Refute it at one input. -/
def scanTellsWrong : ChangeSpec := { name := "scanTells", fn := fun _ => fun
  | [d1, d2, d3, d4, d5, d6, d7, d8, d9, d10] => { results := [.lit (.bool false)], args := [d1, d2, d3, d4, d5, d6, d7, d8, d9, d10] }
  | _ => none }
def ScanTellsWrongFalsely : Prop := scanTellsRow.holds Try.pinned (OpenSpec.ofChange scanTellsWrong)

/-- 'postmarklaw15.ScanCuts': WHATEVER THE INPUT: true; the input reads as it did. -/
def scanCutsSpec : ChangeSpec := { name := "scanCuts", fn := fun _ => fun
  | [d1, d2, d3, d4] => { results := [.lit (.bool true)], args := [d1, d2, d3, d4] }
  | _ => none }
def scanCutsRow : OpenClaim := { program := "ytcolghonbncpnaa", sum := "7656d953d0aebfe25cda5838aa771b41493e17c1987864c2a46194664c00d3fc", func := "postmark/postmarklaw15.ScanCuts", spec := "scanCuts", apart := false }
def ScanCutsSaid : Prop := scanCutsRow.holds Try.pinned (OpenSpec.ofChange scanCutsSpec)

/-- ITS FALSE NEIGHBOUR: 'it returns false'. Refute it at one input. -/
def scanCutsWrong : ChangeSpec := { name := "scanCuts", fn := fun _ => fun
  | [d1, d2, d3, d4] => { results := [.lit (.bool false)], args := [d1, d2, d3, d4] }
  | _ => none }
def ScanCutsWrongFalsely : Prop := scanCutsRow.holds Try.pinned (OpenSpec.ofChange scanCutsWrong)

/-- 'postmarklaw15.ScanRaw': WHATEVER THE INPUT: true; the input reads as it did. -/
def scanRawSpec : ChangeSpec := { name := "scanRaw", fn := fun _ => fun
  | [d1, d2, d3] => { results := [.lit (.bool true)], args := [d1, d2, d3] }
  | _ => none }
def scanRawRow : OpenClaim := { program := "ytcolghonbncpnaa", sum := "7656d953d0aebfe25cda5838aa771b41493e17c1987864c2a46194664c00d3fc", func := "postmark/postmarklaw15.ScanRaw", spec := "scanRaw", apart := false }
def ScanRawSaid : Prop := scanRawRow.holds Try.pinned (OpenSpec.ofChange scanRawSpec)

/-- ITS FALSE NEIGHBOUR: 'it returns false'. Refute it at one input. -/
def scanRawWrong : ChangeSpec := { name := "scanRaw", fn := fun _ => fun
  | [d1, d2, d3] => { results := [.lit (.bool false)], args := [d1, d2, d3] }
  | _ => none }
def ScanRawWrongFalsely : Prop := scanRawRow.holds Try.pinned (OpenSpec.ofChange scanRawWrong)

/-- 'postmarklaw15.ScanHoles': WHATEVER THE INPUT: true; the input reads as it did. -/
def scanHolesSpec : ChangeSpec := { name := "scanHoles", fn := fun _ => fun
  | [d1, d2, d3] => { results := [.lit (.bool true)], args := [d1, d2, d3] }
  | _ => none }
def scanHolesRow : OpenClaim := { program := "ytcolghonbncpnaa", sum := "7656d953d0aebfe25cda5838aa771b41493e17c1987864c2a46194664c00d3fc", func := "postmark/postmarklaw15.ScanHoles", spec := "scanHoles", apart := false }
def ScanHolesSaid : Prop := scanHolesRow.holds Try.pinned (OpenSpec.ofChange scanHolesSpec)

/-- ITS FALSE NEIGHBOUR: 'it returns false'. Refute it at one input. -/
def scanHolesWrong : ChangeSpec := { name := "scanHoles", fn := fun _ => fun
  | [d1, d2, d3] => { results := [.lit (.bool false)], args := [d1, d2, d3] }
  | _ => none }
def ScanHolesWrongFalsely : Prop := scanHolesRow.holds Try.pinned (OpenSpec.ofChange scanHolesWrong)

/-- 'postmarklaw15.ScanNewest': WHATEVER THE INPUT: true; the input reads as it did. -/
def scanNewestSpec : ChangeSpec := { name := "scanNewest", fn := fun _ => fun
  | [d1, d2, d3, d4, d5, d6] => { results := [.lit (.bool true)], args := [d1, d2, d3, d4, d5, d6] }
  | _ => none }
def scanNewestRow : OpenClaim := { program := "ytcolghonbncpnaa", sum := "7656d953d0aebfe25cda5838aa771b41493e17c1987864c2a46194664c00d3fc", func := "postmark/postmarklaw15.ScanNewest", spec := "scanNewest", apart := false }
def ScanNewestSaid : Prop := scanNewestRow.holds Try.pinned (OpenSpec.ofChange scanNewestSpec)

/-- ITS FALSE NEIGHBOUR: 'it returns false'. Refute it at one input. -/
def scanNewestWrong : ChangeSpec := { name := "scanNewest", fn := fun _ => fun
  | [d1, d2, d3, d4, d5, d6] => { results := [.lit (.bool false)], args := [d1, d2, d3, d4, d5, d6] }
  | _ => none }
def ScanNewestWrongFalsely : Prop := scanNewestRow.holds Try.pinned (OpenSpec.ofChange scanNewestWrong)

/- THE SECOND FORM. 'bulk': how many values and letters a reading holds, each counted each time it is reached (what is shared counts as often as it is met; a slice's spare places count too). A statement '..UptoSaid' is the law's where the arguments, and the package variables that the reading takes, are together of bulk at most 1048576: NARROWER than '..Said'. Prove '..Said' where nothing that the law and all that it calls make is longer than what came in: it says more and counts as full. Else prove '..UptoSaid'. A law counts once. -/
mutual
def uptoBulk {H : Type} : DataW H → Nat
  | .lit (.string bytes) => bytes.length + 1
  | .lit _ => 1
  | .nil => 1
  | .ptr d => uptoBulk d + 1
  | .slice elems spare => uptoBulkAll elems + uptoBulkAll spare + 1
  | .agg parts => uptoBulkAll parts + 1
  | .iface _ d => uptoBulk d + 1
  | .map entries => uptoBulkEntries entries + 1
  | .held _ => 1
def uptoBulkAll {H : Type} : List (DataW H) → Nat
  | [] => 0
  | d :: r => uptoBulk d + uptoBulkAll r
def uptoBulkEntries {H : Type} : List (Lit × DataW H) → Nat
  | [] => 0
  | x :: r => uptoBulkEntry x + uptoBulkEntries r
def uptoBulkEntry {H : Type} : Lit × DataW H → Nat
  | (.string bytes, d) => bytes.length + uptoBulk d + 1
  | (_, d) => uptoBulk d + 1
 end
def uptoSmall : (H : Type) → List (DataW H) → Bool := fun _ ds => decide (uptoBulkAll ds ≤ 1048576)
def OpenSpec.upto (s : _root_.Go.ChangeSpec) : _root_.Go.OpenSpec := { _root_.Go.OpenSpec.ofChange s with cond := some uptoSmall }

/-- 'postmarklaw15.ScanTells', WHERE WHAT IT READS IS OF BULK AT MOST 1048576: true; the input reads as it did. -/
def scanTellsUptoRow : OpenClaim := { program := "ytcolghonbncpnaa", sum := "7656d953d0aebfe25cda5838aa771b41493e17c1987864c2a46194664c00d3fc", func := "postmark/postmarklaw15.ScanTells", spec := "scanTells", apart := false, narrowed := true }
def ScanTellsUptoSaid : Prop := scanTellsUptoRow.holds Try.pinned (OpenSpec.upto scanTellsSpec)

/-- 'postmarklaw15.ScanCuts', WHERE WHAT IT READS IS OF BULK AT MOST 1048576: true; the input reads as it did. -/
def scanCutsUptoRow : OpenClaim := { program := "ytcolghonbncpnaa", sum := "7656d953d0aebfe25cda5838aa771b41493e17c1987864c2a46194664c00d3fc", func := "postmark/postmarklaw15.ScanCuts", spec := "scanCuts", apart := false, narrowed := true }
def ScanCutsUptoSaid : Prop := scanCutsUptoRow.holds Try.pinned (OpenSpec.upto scanCutsSpec)

/-- 'postmarklaw15.ScanRaw', WHERE WHAT IT READS IS OF BULK AT MOST 1048576: true; the input reads as it did. -/
def scanRawUptoRow : OpenClaim := { program := "ytcolghonbncpnaa", sum := "7656d953d0aebfe25cda5838aa771b41493e17c1987864c2a46194664c00d3fc", func := "postmark/postmarklaw15.ScanRaw", spec := "scanRaw", apart := false, narrowed := true }
def ScanRawUptoSaid : Prop := scanRawUptoRow.holds Try.pinned (OpenSpec.upto scanRawSpec)

/-- 'postmarklaw15.ScanHoles', WHERE WHAT IT READS IS OF BULK AT MOST 1048576: true; the input reads as it did. -/
def scanHolesUptoRow : OpenClaim := { program := "ytcolghonbncpnaa", sum := "7656d953d0aebfe25cda5838aa771b41493e17c1987864c2a46194664c00d3fc", func := "postmark/postmarklaw15.ScanHoles", spec := "scanHoles", apart := false, narrowed := true }
def ScanHolesUptoSaid : Prop := scanHolesUptoRow.holds Try.pinned (OpenSpec.upto scanHolesSpec)

/-- 'postmarklaw15.ScanNewest', WHERE WHAT IT READS IS OF BULK AT MOST 1048576: true; the input reads as it did. -/
def scanNewestUptoRow : OpenClaim := { program := "ytcolghonbncpnaa", sum := "7656d953d0aebfe25cda5838aa771b41493e17c1987864c2a46194664c00d3fc", func := "postmark/postmarklaw15.ScanNewest", spec := "scanNewest", apart := false, narrowed := true }
def ScanNewestUptoSaid : Prop := scanNewestUptoRow.holds Try.pinned (OpenSpec.upto scanNewestSpec)

end Rows
end Go.Proofs.Ytcolghonbncpnaa
