/-
  No cell of these rows narrows 'for every input' (looked for: loops, veiled, ifaces, maps, wideKeys, modest, calm, conditions, laid).
  DERIVED. THE GIVEN ROWS OF THIS SEAT. 6 by the template 'for every input the law returns true; each argument reads behind the call as it read before'; 0 by the template 'total and deterministic' (their statements: YthnmbpcdcjamoaaTotals.lean).
  GIVEN WITH THE SEED: the statements are not yours to turn. If you find one false, say at which input.
  Laid BY PROGRAM, IN A SANDBOX (cutbox-rows.mjs): the forced cells as the released guide's own fill.sh prints them over the translation 8f0e47161b7cd66f… (all of the seat's roots in one cut). By AI agents, Wed Nov 11 2026. No macro, syntax, notation, axiom, sorry.
-/
import Derived.Test.YthnmbpcdcjamoaaChecked
import GoSem.Claim
import GoSem.ClaimJoined
import GoSem.ClaimMapViews
import Derived.JoinedTies
import Derived.KernelRfl
namespace Go.Proofs.Ythnmbpcdcjamoaa
/- THE CELL 'sum', in the pinned program and in every row, IS THE sha256 OF THE DUMP (.gsa) THAT YthnmbpcdcjamoaaProg.lean LOADS. Nothing in Lean hashes anything: it is a label: what it is worth is what the hold of that sum in a sandbox is worth. -/
noncomputable def Try.pinned : Pinned := { name := "ythnmbpcdcjamoaa", sum := "8f0e47161b7cd66f26277ca1d7513f43208a8d4836e8eedfb130de814e2f7b22", checked := Try.checked }
namespace Rows
def none {H : Type} : Left H := { results := [], args := [] }

/-- 'postmarklaw21.PoolSyncs': WHATEVER THE INPUT: true; the input reads as it did. -/
def poolSyncsSpec : ChangeSpec := { name := "poolSyncs", fn := fun _ => fun
  | [d1, d2] => { results := [.lit (.bool true)], args := [d1, d2] }
  | _ => none }
def poolSyncsRow : OpenClaim := { program := "ythnmbpcdcjamoaa", sum := "8f0e47161b7cd66f26277ca1d7513f43208a8d4836e8eedfb130de814e2f7b22", func := "postmark/postmarklaw21.PoolSyncs", spec := "poolSyncs", unfollowed := true, recurses := true, apart := false }
def PoolSyncsSaid : Prop := poolSyncsRow.holds Try.pinned (OpenSpec.ofChange poolSyncsSpec)

/-- ITS FALSE NEIGHBOUR: 'it returns false'. Refute it at one input. -/
def poolSyncsWrong : ChangeSpec := { name := "poolSyncs", fn := fun _ => fun
  | [d1, d2] => { results := [.lit (.bool false)], args := [d1, d2] }
  | _ => none }
def PoolSyncsWrongFalsely : Prop := poolSyncsRow.holds Try.pinned (OpenSpec.ofChange poolSyncsWrong)

/-- 'postmarklaw21.PoolOrder': WHATEVER THE INPUT: true; the input reads as it did. -/
def poolOrderSpec : ChangeSpec := { name := "poolOrder", fn := fun _ => fun
  | [d1, d2] => { results := [.lit (.bool true)], args := [d1, d2] }
  | _ => none }
def poolOrderRow : OpenClaim := { program := "ythnmbpcdcjamoaa", sum := "8f0e47161b7cd66f26277ca1d7513f43208a8d4836e8eedfb130de814e2f7b22", func := "postmark/postmarklaw21.PoolOrder", spec := "poolOrder", unfollowed := true, recurses := true, apart := false }
def PoolOrderSaid : Prop := poolOrderRow.holds Try.pinned (OpenSpec.ofChange poolOrderSpec)

/-- ITS FALSE NEIGHBOUR: 'it returns false'. Refute it at one input. -/
def poolOrderWrong : ChangeSpec := { name := "poolOrder", fn := fun _ => fun
  | [d1, d2] => { results := [.lit (.bool false)], args := [d1, d2] }
  | _ => none }
def PoolOrderWrongFalsely : Prop := poolOrderRow.holds Try.pinned (OpenSpec.ofChange poolOrderWrong)

/-- 'postmarklaw21.PoolLimits': WHATEVER THE INPUT: true; the input reads as it did. -/
def poolLimitsSpec : ChangeSpec := { name := "poolLimits", fn := fun _ => fun
  | [d1, d2, d3] => { results := [.lit (.bool true)], args := [d1, d2, d3] }
  | _ => none }
def poolLimitsRow : OpenClaim := { program := "ythnmbpcdcjamoaa", sum := "8f0e47161b7cd66f26277ca1d7513f43208a8d4836e8eedfb130de814e2f7b22", func := "postmark/postmarklaw21.PoolLimits", spec := "poolLimits", unfollowed := true, recurses := true, apart := false }
def PoolLimitsSaid : Prop := poolLimitsRow.holds Try.pinned (OpenSpec.ofChange poolLimitsSpec)

/-- ITS FALSE NEIGHBOUR: 'it returns false'. Refute it at one input. -/
def poolLimitsWrong : ChangeSpec := { name := "poolLimits", fn := fun _ => fun
  | [d1, d2, d3] => { results := [.lit (.bool false)], args := [d1, d2, d3] }
  | _ => none }
def PoolLimitsWrongFalsely : Prop := poolLimitsRow.holds Try.pinned (OpenSpec.ofChange poolLimitsWrong)

/-- 'postmarklaw21.PoolPicks': WHATEVER THE INPUT: true; the input reads as it did. -/
def poolPicksSpec : ChangeSpec := { name := "poolPicks", fn := fun _ => fun
  | [d1, d2] => { results := [.lit (.bool true)], args := [d1, d2] }
  | _ => none }
def poolPicksRow : OpenClaim := { program := "ythnmbpcdcjamoaa", sum := "8f0e47161b7cd66f26277ca1d7513f43208a8d4836e8eedfb130de814e2f7b22", func := "postmark/postmarklaw21.PoolPicks", spec := "poolPicks", unfollowed := true, recurses := true, apart := false }
def PoolPicksSaid : Prop := poolPicksRow.holds Try.pinned (OpenSpec.ofChange poolPicksSpec)

/-- ITS FALSE NEIGHBOUR: 'it returns false'. Refute it at one input. -/
def poolPicksWrong : ChangeSpec := { name := "poolPicks", fn := fun _ => fun
  | [d1, d2] => { results := [.lit (.bool false)], args := [d1, d2] }
  | _ => none }
def PoolPicksWrongFalsely : Prop := poolPicksRow.holds Try.pinned (OpenSpec.ofChange poolPicksWrong)

/-- 'postmarklaw21.PoolShares': WHATEVER THE INPUT: true; the input reads as it did. -/
def poolSharesSpec : ChangeSpec := { name := "poolShares", fn := fun _ => fun
  | [d1, d2] => { results := [.lit (.bool true)], args := [d1, d2] }
  | _ => none }
def poolSharesRow : OpenClaim := { program := "ythnmbpcdcjamoaa", sum := "8f0e47161b7cd66f26277ca1d7513f43208a8d4836e8eedfb130de814e2f7b22", func := "postmark/postmarklaw21.PoolShares", spec := "poolShares", unfollowed := true, recurses := true, apart := false }
def PoolSharesSaid : Prop := poolSharesRow.holds Try.pinned (OpenSpec.ofChange poolSharesSpec)

/-- ITS FALSE NEIGHBOUR: 'it returns false'. Refute it at one input. -/
def poolSharesWrong : ChangeSpec := { name := "poolShares", fn := fun _ => fun
  | [d1, d2] => { results := [.lit (.bool false)], args := [d1, d2] }
  | _ => none }
def PoolSharesWrongFalsely : Prop := poolSharesRow.holds Try.pinned (OpenSpec.ofChange poolSharesWrong)

/-- 'postmarklaw21.PoolPlays': WHATEVER THE INPUT: true; the input reads as it did. -/
def poolPlaysSpec : ChangeSpec := { name := "poolPlays", fn := fun _ => fun
  | [d1, d2] => { results := [.lit (.bool true)], args := [d1, d2] }
  | _ => none }
def poolPlaysRow : OpenClaim := { program := "ythnmbpcdcjamoaa", sum := "8f0e47161b7cd66f26277ca1d7513f43208a8d4836e8eedfb130de814e2f7b22", func := "postmark/postmarklaw21.PoolPlays", spec := "poolPlays", unfollowed := true, recurses := true, apart := false }
def PoolPlaysSaid : Prop := poolPlaysRow.holds Try.pinned (OpenSpec.ofChange poolPlaysSpec)

/-- ITS FALSE NEIGHBOUR: 'it returns false'. Refute it at one input. -/
def poolPlaysWrong : ChangeSpec := { name := "poolPlays", fn := fun _ => fun
  | [d1, d2] => { results := [.lit (.bool false)], args := [d1, d2] }
  | _ => none }
def PoolPlaysWrongFalsely : Prop := poolPlaysRow.holds Try.pinned (OpenSpec.ofChange poolPlaysWrong)

/- THE SECOND FORM. 'bulk': how many values and letters a reading holds, each counted each time it is reached (what is shared counts as often as it is met; a slice's spare places count too). A statement '..UptoSaid' is the law's where the arguments, and the package variables that the reading takes, are together of bulk at most 1048576: NARROWER than '..Said'. Prove '..Said' where nothing that the law and all that it calls make is longer than what came in: it says more and counts as full. Else prove '..UptoSaid'. A law counts once. -/
mutual
def uptoBulk {H : Type} : DataW H → Nat
  | .lit (.string bytes) => bytes.length + 1
  | .lit _ => 1
  | .nil => 1
  | .ptr d => uptoBulk d + 1
  | .slice elems spare => uptoBulkAll elems + uptoBulkAll spare + 1
  | .agg parts => uptoBulkAll parts + 1
  | .iface _ d => uptoBulk d + 1
  | .map entries => uptoBulkEntries entries + 1
  | .held _ => 1
def uptoBulkAll {H : Type} : List (DataW H) → Nat
  | [] => 0
  | d :: r => uptoBulk d + uptoBulkAll r
def uptoBulkEntries {H : Type} : List (Lit × DataW H) → Nat
  | [] => 0
  | x :: r => uptoBulkEntry x + uptoBulkEntries r
def uptoBulkEntry {H : Type} : Lit × DataW H → Nat
  | (.string bytes, d) => bytes.length + uptoBulk d + 1
  | (_, d) => uptoBulk d + 1
 end
def uptoSmall : (H : Type) → List (DataW H) → Bool := fun _ ds => decide (uptoBulkAll ds ≤ 1048576)
def OpenSpec.upto (s : _root_.Go.ChangeSpec) : _root_.Go.OpenSpec := { _root_.Go.OpenSpec.ofChange s with cond := some uptoSmall }

/-- 'postmarklaw21.PoolSyncs', WHERE WHAT IT READS IS OF BULK AT MOST 1048576: true; the input reads as it did. -/
def poolSyncsUptoRow : OpenClaim := { program := "ythnmbpcdcjamoaa", sum := "8f0e47161b7cd66f26277ca1d7513f43208a8d4836e8eedfb130de814e2f7b22", func := "postmark/postmarklaw21.PoolSyncs", spec := "poolSyncs", unfollowed := true, recurses := true, apart := false, narrowed := true }
def PoolSyncsUptoSaid : Prop := poolSyncsUptoRow.holds Try.pinned (OpenSpec.upto poolSyncsSpec)

/-- 'postmarklaw21.PoolOrder', WHERE WHAT IT READS IS OF BULK AT MOST 1048576: true; the input reads as it did. -/
def poolOrderUptoRow : OpenClaim := { program := "ythnmbpcdcjamoaa", sum := "8f0e47161b7cd66f26277ca1d7513f43208a8d4836e8eedfb130de814e2f7b22", func := "postmark/postmarklaw21.PoolOrder", spec := "poolOrder", unfollowed := true, recurses := true, apart := false, narrowed := true }
def PoolOrderUptoSaid : Prop := poolOrderUptoRow.holds Try.pinned (OpenSpec.upto poolOrderSpec)

/-- 'postmarklaw21.PoolLimits', WHERE WHAT IT READS IS OF BULK AT MOST 1048576: true; the input reads as it did. -/
def poolLimitsUptoRow : OpenClaim := { program := "ythnmbpcdcjamoaa", sum := "8f0e47161b7cd66f26277ca1d7513f43208a8d4836e8eedfb130de814e2f7b22", func := "postmark/postmarklaw21.PoolLimits", spec := "poolLimits", unfollowed := true, recurses := true, apart := false, narrowed := true }
def PoolLimitsUptoSaid : Prop := poolLimitsUptoRow.holds Try.pinned (OpenSpec.upto poolLimitsSpec)

/-- 'postmarklaw21.PoolPicks', WHERE WHAT IT READS IS OF BULK AT MOST 1048576: true; the input reads as it did. -/
def poolPicksUptoRow : OpenClaim := { program := "ythnmbpcdcjamoaa", sum := "8f0e47161b7cd66f26277ca1d7513f43208a8d4836e8eedfb130de814e2f7b22", func := "postmark/postmarklaw21.PoolPicks", spec := "poolPicks", unfollowed := true, recurses := true, apart := false, narrowed := true }
def PoolPicksUptoSaid : Prop := poolPicksUptoRow.holds Try.pinned (OpenSpec.upto poolPicksSpec)

/-- 'postmarklaw21.PoolShares', WHERE WHAT IT READS IS OF BULK AT MOST 1048576: true; the input reads as it did. -/
def poolSharesUptoRow : OpenClaim := { program := "ythnmbpcdcjamoaa", sum := "8f0e47161b7cd66f26277ca1d7513f43208a8d4836e8eedfb130de814e2f7b22", func := "postmark/postmarklaw21.PoolShares", spec := "poolShares", unfollowed := true, recurses := true, apart := false, narrowed := true }
def PoolSharesUptoSaid : Prop := poolSharesUptoRow.holds Try.pinned (OpenSpec.upto poolSharesSpec)

/-- 'postmarklaw21.PoolPlays', WHERE WHAT IT READS IS OF BULK AT MOST 1048576: true; the input reads as it did. -/
def poolPlaysUptoRow : OpenClaim := { program := "ythnmbpcdcjamoaa", sum := "8f0e47161b7cd66f26277ca1d7513f43208a8d4836e8eedfb130de814e2f7b22", func := "postmark/postmarklaw21.PoolPlays", spec := "poolPlays", unfollowed := true, recurses := true, apart := false, narrowed := true }
def PoolPlaysUptoSaid : Prop := poolPlaysUptoRow.holds Try.pinned (OpenSpec.upto poolPlaysSpec)

end Rows
end Go.Proofs.Ythnmbpcdcjamoaa
