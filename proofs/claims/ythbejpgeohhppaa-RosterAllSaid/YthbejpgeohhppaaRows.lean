/-
  No cell of these rows narrows 'for every input' (looked for: loops, veiled, ifaces, maps, wideKeys, modest, calm, conditions, laid).
  DERIVED. THE GIVEN ROWS OF THIS SEAT. 9 by the template 'for every input the law returns true; each argument reads behind the call as it read before'; 0 by the template 'total and deterministic' (their statements: YthbejpgeohhppaaTotals.lean).
  GIVEN WITH THE SEED: the statements are not yours to turn. If you find one false, say at which input.
  Laid BY PROGRAM, IN A SANDBOX (cutbox-rows.mjs): the forced cells as the released guide's own fill.sh prints them over the translation 60d5784f46e50ffb… (all of the seat's roots in one cut). By AI agents, Wed Nov 11 2026. No macro, syntax, notation, axiom, sorry.
-/
import Derived.Test.YthbejpgeohhppaaChecked
import GoSem.Claim
import GoSem.ClaimJoined
import GoSem.ClaimMapViews
import Derived.JoinedTies
import Derived.KernelRfl
namespace Go.Proofs.Ythbejpgeohhppaa
/- THE CELL 'sum', in the pinned program and in every row, IS THE sha256 OF THE DUMP (.gsa) THAT YthbejpgeohhppaaProg.lean LOADS. Nothing in Lean hashes anything: it is a label: what it is worth is what the hold of that sum in a sandbox is worth. -/
noncomputable def Try.pinned : Pinned := { name := "ythbejpgeohhppaa", sum := "60d5784f46e50ffb9c52ae2b7d56d02837a4d43637e519aa1303fdb233b0760d", checked := Try.checked }
namespace Rows
def none {H : Type} : Left H := { results := [], args := [] }

/-- 'earshotlaw4.RosterReads': WHATEVER THE INPUT: true; the input reads as it did. -/
def rosterReadsSpec : ChangeSpec := { name := "rosterReads", fn := fun _ => fun
  | [d] => { results := [.lit (.bool true)], args := [d] }
  | _ => none }
def rosterReadsRow : OpenClaim := { program := "ythbejpgeohhppaa", sum := "60d5784f46e50ffb9c52ae2b7d56d02837a4d43637e519aa1303fdb233b0760d", func := "earshot/earshotlaw4.RosterReads", spec := "rosterReads", apart := false }
def RosterReadsSaid : Prop := rosterReadsRow.holds Try.pinned (OpenSpec.ofChange rosterReadsSpec)

/-- ITS FALSE NEIGHBOUR: 'it returns false'. Refute it at one input. -/
def rosterReadsWrong : ChangeSpec := { name := "rosterReads", fn := fun _ => fun
  | [d] => { results := [.lit (.bool false)], args := [d] }
  | _ => none }
def RosterReadsWrongFalsely : Prop := rosterReadsRow.holds Try.pinned (OpenSpec.ofChange rosterReadsWrong)

/-- 'earshotlaw4.RosterAsks': WHATEVER THE INPUT: true; the input reads as it did. -/
def rosterAsksSpec : ChangeSpec := { name := "rosterAsks", fn := fun _ => fun
  | [d1, d2, d3] => { results := [.lit (.bool true)], args := [d1, d2, d3] }
  | _ => none }
def rosterAsksRow : OpenClaim := { program := "ythbejpgeohhppaa", sum := "60d5784f46e50ffb9c52ae2b7d56d02837a4d43637e519aa1303fdb233b0760d", func := "earshot/earshotlaw4.RosterAsks", spec := "rosterAsks", apart := false }
def RosterAsksSaid : Prop := rosterAsksRow.holds Try.pinned (OpenSpec.ofChange rosterAsksSpec)

/-- ITS FALSE NEIGHBOUR: 'it returns false'. Refute it at one input. -/
def rosterAsksWrong : ChangeSpec := { name := "rosterAsks", fn := fun _ => fun
  | [d1, d2, d3] => { results := [.lit (.bool false)], args := [d1, d2, d3] }
  | _ => none }
def RosterAsksWrongFalsely : Prop := rosterAsksRow.holds Try.pinned (OpenSpec.ofChange rosterAsksWrong)

/-- 'earshotlaw4.RosterOwn': WHATEVER THE INPUT: true; the input reads as it did. -/
def rosterOwnSpec : ChangeSpec := { name := "rosterOwn", fn := fun _ => fun
  | [d] => { results := [.lit (.bool true)], args := [d] }
  | _ => none }
def rosterOwnRow : OpenClaim := { program := "ythbejpgeohhppaa", sum := "60d5784f46e50ffb9c52ae2b7d56d02837a4d43637e519aa1303fdb233b0760d", func := "earshot/earshotlaw4.RosterOwn", spec := "rosterOwn", apart := false }
def RosterOwnSaid : Prop := rosterOwnRow.holds Try.pinned (OpenSpec.ofChange rosterOwnSpec)

/-- ITS FALSE NEIGHBOUR: 'it returns false'. Refute it at one input. -/
def rosterOwnWrong : ChangeSpec := { name := "rosterOwn", fn := fun _ => fun
  | [d] => { results := [.lit (.bool false)], args := [d] }
  | _ => none }
def RosterOwnWrongFalsely : Prop := rosterOwnRow.holds Try.pinned (OpenSpec.ofChange rosterOwnWrong)

/-- 'earshotlaw4.RosterTurned': WHATEVER THE INPUT: true; the input reads as it did. -/
def rosterTurnedSpec : ChangeSpec := { name := "rosterTurned", fn := fun _ => fun
  | [d1, d2, d3] => { results := [.lit (.bool true)], args := [d1, d2, d3] }
  | _ => none }
def rosterTurnedRow : OpenClaim := { program := "ythbejpgeohhppaa", sum := "60d5784f46e50ffb9c52ae2b7d56d02837a4d43637e519aa1303fdb233b0760d", func := "earshot/earshotlaw4.RosterTurned", spec := "rosterTurned", unfollowed := true, recurses := true, apart := false }
def RosterTurnedSaid : Prop := rosterTurnedRow.holds Try.pinned (OpenSpec.ofChange rosterTurnedSpec)

/-- ITS FALSE NEIGHBOUR: 'it returns false'. Refute it at one input. -/
def rosterTurnedWrong : ChangeSpec := { name := "rosterTurned", fn := fun _ => fun
  | [d1, d2, d3] => { results := [.lit (.bool false)], args := [d1, d2, d3] }
  | _ => none }
def RosterTurnedWrongFalsely : Prop := rosterTurnedRow.holds Try.pinned (OpenSpec.ofChange rosterTurnedWrong)

/-- 'earshotlaw4.RosterParses': WHATEVER THE INPUT: true; the input reads as it did. -/
def rosterParsesSpec : ChangeSpec := { name := "rosterParses", fn := fun _ => fun
  | [d1, d2] => { results := [.lit (.bool true)], args := [d1, d2] }
  | _ => none }
def rosterParsesRow : OpenClaim := { program := "ythbejpgeohhppaa", sum := "60d5784f46e50ffb9c52ae2b7d56d02837a4d43637e519aa1303fdb233b0760d", func := "earshot/earshotlaw4.RosterParses", spec := "rosterParses", unfollowed := true, recurses := true, apart := false }
def RosterParsesSaid : Prop := rosterParsesRow.holds Try.pinned (OpenSpec.ofChange rosterParsesSpec)

/-- ITS FALSE NEIGHBOUR: 'it returns false'. Refute it at one input. -/
def rosterParsesWrong : ChangeSpec := { name := "rosterParses", fn := fun _ => fun
  | [d1, d2] => { results := [.lit (.bool false)], args := [d1, d2] }
  | _ => none }
def RosterParsesWrongFalsely : Prop := rosterParsesRow.holds Try.pinned (OpenSpec.ofChange rosterParsesWrong)

/-- 'earshotlaw4.RosterPrints': WHATEVER THE INPUT: true; the input reads as it did. -/
def rosterPrintsSpec : ChangeSpec := { name := "rosterPrints", fn := fun _ => fun
  | [d1, d2] => { results := [.lit (.bool true)], args := [d1, d2] }
  | _ => none }
def rosterPrintsRow : OpenClaim := { program := "ythbejpgeohhppaa", sum := "60d5784f46e50ffb9c52ae2b7d56d02837a4d43637e519aa1303fdb233b0760d", func := "earshot/earshotlaw4.RosterPrints", spec := "rosterPrints", inPlace := ["internal/abi.NoEscape"], unfollowed := true, recurses := true, apart := false }
def RosterPrintsSaid : Prop := rosterPrintsRow.holds Try.pinned (OpenSpec.ofChange rosterPrintsSpec)

/-- ITS FALSE NEIGHBOUR: 'it returns false'. Refute it at one input. -/
def rosterPrintsWrong : ChangeSpec := { name := "rosterPrints", fn := fun _ => fun
  | [d1, d2] => { results := [.lit (.bool false)], args := [d1, d2] }
  | _ => none }
def RosterPrintsWrongFalsely : Prop := rosterPrintsRow.holds Try.pinned (OpenSpec.ofChange rosterPrintsWrong)

/-- 'earshotlaw4.RosterBack': WHATEVER THE INPUT: true; the input reads as it did. -/
def rosterBackSpec : ChangeSpec := { name := "rosterBack", fn := fun _ => fun
  | [d1, d2] => { results := [.lit (.bool true)], args := [d1, d2] }
  | _ => none }
def rosterBackRow : OpenClaim := { program := "ythbejpgeohhppaa", sum := "60d5784f46e50ffb9c52ae2b7d56d02837a4d43637e519aa1303fdb233b0760d", func := "earshot/earshotlaw4.RosterBack", spec := "rosterBack", inPlace := ["internal/abi.NoEscape"], unfollowed := true, recurses := true, apart := false }
def RosterBackSaid : Prop := rosterBackRow.holds Try.pinned (OpenSpec.ofChange rosterBackSpec)

/-- ITS FALSE NEIGHBOUR: 'it returns false'. Refute it at one input. -/
def rosterBackWrong : ChangeSpec := { name := "rosterBack", fn := fun _ => fun
  | [d1, d2] => { results := [.lit (.bool false)], args := [d1, d2] }
  | _ => none }
def RosterBackWrongFalsely : Prop := rosterBackRow.holds Try.pinned (OpenSpec.ofChange rosterBackWrong)

/-- 'earshotlaw4.RosterNamed': WHATEVER THE INPUT: true; the input reads as it did. -/
def rosterNamedSpec : ChangeSpec := { name := "rosterNamed", fn := fun _ => fun
  | [d1, d2, d3] => { results := [.lit (.bool true)], args := [d1, d2, d3] }
  | _ => none }
def rosterNamedRow : OpenClaim := { program := "ythbejpgeohhppaa", sum := "60d5784f46e50ffb9c52ae2b7d56d02837a4d43637e519aa1303fdb233b0760d", func := "earshot/earshotlaw4.RosterNamed", spec := "rosterNamed", inPlace := ["internal/abi.NoEscape"], unfollowed := true, recurses := true, apart := false }
def RosterNamedSaid : Prop := rosterNamedRow.holds Try.pinned (OpenSpec.ofChange rosterNamedSpec)

/-- ITS FALSE NEIGHBOUR: 'it returns false'. Refute it at one input. -/
def rosterNamedWrong : ChangeSpec := { name := "rosterNamed", fn := fun _ => fun
  | [d1, d2, d3] => { results := [.lit (.bool false)], args := [d1, d2, d3] }
  | _ => none }
def RosterNamedWrongFalsely : Prop := rosterNamedRow.holds Try.pinned (OpenSpec.ofChange rosterNamedWrong)

/-- 'earshotlaw4.RosterAll': WHATEVER THE INPUT: true; the input reads as it did. -/
def rosterAllSpec : ChangeSpec := { name := "rosterAll", fn := fun _ => fun
  | [d1, d2] => { results := [.lit (.bool true)], args := [d1, d2] }
  | _ => none }
def rosterAllRow : OpenClaim := { program := "ythbejpgeohhppaa", sum := "60d5784f46e50ffb9c52ae2b7d56d02837a4d43637e519aa1303fdb233b0760d", func := "earshot/earshotlaw4.RosterAll", spec := "rosterAll", inPlace := ["internal/abi.NoEscape"], unfollowed := true, recurses := true, apart := false }
def RosterAllSaid : Prop := rosterAllRow.holds Try.pinned (OpenSpec.ofChange rosterAllSpec)

/-- ITS FALSE NEIGHBOUR: 'it returns false'. Refute it at one input. -/
def rosterAllWrong : ChangeSpec := { name := "rosterAll", fn := fun _ => fun
  | [d1, d2] => { results := [.lit (.bool false)], args := [d1, d2] }
  | _ => none }
def RosterAllWrongFalsely : Prop := rosterAllRow.holds Try.pinned (OpenSpec.ofChange rosterAllWrong)

/- THE SECOND FORM. 'bulk': how many values and letters a reading holds, each counted each time it is reached (what is shared counts as often as it is met; a slice's spare places count too). A statement '..UptoSaid' is the law's where the arguments, and the package variables that the reading takes, are together of bulk at most 1048576: NARROWER than '..Said'. Prove '..Said' where nothing that the law and all that it calls make is longer than what came in: it says more and counts as full. Else prove '..UptoSaid'. A law counts once. -/
mutual
def uptoBulk {H : Type} : DataW H → Nat
  | .lit (.string bytes) => bytes.length + 1
  | .lit _ => 1
  | .nil => 1
  | .ptr d => uptoBulk d + 1
  | .slice elems spare => uptoBulkAll elems + uptoBulkAll spare + 1
  | .agg parts => uptoBulkAll parts + 1
  | .iface _ d => uptoBulk d + 1
  | .map entries => uptoBulkEntries entries + 1
  | .held _ => 1
def uptoBulkAll {H : Type} : List (DataW H) → Nat
  | [] => 0
  | d :: r => uptoBulk d + uptoBulkAll r
def uptoBulkEntries {H : Type} : List (Lit × DataW H) → Nat
  | [] => 0
  | x :: r => uptoBulkEntry x + uptoBulkEntries r
def uptoBulkEntry {H : Type} : Lit × DataW H → Nat
  | (.string bytes, d) => bytes.length + uptoBulk d + 1
  | (_, d) => uptoBulk d + 1
 end
def uptoSmall : (H : Type) → List (DataW H) → Bool := fun _ ds => decide (uptoBulkAll ds ≤ 1048576)
def OpenSpec.upto (s : _root_.Go.ChangeSpec) : _root_.Go.OpenSpec := { _root_.Go.OpenSpec.ofChange s with cond := some uptoSmall }

/-- 'earshotlaw4.RosterReads', WHERE WHAT IT READS IS OF BULK AT MOST 1048576: true; the input reads as it did. -/
def rosterReadsUptoRow : OpenClaim := { program := "ythbejpgeohhppaa", sum := "60d5784f46e50ffb9c52ae2b7d56d02837a4d43637e519aa1303fdb233b0760d", func := "earshot/earshotlaw4.RosterReads", spec := "rosterReads", apart := false, narrowed := true }
def RosterReadsUptoSaid : Prop := rosterReadsUptoRow.holds Try.pinned (OpenSpec.upto rosterReadsSpec)

/-- 'earshotlaw4.RosterAsks', WHERE WHAT IT READS IS OF BULK AT MOST 1048576: true; the input reads as it did. -/
def rosterAsksUptoRow : OpenClaim := { program := "ythbejpgeohhppaa", sum := "60d5784f46e50ffb9c52ae2b7d56d02837a4d43637e519aa1303fdb233b0760d", func := "earshot/earshotlaw4.RosterAsks", spec := "rosterAsks", apart := false, narrowed := true }
def RosterAsksUptoSaid : Prop := rosterAsksUptoRow.holds Try.pinned (OpenSpec.upto rosterAsksSpec)

/-- 'earshotlaw4.RosterOwn', WHERE WHAT IT READS IS OF BULK AT MOST 1048576: true; the input reads as it did. -/
def rosterOwnUptoRow : OpenClaim := { program := "ythbejpgeohhppaa", sum := "60d5784f46e50ffb9c52ae2b7d56d02837a4d43637e519aa1303fdb233b0760d", func := "earshot/earshotlaw4.RosterOwn", spec := "rosterOwn", apart := false, narrowed := true }
def RosterOwnUptoSaid : Prop := rosterOwnUptoRow.holds Try.pinned (OpenSpec.upto rosterOwnSpec)

/-- 'earshotlaw4.RosterTurned', WHERE WHAT IT READS IS OF BULK AT MOST 1048576: true; the input reads as it did. -/
def rosterTurnedUptoRow : OpenClaim := { program := "ythbejpgeohhppaa", sum := "60d5784f46e50ffb9c52ae2b7d56d02837a4d43637e519aa1303fdb233b0760d", func := "earshot/earshotlaw4.RosterTurned", spec := "rosterTurned", unfollowed := true, recurses := true, apart := false, narrowed := true }
def RosterTurnedUptoSaid : Prop := rosterTurnedUptoRow.holds Try.pinned (OpenSpec.upto rosterTurnedSpec)

/-- 'earshotlaw4.RosterParses', WHERE WHAT IT READS IS OF BULK AT MOST 1048576: true; the input reads as it did. -/
def rosterParsesUptoRow : OpenClaim := { program := "ythbejpgeohhppaa", sum := "60d5784f46e50ffb9c52ae2b7d56d02837a4d43637e519aa1303fdb233b0760d", func := "earshot/earshotlaw4.RosterParses", spec := "rosterParses", unfollowed := true, recurses := true, apart := false, narrowed := true }
def RosterParsesUptoSaid : Prop := rosterParsesUptoRow.holds Try.pinned (OpenSpec.upto rosterParsesSpec)

/-- 'earshotlaw4.RosterPrints', WHERE WHAT IT READS IS OF BULK AT MOST 1048576: true; the input reads as it did. -/
def rosterPrintsUptoRow : OpenClaim := { program := "ythbejpgeohhppaa", sum := "60d5784f46e50ffb9c52ae2b7d56d02837a4d43637e519aa1303fdb233b0760d", func := "earshot/earshotlaw4.RosterPrints", spec := "rosterPrints", inPlace := ["internal/abi.NoEscape"], unfollowed := true, recurses := true, apart := false, narrowed := true }
def RosterPrintsUptoSaid : Prop := rosterPrintsUptoRow.holds Try.pinned (OpenSpec.upto rosterPrintsSpec)

/-- 'earshotlaw4.RosterBack', WHERE WHAT IT READS IS OF BULK AT MOST 1048576: true; the input reads as it did. -/
def rosterBackUptoRow : OpenClaim := { program := "ythbejpgeohhppaa", sum := "60d5784f46e50ffb9c52ae2b7d56d02837a4d43637e519aa1303fdb233b0760d", func := "earshot/earshotlaw4.RosterBack", spec := "rosterBack", inPlace := ["internal/abi.NoEscape"], unfollowed := true, recurses := true, apart := false, narrowed := true }
def RosterBackUptoSaid : Prop := rosterBackUptoRow.holds Try.pinned (OpenSpec.upto rosterBackSpec)

/-- 'earshotlaw4.RosterNamed', WHERE WHAT IT READS IS OF BULK AT MOST 1048576: true; the input reads as it did. -/
def rosterNamedUptoRow : OpenClaim := { program := "ythbejpgeohhppaa", sum := "60d5784f46e50ffb9c52ae2b7d56d02837a4d43637e519aa1303fdb233b0760d", func := "earshot/earshotlaw4.RosterNamed", spec := "rosterNamed", inPlace := ["internal/abi.NoEscape"], unfollowed := true, recurses := true, apart := false, narrowed := true }
def RosterNamedUptoSaid : Prop := rosterNamedUptoRow.holds Try.pinned (OpenSpec.upto rosterNamedSpec)

/-- 'earshotlaw4.RosterAll', WHERE WHAT IT READS IS OF BULK AT MOST 1048576: true; the input reads as it did. -/
def rosterAllUptoRow : OpenClaim := { program := "ythbejpgeohhppaa", sum := "60d5784f46e50ffb9c52ae2b7d56d02837a4d43637e519aa1303fdb233b0760d", func := "earshot/earshotlaw4.RosterAll", spec := "rosterAll", inPlace := ["internal/abi.NoEscape"], unfollowed := true, recurses := true, apart := false, narrowed := true }
def RosterAllUptoSaid : Prop := rosterAllUptoRow.holds Try.pinned (OpenSpec.upto rosterAllSpec)

end Rows
end Go.Proofs.Ythbejpgeohhppaa
