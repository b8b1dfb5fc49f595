/-
  NARROWER THAN 'FOR EVERY INPUT', by the rows' own cells (each row's printed sentence says how): RefuteNone: laid · RefuteKept: laid · RefuteDues: laid · RefuteFree: laid.
  DERIVED. THE GIVEN ROWS OF THIS SEAT. 4 by the template 'for every input the law returns true; each argument reads behind the call as it read before'; 0 by the template 'total and deterministic' (their statements: YtppmiggkknhdkaaDoorTotals.lean).
  GIVEN WITH THE SEED: the statements are not yours to turn. If you find one false, say at which input.
  Laid BY PROGRAM, IN A SANDBOX (cutbox-rows.mjs): the forced cells as the released guide's own fill.sh prints them over the translation d1810dff2622fd97… (all of the seat's roots in one cut). By AI agents, Wed Nov 11 2026. No macro, syntax, notation, axiom, sorry.
-/
import Derived.Test.YtppmiggkknhdkaaDoorChecked
import GoSem.Claim
import GoSem.ClaimJoined
import GoSem.ClaimMapViews
import Derived.JoinedTies
import Derived.KernelRfl
namespace Go.Proofs.YtppmiggkknhdkaaDoor
/- THE CELL 'sum', in the pinned program and in every row, IS THE sha256 OF THE DUMP (.gsa) THAT YtppmiggkknhdkaaDoorProg.lean LOADS. Nothing in Lean hashes anything: it is a label: what it is worth is what the hold of that sum in a sandbox is worth. -/
noncomputable def Tryd.pinned : Pinned := { name := "ytppmiggkknhdkaadoor", sum := "d1810dff2622fd97ed6b44dc057179ab94b92062ae6a35a7c705e0e16c7c102b", checked := Tryd.checked }
namespace Rows
def none {H : Type} : Left H := { results := [], args := [] }

/- WHAT THE LISTED PACKAGE-LEVEL VARIABLES READ AS WHEN THE CALL BEGINS. Each datum BY PROGRAM (the guide's laid-datum.mjs) off the statement by which the dump's own 'gosem.cut.vars' lays the variable. In a bare row this is a premise. The card (YtppmiggkknhdkaaDoorCards.lean) ties it to the program's text. -/
def laid_earshot_refute_errNoDefence {H : Type} : DataW H := .iface "*errors.errorString" (.ptr (.agg [.lit (.string [110, 111, 116, 104, 105, 110, 103, 32, 116, 111, 32, 114, 101, 102, 117, 116, 101])]))

/-- 'earshotlaw15.RefuteNone': WHATEVER THE INPUT: true; the input reads as it did. -/
def refuteNoneSpec : ChangeSpec := { name := "refuteNone", fn := fun _ => fun
  | [d] => { results := [.lit (.bool true)], args := [d] }
  | _ => none }
def refuteNoneRow : OpenClaim := { program := "ytppmiggkknhdkaadoor", sum := "d1810dff2622fd97ed6b44dc057179ab94b92062ae6a35a7c705e0e16c7c102b", func := "earshot/earshotlaw15.RefuteNone", spec := "refuteNone", inPlace := ["internal/reflectlite.TypeOf"], unfollowed := true, recurses := true, named := ["earshot/refute.errNoDefence"], apart := false, laid := [("earshot/refute.errNoDefence", laid_earshot_refute_errNoDefence)] }
def RefuteNoneSaid : Prop := refuteNoneRow.holds Tryd.pinned (OpenSpec.ofChange refuteNoneSpec)

/-- ITS FALSE NEIGHBOUR: 'it returns false'. Refute it at one input. -/
def refuteNoneWrong : ChangeSpec := { name := "refuteNone", fn := fun _ => fun
  | [d] => { results := [.lit (.bool false)], args := [d] }
  | _ => none }
def RefuteNoneWrongFalsely : Prop := refuteNoneRow.holds Tryd.pinned (OpenSpec.ofChange refuteNoneWrong)

/-- 'earshotlaw15.RefuteKept': WHATEVER THE INPUT: true; the input reads as it did. -/
def refuteKeptSpec : ChangeSpec := { name := "refuteKept", fn := fun _ => fun
  | [d1, d2, d3, d4] => { results := [.lit (.bool true)], args := [d1, d2, d3, d4] }
  | _ => none }
def refuteKeptRow : OpenClaim := { program := "ytppmiggkknhdkaadoor", sum := "d1810dff2622fd97ed6b44dc057179ab94b92062ae6a35a7c705e0e16c7c102b", func := "earshot/earshotlaw15.RefuteKept", spec := "refuteKept", inPlace := ["internal/reflectlite.TypeOf"], unfollowed := true, recurses := true, named := ["earshot/refute.errNoDefence"], apart := false, laid := [("earshot/refute.errNoDefence", laid_earshot_refute_errNoDefence)] }
def RefuteKeptSaid : Prop := refuteKeptRow.holds Tryd.pinned (OpenSpec.ofChange refuteKeptSpec)

/-- ITS FALSE NEIGHBOUR: 'it returns false'. Refute it at one input. -/
def refuteKeptWrong : ChangeSpec := { name := "refuteKept", fn := fun _ => fun
  | [d1, d2, d3, d4] => { results := [.lit (.bool false)], args := [d1, d2, d3, d4] }
  | _ => none }
def RefuteKeptWrongFalsely : Prop := refuteKeptRow.holds Tryd.pinned (OpenSpec.ofChange refuteKeptWrong)

/-- 'earshotlaw15.RefuteDues': WHATEVER THE INPUT: true; the input reads as it did. -/
def refuteDuesSpec : ChangeSpec := { name := "refuteDues", fn := fun _ => fun
  | [d1, d2, d3, d4, d5] => { results := [.lit (.bool true)], args := [d1, d2, d3, d4, d5] }
  | _ => none }
def refuteDuesRow : OpenClaim := { program := "ytppmiggkknhdkaadoor", sum := "d1810dff2622fd97ed6b44dc057179ab94b92062ae6a35a7c705e0e16c7c102b", func := "earshot/earshotlaw15.RefuteDues", spec := "refuteDues", inPlace := ["internal/reflectlite.TypeOf"], unfollowed := true, recurses := true, named := ["earshot/refute.errNoDefence"], apart := false, laid := [("earshot/refute.errNoDefence", laid_earshot_refute_errNoDefence)] }
def RefuteDuesSaid : Prop := refuteDuesRow.holds Tryd.pinned (OpenSpec.ofChange refuteDuesSpec)

/-- ITS FALSE NEIGHBOUR: 'it returns false'. Refute it at one input. -/
def refuteDuesWrong : ChangeSpec := { name := "refuteDues", fn := fun _ => fun
  | [d1, d2, d3, d4, d5] => { results := [.lit (.bool false)], args := [d1, d2, d3, d4, d5] }
  | _ => none }
def RefuteDuesWrongFalsely : Prop := refuteDuesRow.holds Tryd.pinned (OpenSpec.ofChange refuteDuesWrong)

/-- 'earshotlaw15.RefuteFree': WHATEVER THE INPUT: true; the input reads as it did. -/
def refuteFreeSpec : ChangeSpec := { name := "refuteFree", fn := fun _ => fun
  | [d1, d2, d3] => { results := [.lit (.bool true)], args := [d1, d2, d3] }
  | _ => none }
def refuteFreeRow : OpenClaim := { program := "ytppmiggkknhdkaadoor", sum := "d1810dff2622fd97ed6b44dc057179ab94b92062ae6a35a7c705e0e16c7c102b", func := "earshot/earshotlaw15.RefuteFree", spec := "refuteFree", inPlace := ["internal/reflectlite.TypeOf"], unfollowed := true, recurses := true, named := ["earshot/refute.errNoDefence"], apart := false, laid := [("earshot/refute.errNoDefence", laid_earshot_refute_errNoDefence)] }
def RefuteFreeSaid : Prop := refuteFreeRow.holds Tryd.pinned (OpenSpec.ofChange refuteFreeSpec)

/-- ITS FALSE NEIGHBOUR: 'it returns false'. Refute it at one input. -/
def refuteFreeWrong : ChangeSpec := { name := "refuteFree", fn := fun _ => fun
  | [d1, d2, d3] => { results := [.lit (.bool false)], args := [d1, d2, d3] }
  | _ => none }
def RefuteFreeWrongFalsely : Prop := refuteFreeRow.holds Tryd.pinned (OpenSpec.ofChange refuteFreeWrong)

/- THE SECOND FORM. 'bulk': how many values and letters a reading holds, each counted each time it is reached (what is shared counts as often as it is met; a slice's spare places count too). A statement '..UptoSaid' is the law's where the arguments, and the package variables that the reading takes, are together of bulk at most 1048576: NARROWER than '..Said'. Prove '..Said' where nothing that the law and all that it calls make is longer than what came in: it says more and counts as full. Else prove '..UptoSaid'. A law counts once. -/
mutual
def uptoBulk {H : Type} : DataW H → Nat
  | .lit (.string bytes) => bytes.length + 1
  | .lit _ => 1
  | .nil => 1
  | .ptr d => uptoBulk d + 1
  | .slice elems spare => uptoBulkAll elems + uptoBulkAll spare + 1
  | .agg parts => uptoBulkAll parts + 1
  | .iface _ d => uptoBulk d + 1
  | .map entries => uptoBulkEntries entries + 1
  | .held _ => 1
def uptoBulkAll {H : Type} : List (DataW H) → Nat
  | [] => 0
  | d :: r => uptoBulk d + uptoBulkAll r
def uptoBulkEntries {H : Type} : List (Lit × DataW H) → Nat
  | [] => 0
  | x :: r => uptoBulkEntry x + uptoBulkEntries r
def uptoBulkEntry {H : Type} : Lit × DataW H → Nat
  | (.string bytes, d) => bytes.length + uptoBulk d + 1
  | (_, d) => uptoBulk d + 1
 end
def uptoSmall : (H : Type) → List (DataW H) → Bool := fun _ ds => decide (uptoBulkAll ds ≤ 1048576)
def OpenSpec.upto (s : _root_.Go.ChangeSpec) : _root_.Go.OpenSpec := { _root_.Go.OpenSpec.ofChange s with cond := some uptoSmall }

/-- 'earshotlaw15.RefuteNone', WHERE WHAT IT READS IS OF BULK AT MOST 1048576: true; the input reads as it did. -/
def refuteNoneUptoRow : OpenClaim := { program := "ytppmiggkknhdkaadoor", sum := "d1810dff2622fd97ed6b44dc057179ab94b92062ae6a35a7c705e0e16c7c102b", func := "earshot/earshotlaw15.RefuteNone", spec := "refuteNone", inPlace := ["internal/reflectlite.TypeOf"], unfollowed := true, recurses := true, named := ["earshot/refute.errNoDefence"], apart := false, laid := [("earshot/refute.errNoDefence", laid_earshot_refute_errNoDefence)], narrowed := true }
def RefuteNoneUptoSaid : Prop := refuteNoneUptoRow.holds Tryd.pinned (OpenSpec.upto refuteNoneSpec)

/-- 'earshotlaw15.RefuteKept', WHERE WHAT IT READS IS OF BULK AT MOST 1048576: true; the input reads as it did. -/
def refuteKeptUptoRow : OpenClaim := { program := "ytppmiggkknhdkaadoor", sum := "d1810dff2622fd97ed6b44dc057179ab94b92062ae6a35a7c705e0e16c7c102b", func := "earshot/earshotlaw15.RefuteKept", spec := "refuteKept", inPlace := ["internal/reflectlite.TypeOf"], unfollowed := true, recurses := true, named := ["earshot/refute.errNoDefence"], apart := false, laid := [("earshot/refute.errNoDefence", laid_earshot_refute_errNoDefence)], narrowed := true }
def RefuteKeptUptoSaid : Prop := refuteKeptUptoRow.holds Tryd.pinned (OpenSpec.upto refuteKeptSpec)

/-- 'earshotlaw15.RefuteDues', WHERE WHAT IT READS IS OF BULK AT MOST 1048576: true; the input reads as it did. -/
def refuteDuesUptoRow : OpenClaim := { program := "ytppmiggkknhdkaadoor", sum := "d1810dff2622fd97ed6b44dc057179ab94b92062ae6a35a7c705e0e16c7c102b", func := "earshot/earshotlaw15.RefuteDues", spec := "refuteDues", inPlace := ["internal/reflectlite.TypeOf"], unfollowed := true, recurses := true, named := ["earshot/refute.errNoDefence"], apart := false, laid := [("earshot/refute.errNoDefence", laid_earshot_refute_errNoDefence)], narrowed := true }
def RefuteDuesUptoSaid : Prop := refuteDuesUptoRow.holds Tryd.pinned (OpenSpec.upto refuteDuesSpec)

/-- 'earshotlaw15.RefuteFree', WHERE WHAT IT READS IS OF BULK AT MOST 1048576: true; the input reads as it did. -/
def refuteFreeUptoRow : OpenClaim := { program := "ytppmiggkknhdkaadoor", sum := "d1810dff2622fd97ed6b44dc057179ab94b92062ae6a35a7c705e0e16c7c102b", func := "earshot/earshotlaw15.RefuteFree", spec := "refuteFree", inPlace := ["internal/reflectlite.TypeOf"], unfollowed := true, recurses := true, named := ["earshot/refute.errNoDefence"], apart := false, laid := [("earshot/refute.errNoDefence", laid_earshot_refute_errNoDefence)], narrowed := true }
def RefuteFreeUptoSaid : Prop := refuteFreeUptoRow.holds Tryd.pinned (OpenSpec.upto refuteFreeSpec)

end Rows
end Go.Proofs.YtppmiggkknhdkaaDoor
