/-
  No cell of these rows narrows 'for every input' (looked for: loops, veiled, ifaces, maps, wideKeys, modest, calm, conditions, laid).
  DERIVED. THE GIVEN ROWS OF THIS SEAT. 17 by the template 'for every input the law returns true; each argument reads behind the call as it read before'; 0 by the template 'total and deterministic' (their statements: YthkppkecclnlnaaTotals.lean).
  GIVEN WITH THE SEED: the statements are not yours to turn. If you find one false, say at which input.
  Laid BY PROGRAM, IN A SANDBOX (cutbox-rows.mjs): the forced cells as the released guide's own fill.sh prints them over the translation b8830818f850ab98… (all of the seat's roots in one cut). By AI agents, Wed Nov 11 2026. No macro, syntax, notation, axiom, sorry.
-/
import Derived.Test.YthkppkecclnlnaaChecked
import GoSem.Claim
import GoSem.ClaimJoined
import GoSem.ClaimMapViews
import Derived.JoinedTies
import Derived.KernelRfl
namespace Go.Proofs.Ythkppkecclnlnaa
/- THE CELL 'sum', in the pinned program and in every row, IS THE sha256 OF THE DUMP (.gsa) THAT YthkppkecclnlnaaProg.lean LOADS. Nothing in Lean hashes anything: it is a label: what it is worth is what the hold of that sum in a sandbox is worth. -/
noncomputable def Try.pinned : Pinned := { name := "ythkppkecclnlnaa", sum := "b8830818f850ab98d1c2517256681e2e8e175dbb2ba73e7a8fa904031cbf0f39", checked := Try.checked }
namespace Rows
def none {H : Type} : Left H := { results := [], args := [] }

/-- 'earshotlaw10.DiskWhole': WHATEVER THE INPUT: true; the input reads as it did. -/
def diskWholeSpec : ChangeSpec := { name := "diskWhole", fn := fun _ => fun
  | [d1, d2] => { results := [.lit (.bool true)], args := [d1, d2] }
  | _ => none }
def diskWholeRow : OpenClaim := { program := "ythkppkecclnlnaa", sum := "b8830818f850ab98d1c2517256681e2e8e175dbb2ba73e7a8fa904031cbf0f39", func := "earshot/earshotlaw10.DiskWhole", spec := "diskWhole", apart := false }
def DiskWholeSaid : Prop := diskWholeRow.holds Try.pinned (OpenSpec.ofChange diskWholeSpec)

/-- ITS FALSE NEIGHBOUR: 'it returns false'. Refute it at one input. -/
def diskWholeWrong : ChangeSpec := { name := "diskWhole", fn := fun _ => fun
  | [d1, d2] => { results := [.lit (.bool false)], args := [d1, d2] }
  | _ => none }
def DiskWholeWrongFalsely : Prop := diskWholeRow.holds Try.pinned (OpenSpec.ofChange diskWholeWrong)

/-- 'earshotlaw10.DiskFuse': WHATEVER THE INPUT: true; the input reads as it did. -/
def diskFuseSpec : ChangeSpec := { name := "diskFuse", fn := fun _ => fun
  | [d1, d2] => { results := [.lit (.bool true)], args := [d1, d2] }
  | _ => none }
def diskFuseRow : OpenClaim := { program := "ythkppkecclnlnaa", sum := "b8830818f850ab98d1c2517256681e2e8e175dbb2ba73e7a8fa904031cbf0f39", func := "earshot/earshotlaw10.DiskFuse", spec := "diskFuse", apart := false }
def DiskFuseSaid : Prop := diskFuseRow.holds Try.pinned (OpenSpec.ofChange diskFuseSpec)

/-- ITS FALSE NEIGHBOUR: 'it returns false'. Refute it at one input. -/
def diskFuseWrong : ChangeSpec := { name := "diskFuse", fn := fun _ => fun
  | [d1, d2] => { results := [.lit (.bool false)], args := [d1, d2] }
  | _ => none }
def DiskFuseWrongFalsely : Prop := diskFuseRow.holds Try.pinned (OpenSpec.ofChange diskFuseWrong)

/-- 'earshotlaw10.DiskNone': WHATEVER THE INPUT: true; the input reads as it did. -/
def diskNoneSpec : ChangeSpec := { name := "diskNone", fn := fun _ => fun
  | [d1, d2, d3] => { results := [.lit (.bool true)], args := [d1, d2, d3] }
  | _ => none }
def diskNoneRow : OpenClaim := { program := "ythkppkecclnlnaa", sum := "b8830818f850ab98d1c2517256681e2e8e175dbb2ba73e7a8fa904031cbf0f39", func := "earshot/earshotlaw10.DiskNone", spec := "diskNone", apart := false }
def DiskNoneSaid : Prop := diskNoneRow.holds Try.pinned (OpenSpec.ofChange diskNoneSpec)

/-- ITS FALSE NEIGHBOUR: 'it returns false'. Refute it at one input. -/
def diskNoneWrong : ChangeSpec := { name := "diskNone", fn := fun _ => fun
  | [d1, d2, d3] => { results := [.lit (.bool false)], args := [d1, d2, d3] }
  | _ => none }
def DiskNoneWrongFalsely : Prop := diskNoneRow.holds Try.pinned (OpenSpec.ofChange diskNoneWrong)

/-- 'earshotlaw10.DiskTwins': WHATEVER THE INPUT: true; the input reads as it did. -/
def diskTwinsSpec : ChangeSpec := { name := "diskTwins", fn := fun _ => fun
  | [d1, d2, d3] => { results := [.lit (.bool true)], args := [d1, d2, d3] }
  | _ => none }
def diskTwinsRow : OpenClaim := { program := "ythkppkecclnlnaa", sum := "b8830818f850ab98d1c2517256681e2e8e175dbb2ba73e7a8fa904031cbf0f39", func := "earshot/earshotlaw10.DiskTwins", spec := "diskTwins", apart := false }
def DiskTwinsSaid : Prop := diskTwinsRow.holds Try.pinned (OpenSpec.ofChange diskTwinsSpec)

/-- ITS FALSE NEIGHBOUR: 'it returns false'. Refute it at one input. -/
def diskTwinsWrong : ChangeSpec := { name := "diskTwins", fn := fun _ => fun
  | [d1, d2, d3] => { results := [.lit (.bool false)], args := [d1, d2, d3] }
  | _ => none }
def DiskTwinsWrongFalsely : Prop := diskTwinsRow.holds Try.pinned (OpenSpec.ofChange diskTwinsWrong)

/-- 'earshotlaw10.DiskPlays': WHATEVER THE INPUT: true; the input reads as it did. -/
def diskPlaysSpec : ChangeSpec := { name := "diskPlays", fn := fun _ => fun
  | [d1, d2] => { results := [.lit (.bool true)], args := [d1, d2] }
  | _ => none }
def diskPlaysRow : OpenClaim := { program := "ythkppkecclnlnaa", sum := "b8830818f850ab98d1c2517256681e2e8e175dbb2ba73e7a8fa904031cbf0f39", func := "earshot/earshotlaw10.DiskPlays", spec := "diskPlays", apart := false }
def DiskPlaysSaid : Prop := diskPlaysRow.holds Try.pinned (OpenSpec.ofChange diskPlaysSpec)

/-- ITS FALSE NEIGHBOUR: 'it returns false'. Refute it at one input. -/
def diskPlaysWrong : ChangeSpec := { name := "diskPlays", fn := fun _ => fun
  | [d1, d2] => { results := [.lit (.bool false)], args := [d1, d2] }
  | _ => none }
def DiskPlaysWrongFalsely : Prop := diskPlaysRow.holds Try.pinned (OpenSpec.ofChange diskPlaysWrong)

/-- 'earshotlaw10.DiskAll': WHATEVER THE INPUT: true; the input reads as it did. -/
def diskAllSpec : ChangeSpec := { name := "diskAll", fn := fun _ => fun
  | [d1, d2] => { results := [.lit (.bool true)], args := [d1, d2] }
  | _ => none }
def diskAllRow : OpenClaim := { program := "ythkppkecclnlnaa", sum := "b8830818f850ab98d1c2517256681e2e8e175dbb2ba73e7a8fa904031cbf0f39", func := "earshot/earshotlaw10.DiskAll", spec := "diskAll", apart := false }
def DiskAllSaid : Prop := diskAllRow.holds Try.pinned (OpenSpec.ofChange diskAllSpec)

/-- ITS FALSE NEIGHBOUR: 'it returns false'. Refute it at one input. -/
def diskAllWrong : ChangeSpec := { name := "diskAll", fn := fun _ => fun
  | [d1, d2] => { results := [.lit (.bool false)], args := [d1, d2] }
  | _ => none }
def DiskAllWrongFalsely : Prop := diskAllRow.holds Try.pinned (OpenSpec.ofChange diskAllWrong)

/-- 'earshotlaw11.SlotBack': WHATEVER THE INPUT: true; the input reads as it did. -/
def slotBackSpec : ChangeSpec := { name := "slotBack", fn := fun _ => fun
  | [d1, d2, d3, d4] => { results := [.lit (.bool true)], args := [d1, d2, d3, d4] }
  | _ => none }
def slotBackRow : OpenClaim := { program := "ythkppkecclnlnaa", sum := "b8830818f850ab98d1c2517256681e2e8e175dbb2ba73e7a8fa904031cbf0f39", func := "earshot/earshotlaw11.SlotBack", spec := "slotBack", apart := false }
def SlotBackSaid : Prop := slotBackRow.holds Try.pinned (OpenSpec.ofChange slotBackSpec)

/-- ITS FALSE NEIGHBOUR: 'it returns false'. Refute it at one input. -/
def slotBackWrong : ChangeSpec := { name := "slotBack", fn := fun _ => fun
  | [d1, d2, d3, d4] => { results := [.lit (.bool false)], args := [d1, d2, d3, d4] }
  | _ => none }
def SlotBackWrongFalsely : Prop := slotBackRow.holds Try.pinned (OpenSpec.ofChange slotBackWrong)

/-- 'earshotlaw11.SlotTurns': WHATEVER THE INPUT: true; the input reads as it did. -/
def slotTurnsSpec : ChangeSpec := { name := "slotTurns", fn := fun _ => fun
  | [d] => { results := [.lit (.bool true)], args := [d] }
  | _ => none }
def slotTurnsRow : OpenClaim := { program := "ythkppkecclnlnaa", sum := "b8830818f850ab98d1c2517256681e2e8e175dbb2ba73e7a8fa904031cbf0f39", func := "earshot/earshotlaw11.SlotTurns", spec := "slotTurns", apart := false }
def SlotTurnsSaid : Prop := slotTurnsRow.holds Try.pinned (OpenSpec.ofChange slotTurnsSpec)

/-- ITS FALSE NEIGHBOUR: 'it returns false'. Refute it at one input. -/
def slotTurnsWrong : ChangeSpec := { name := "slotTurns", fn := fun _ => fun
  | [d] => { results := [.lit (.bool false)], args := [d] }
  | _ => none }
def SlotTurnsWrongFalsely : Prop := slotTurnsRow.holds Try.pinned (OpenSpec.ofChange slotTurnsWrong)

/-- 'earshotlaw11.SlotCut': WHATEVER THE INPUT: true; the input reads as it did. -/
def slotCutSpec : ChangeSpec := { name := "slotCut", fn := fun _ => fun
  | [d1, d2] => { results := [.lit (.bool true)], args := [d1, d2] }
  | _ => none }
def slotCutRow : OpenClaim := { program := "ythkppkecclnlnaa", sum := "b8830818f850ab98d1c2517256681e2e8e175dbb2ba73e7a8fa904031cbf0f39", func := "earshot/earshotlaw11.SlotCut", spec := "slotCut", apart := false }
def SlotCutSaid : Prop := slotCutRow.holds Try.pinned (OpenSpec.ofChange slotCutSpec)

/-- ITS FALSE NEIGHBOUR: 'it returns false'. Refute it at one input. -/
def slotCutWrong : ChangeSpec := { name := "slotCut", fn := fun _ => fun
  | [d1, d2] => { results := [.lit (.bool false)], args := [d1, d2] }
  | _ => none }
def SlotCutWrongFalsely : Prop := slotCutRow.holds Try.pinned (OpenSpec.ofChange slotCutWrong)

/-- 'earshotlaw11.SlotPlays': WHATEVER THE INPUT: true; the input reads as it did. -/
def slotPlaysSpec : ChangeSpec := { name := "slotPlays", fn := fun _ => fun
  | [d1, d2] => { results := [.lit (.bool true)], args := [d1, d2] }
  | _ => none }
def slotPlaysRow : OpenClaim := { program := "ythkppkecclnlnaa", sum := "b8830818f850ab98d1c2517256681e2e8e175dbb2ba73e7a8fa904031cbf0f39", func := "earshot/earshotlaw11.SlotPlays", spec := "slotPlays", apart := false }
def SlotPlaysSaid : Prop := slotPlaysRow.holds Try.pinned (OpenSpec.ofChange slotPlaysSpec)

/-- ITS FALSE NEIGHBOUR: 'it returns false'. Refute it at one input. -/
def slotPlaysWrong : ChangeSpec := { name := "slotPlays", fn := fun _ => fun
  | [d1, d2] => { results := [.lit (.bool false)], args := [d1, d2] }
  | _ => none }
def SlotPlaysWrongFalsely : Prop := slotPlaysRow.holds Try.pinned (OpenSpec.ofChange slotPlaysWrong)

/-- 'earshotlaw12.BootBlocks': WHATEVER THE INPUT: true; the input reads as it did. -/
def bootBlocksSpec : ChangeSpec := { name := "bootBlocks", fn := fun _ => fun
  | [d] => { results := [.lit (.bool true)], args := [d] }
  | _ => none }
def bootBlocksRow : OpenClaim := { program := "ythkppkecclnlnaa", sum := "b8830818f850ab98d1c2517256681e2e8e175dbb2ba73e7a8fa904031cbf0f39", func := "earshot/earshotlaw12.BootBlocks", spec := "bootBlocks", unfollowed := true, recurses := true, apart := false }
def BootBlocksSaid : Prop := bootBlocksRow.holds Try.pinned (OpenSpec.ofChange bootBlocksSpec)

/-- ITS FALSE NEIGHBOUR: 'it returns false'. Refute it at one input. -/
def bootBlocksWrong : ChangeSpec := { name := "bootBlocks", fn := fun _ => fun
  | [d] => { results := [.lit (.bool false)], args := [d] }
  | _ => none }
def BootBlocksWrongFalsely : Prop := bootBlocksRow.holds Try.pinned (OpenSpec.ofChange bootBlocksWrong)

/-- 'earshotlaw12.BootNone': WHATEVER THE INPUT: true; the input reads as it did. -/
def bootNoneSpec : ChangeSpec := { name := "bootNone", fn := fun _ => fun
  | [d] => { results := [.lit (.bool true)], args := [d] }
  | _ => none }
def bootNoneRow : OpenClaim := { program := "ythkppkecclnlnaa", sum := "b8830818f850ab98d1c2517256681e2e8e175dbb2ba73e7a8fa904031cbf0f39", func := "earshot/earshotlaw12.BootNone", spec := "bootNone", unfollowed := true, recurses := true, apart := false }
def BootNoneSaid : Prop := bootNoneRow.holds Try.pinned (OpenSpec.ofChange bootNoneSpec)

/-- ITS FALSE NEIGHBOUR: 'it returns false'. Refute it at one input. -/
def bootNoneWrong : ChangeSpec := { name := "bootNone", fn := fun _ => fun
  | [d] => { results := [.lit (.bool false)], args := [d] }
  | _ => none }
def BootNoneWrongFalsely : Prop := bootNoneRow.holds Try.pinned (OpenSpec.ofChange bootNoneWrong)

/-- 'earshotlaw12.BootRounds': WHATEVER THE INPUT: true; the input reads as it did. -/
def bootRoundsSpec : ChangeSpec := { name := "bootRounds", fn := fun _ => fun
  | [d] => { results := [.lit (.bool true)], args := [d] }
  | _ => none }
def bootRoundsRow : OpenClaim := { program := "ythkppkecclnlnaa", sum := "b8830818f850ab98d1c2517256681e2e8e175dbb2ba73e7a8fa904031cbf0f39", func := "earshot/earshotlaw12.BootRounds", spec := "bootRounds", unfollowed := true, recurses := true, apart := false }
def BootRoundsSaid : Prop := bootRoundsRow.holds Try.pinned (OpenSpec.ofChange bootRoundsSpec)

/-- ITS FALSE NEIGHBOUR: 'it returns false'. Refute it at one input. -/
def bootRoundsWrong : ChangeSpec := { name := "bootRounds", fn := fun _ => fun
  | [d] => { results := [.lit (.bool false)], args := [d] }
  | _ => none }
def BootRoundsWrongFalsely : Prop := bootRoundsRow.holds Try.pinned (OpenSpec.ofChange bootRoundsWrong)

/-- 'earshotlaw12.BootTags': WHATEVER THE INPUT: true; the input reads as it did. -/
def bootTagsSpec : ChangeSpec := { name := "bootTags", fn := fun _ => fun
  | [d] => { results := [.lit (.bool true)], args := [d] }
  | _ => none }
def bootTagsRow : OpenClaim := { program := "ythkppkecclnlnaa", sum := "b8830818f850ab98d1c2517256681e2e8e175dbb2ba73e7a8fa904031cbf0f39", func := "earshot/earshotlaw12.BootTags", spec := "bootTags", unfollowed := true, recurses := true, apart := false }
def BootTagsSaid : Prop := bootTagsRow.holds Try.pinned (OpenSpec.ofChange bootTagsSpec)

/-- ITS FALSE NEIGHBOUR: 'it returns false'. Refute it at one input. -/
def bootTagsWrong : ChangeSpec := { name := "bootTags", fn := fun _ => fun
  | [d] => { results := [.lit (.bool false)], args := [d] }
  | _ => none }
def BootTagsWrongFalsely : Prop := bootTagsRow.holds Try.pinned (OpenSpec.ofChange bootTagsWrong)

/-- 'earshotlaw12.BootKept': WHATEVER THE INPUT: true; the input reads as it did. -/
def bootKeptSpec : ChangeSpec := { name := "bootKept", fn := fun _ => fun
  | [d] => { results := [.lit (.bool true)], args := [d] }
  | _ => none }
def bootKeptRow : OpenClaim := { program := "ythkppkecclnlnaa", sum := "b8830818f850ab98d1c2517256681e2e8e175dbb2ba73e7a8fa904031cbf0f39", func := "earshot/earshotlaw12.BootKept", spec := "bootKept", unfollowed := true, recurses := true, apart := false }
def BootKeptSaid : Prop := bootKeptRow.holds Try.pinned (OpenSpec.ofChange bootKeptSpec)

/-- ITS FALSE NEIGHBOUR: 'it returns false'. Refute it at one input. -/
def bootKeptWrong : ChangeSpec := { name := "bootKept", fn := fun _ => fun
  | [d] => { results := [.lit (.bool false)], args := [d] }
  | _ => none }
def BootKeptWrongFalsely : Prop := bootKeptRow.holds Try.pinned (OpenSpec.ofChange bootKeptWrong)

/-- 'earshotlaw12.BootPlays': WHATEVER THE INPUT: true; the input reads as it did. -/
def bootPlaysSpec : ChangeSpec := { name := "bootPlays", fn := fun _ => fun
  | [d1, d2, d3] => { results := [.lit (.bool true)], args := [d1, d2, d3] }
  | _ => none }
def bootPlaysRow : OpenClaim := { program := "ythkppkecclnlnaa", sum := "b8830818f850ab98d1c2517256681e2e8e175dbb2ba73e7a8fa904031cbf0f39", func := "earshot/earshotlaw12.BootPlays", spec := "bootPlays", unfollowed := true, recurses := true, apart := false }
def BootPlaysSaid : Prop := bootPlaysRow.holds Try.pinned (OpenSpec.ofChange bootPlaysSpec)

/-- ITS FALSE NEIGHBOUR: 'it returns false'. Refute it at one input. -/
def bootPlaysWrong : ChangeSpec := { name := "bootPlays", fn := fun _ => fun
  | [d1, d2, d3] => { results := [.lit (.bool false)], args := [d1, d2, d3] }
  | _ => none }
def BootPlaysWrongFalsely : Prop := bootPlaysRow.holds Try.pinned (OpenSpec.ofChange bootPlaysWrong)

/-- 'earshotlaw12.BootAll': WHATEVER THE INPUT: true; the input reads as it did. -/
def bootAllSpec : ChangeSpec := { name := "bootAll", fn := fun _ => fun
  | [d1, d2, d3] => { results := [.lit (.bool true)], args := [d1, d2, d3] }
  | _ => none }
def bootAllRow : OpenClaim := { program := "ythkppkecclnlnaa", sum := "b8830818f850ab98d1c2517256681e2e8e175dbb2ba73e7a8fa904031cbf0f39", func := "earshot/earshotlaw12.BootAll", spec := "bootAll", unfollowed := true, recurses := true, apart := false }
def BootAllSaid : Prop := bootAllRow.holds Try.pinned (OpenSpec.ofChange bootAllSpec)

/-- ITS FALSE NEIGHBOUR: 'it returns false'. Refute it at one input. -/
def bootAllWrong : ChangeSpec := { name := "bootAll", fn := fun _ => fun
  | [d1, d2, d3] => { results := [.lit (.bool false)], args := [d1, d2, d3] }
  | _ => none }
def BootAllWrongFalsely : Prop := bootAllRow.holds Try.pinned (OpenSpec.ofChange bootAllWrong)

/- THE SECOND FORM. 'bulk': how many values and letters a reading holds, each counted each time it is reached (what is shared counts as often as it is met; a slice's spare places count too). A statement '..UptoSaid' is the law's where the arguments, and the package variables that the reading takes, are together of bulk at most 1048576: NARROWER than '..Said'. Prove '..Said' where nothing that the law and all that it calls make is longer than what came in: it says more and counts as full. Else prove '..UptoSaid'. A law counts once. -/
mutual
def uptoBulk {H : Type} : DataW H → Nat
  | .lit (.string bytes) => bytes.length + 1
  | .lit _ => 1
  | .nil => 1
  | .ptr d => uptoBulk d + 1
  | .slice elems spare => uptoBulkAll elems + uptoBulkAll spare + 1
  | .agg parts => uptoBulkAll parts + 1
  | .iface _ d => uptoBulk d + 1
  | .map entries => uptoBulkEntries entries + 1
  | .held _ => 1
def uptoBulkAll {H : Type} : List (DataW H) → Nat
  | [] => 0
  | d :: r => uptoBulk d + uptoBulkAll r
def uptoBulkEntries {H : Type} : List (Lit × DataW H) → Nat
  | [] => 0
  | x :: r => uptoBulkEntry x + uptoBulkEntries r
def uptoBulkEntry {H : Type} : Lit × DataW H → Nat
  | (.string bytes, d) => bytes.length + uptoBulk d + 1
  | (_, d) => uptoBulk d + 1
 end
def uptoSmall : (H : Type) → List (DataW H) → Bool := fun _ ds => decide (uptoBulkAll ds ≤ 1048576)
def OpenSpec.upto (s : _root_.Go.ChangeSpec) : _root_.Go.OpenSpec := { _root_.Go.OpenSpec.ofChange s with cond := some uptoSmall }

/-- 'earshotlaw10.DiskWhole', WHERE WHAT IT READS IS OF BULK AT MOST 1048576: true; the input reads as it did. -/
def diskWholeUptoRow : OpenClaim := { program := "ythkppkecclnlnaa", sum := "b8830818f850ab98d1c2517256681e2e8e175dbb2ba73e7a8fa904031cbf0f39", func := "earshot/earshotlaw10.DiskWhole", spec := "diskWhole", apart := false, narrowed := true }
def DiskWholeUptoSaid : Prop := diskWholeUptoRow.holds Try.pinned (OpenSpec.upto diskWholeSpec)

/-- 'earshotlaw10.DiskFuse', WHERE WHAT IT READS IS OF BULK AT MOST 1048576: true; the input reads as it did. -/
def diskFuseUptoRow : OpenClaim := { program := "ythkppkecclnlnaa", sum := "b8830818f850ab98d1c2517256681e2e8e175dbb2ba73e7a8fa904031cbf0f39", func := "earshot/earshotlaw10.DiskFuse", spec := "diskFuse", apart := false, narrowed := true }
def DiskFuseUptoSaid : Prop := diskFuseUptoRow.holds Try.pinned (OpenSpec.upto diskFuseSpec)

/-- 'earshotlaw10.DiskNone', WHERE WHAT IT READS IS OF BULK AT MOST 1048576: true; the input reads as it did. -/
def diskNoneUptoRow : OpenClaim := { program := "ythkppkecclnlnaa", sum := "b8830818f850ab98d1c2517256681e2e8e175dbb2ba73e7a8fa904031cbf0f39", func := "earshot/earshotlaw10.DiskNone", spec := "diskNone", apart := false, narrowed := true }
def DiskNoneUptoSaid : Prop := diskNoneUptoRow.holds Try.pinned (OpenSpec.upto diskNoneSpec)

/-- 'earshotlaw10.DiskTwins', WHERE WHAT IT READS IS OF BULK AT MOST 1048576: true; the input reads as it did. -/
def diskTwinsUptoRow : OpenClaim := { program := "ythkppkecclnlnaa", sum := "b8830818f850ab98d1c2517256681e2e8e175dbb2ba73e7a8fa904031cbf0f39", func := "earshot/earshotlaw10.DiskTwins", spec := "diskTwins", apart := false, narrowed := true }
def DiskTwinsUptoSaid : Prop := diskTwinsUptoRow.holds Try.pinned (OpenSpec.upto diskTwinsSpec)

/-- 'earshotlaw10.DiskPlays', WHERE WHAT IT READS IS OF BULK AT MOST 1048576: true; the input reads as it did. -/
def diskPlaysUptoRow : OpenClaim := { program := "ythkppkecclnlnaa", sum := "b8830818f850ab98d1c2517256681e2e8e175dbb2ba73e7a8fa904031cbf0f39", func := "earshot/earshotlaw10.DiskPlays", spec := "diskPlays", apart := false, narrowed := true }
def DiskPlaysUptoSaid : Prop := diskPlaysUptoRow.holds Try.pinned (OpenSpec.upto diskPlaysSpec)

/-- 'earshotlaw10.DiskAll', WHERE WHAT IT READS IS OF BULK AT MOST 1048576: true; the input reads as it did. -/
def diskAllUptoRow : OpenClaim := { program := "ythkppkecclnlnaa", sum := "b8830818f850ab98d1c2517256681e2e8e175dbb2ba73e7a8fa904031cbf0f39", func := "earshot/earshotlaw10.DiskAll", spec := "diskAll", apart := false, narrowed := true }
def DiskAllUptoSaid : Prop := diskAllUptoRow.holds Try.pinned (OpenSpec.upto diskAllSpec)

/-- 'earshotlaw11.SlotBack', WHERE WHAT IT READS IS OF BULK AT MOST 1048576: true; the input reads as it did. -/
def slotBackUptoRow : OpenClaim := { program := "ythkppkecclnlnaa", sum := "b8830818f850ab98d1c2517256681e2e8e175dbb2ba73e7a8fa904031cbf0f39", func := "earshot/earshotlaw11.SlotBack", spec := "slotBack", apart := false, narrowed := true }
def SlotBackUptoSaid : Prop := slotBackUptoRow.holds Try.pinned (OpenSpec.upto slotBackSpec)

/-- 'earshotlaw11.SlotTurns', WHERE WHAT IT READS IS OF BULK AT MOST 1048576: true; the input reads as it did. -/
def slotTurnsUptoRow : OpenClaim := { program := "ythkppkecclnlnaa", sum := "b8830818f850ab98d1c2517256681e2e8e175dbb2ba73e7a8fa904031cbf0f39", func := "earshot/earshotlaw11.SlotTurns", spec := "slotTurns", apart := false, narrowed := true }
def SlotTurnsUptoSaid : Prop := slotTurnsUptoRow.holds Try.pinned (OpenSpec.upto slotTurnsSpec)

/-- 'earshotlaw11.SlotCut', WHERE WHAT IT READS IS OF BULK AT MOST 1048576: true; the input reads as it did. -/
def slotCutUptoRow : OpenClaim := { program := "ythkppkecclnlnaa", sum := "b8830818f850ab98d1c2517256681e2e8e175dbb2ba73e7a8fa904031cbf0f39", func := "earshot/earshotlaw11.SlotCut", spec := "slotCut", apart := false, narrowed := true }
def SlotCutUptoSaid : Prop := slotCutUptoRow.holds Try.pinned (OpenSpec.upto slotCutSpec)

/-- 'earshotlaw11.SlotPlays', WHERE WHAT IT READS IS OF BULK AT MOST 1048576: true; the input reads as it did. -/
def slotPlaysUptoRow : OpenClaim := { program := "ythkppkecclnlnaa", sum := "b8830818f850ab98d1c2517256681e2e8e175dbb2ba73e7a8fa904031cbf0f39", func := "earshot/earshotlaw11.SlotPlays", spec := "slotPlays", apart := false, narrowed := true }
def SlotPlaysUptoSaid : Prop := slotPlaysUptoRow.holds Try.pinned (OpenSpec.upto slotPlaysSpec)

/-- 'earshotlaw12.BootBlocks', WHERE WHAT IT READS IS OF BULK AT MOST 1048576: true; the input reads as it did. -/
def bootBlocksUptoRow : OpenClaim := { program := "ythkppkecclnlnaa", sum := "b8830818f850ab98d1c2517256681e2e8e175dbb2ba73e7a8fa904031cbf0f39", func := "earshot/earshotlaw12.BootBlocks", spec := "bootBlocks", unfollowed := true, recurses := true, apart := false, narrowed := true }
def BootBlocksUptoSaid : Prop := bootBlocksUptoRow.holds Try.pinned (OpenSpec.upto bootBlocksSpec)

/-- 'earshotlaw12.BootNone', WHERE WHAT IT READS IS OF BULK AT MOST 1048576: true; the input reads as it did. -/
def bootNoneUptoRow : OpenClaim := { program := "ythkppkecclnlnaa", sum := "b8830818f850ab98d1c2517256681e2e8e175dbb2ba73e7a8fa904031cbf0f39", func := "earshot/earshotlaw12.BootNone", spec := "bootNone", unfollowed := true, recurses := true, apart := false, narrowed := true }
def BootNoneUptoSaid : Prop := bootNoneUptoRow.holds Try.pinned (OpenSpec.upto bootNoneSpec)

/-- 'earshotlaw12.BootRounds', WHERE WHAT IT READS IS OF BULK AT MOST 1048576: true; the input reads as it did. -/
def bootRoundsUptoRow : OpenClaim := { program := "ythkppkecclnlnaa", sum := "b8830818f850ab98d1c2517256681e2e8e175dbb2ba73e7a8fa904031cbf0f39", func := "earshot/earshotlaw12.BootRounds", spec := "bootRounds", unfollowed := true, recurses := true, apart := false, narrowed := true }
def BootRoundsUptoSaid : Prop := bootRoundsUptoRow.holds Try.pinned (OpenSpec.upto bootRoundsSpec)

/-- 'earshotlaw12.BootTags', WHERE WHAT IT READS IS OF BULK AT MOST 1048576: true; the input reads as it did. -/
def bootTagsUptoRow : OpenClaim := { program := "ythkppkecclnlnaa", sum := "b8830818f850ab98d1c2517256681e2e8e175dbb2ba73e7a8fa904031cbf0f39", func := "earshot/earshotlaw12.BootTags", spec := "bootTags", unfollowed := true, recurses := true, apart := false, narrowed := true }
def BootTagsUptoSaid : Prop := bootTagsUptoRow.holds Try.pinned (OpenSpec.upto bootTagsSpec)

/-- 'earshotlaw12.BootKept', WHERE WHAT IT READS IS OF BULK AT MOST 1048576: true; the input reads as it did. -/
def bootKeptUptoRow : OpenClaim := { program := "ythkppkecclnlnaa", sum := "b8830818f850ab98d1c2517256681e2e8e175dbb2ba73e7a8fa904031cbf0f39", func := "earshot/earshotlaw12.BootKept", spec := "bootKept", unfollowed := true, recurses := true, apart := false, narrowed := true }
def BootKeptUptoSaid : Prop := bootKeptUptoRow.holds Try.pinned (OpenSpec.upto bootKeptSpec)

/-- 'earshotlaw12.BootPlays', WHERE WHAT IT READS IS OF BULK AT MOST 1048576: true; the input reads as it did. -/
def bootPlaysUptoRow : OpenClaim := { program := "ythkppkecclnlnaa", sum := "b8830818f850ab98d1c2517256681e2e8e175dbb2ba73e7a8fa904031cbf0f39", func := "earshot/earshotlaw12.BootPlays", spec := "bootPlays", unfollowed := true, recurses := true, apart := false, narrowed := true }
def BootPlaysUptoSaid : Prop := bootPlaysUptoRow.holds Try.pinned (OpenSpec.upto bootPlaysSpec)

/-- 'earshotlaw12.BootAll', WHERE WHAT IT READS IS OF BULK AT MOST 1048576: true; the input reads as it did. -/
def bootAllUptoRow : OpenClaim := { program := "ythkppkecclnlnaa", sum := "b8830818f850ab98d1c2517256681e2e8e175dbb2ba73e7a8fa904031cbf0f39", func := "earshot/earshotlaw12.BootAll", spec := "bootAll", unfollowed := true, recurses := true, apart := false, narrowed := true }
def BootAllUptoSaid : Prop := bootAllUptoRow.holds Try.pinned (OpenSpec.upto bootAllSpec)

end Rows
end Go.Proofs.Ythkppkecclnlnaa
