/-
  No cell of these rows narrows 'for every input' (looked for: loops, veiled, ifaces, maps, wideKeys, modest, calm, conditions, laid).
  DERIVED. THE GIVEN ROWS OF THIS SEAT. 12 by the template 'for every input the law returns true; each argument reads behind the call as it read before'; 0 by the template 'total and deterministic' (their statements: YteoehhkdmmcglaaTotals.lean).
  GIVEN WITH THE SEED: the statements are not yours to turn. If you find one false, say at which input.
  Laid BY PROGRAM, IN A SANDBOX (cutbox-rows.mjs): the forced cells as the released guide's own fill.sh prints them over the translation 8d2fb5833e5df4c3… (all of the seat's roots in one cut). By AI agents, Wed Nov 11 2026. No macro, syntax, notation, axiom, sorry.
-/
import Derived.Test.YteoehhkdmmcglaaChecked
import GoSem.Claim
import GoSem.ClaimJoined
import GoSem.ClaimMapViews
import Derived.JoinedTies
import Derived.KernelRfl
namespace Go.Proofs.Yteoehhkdmmcglaa
/- THE CELL 'sum', in the pinned program and in every row, IS THE sha256 OF THE DUMP (.gsa) THAT YteoehhkdmmcglaaProg.lean LOADS. Nothing in Lean hashes anything: it is a label: what it is worth is what the hold of that sum in a sandbox is worth. -/
noncomputable def Try.pinned : Pinned := { name := "yteoehhkdmmcglaa", sum := "8d2fb5833e5df4c3afc1606887bbf08dc4cc2420bfe1ceb67011db9e1507a9df", checked := Try.checked }
namespace Rows
def none {H : Type} : Left H := { results := [], args := [] }

/-- 'earshotlaw1.GlyphGoes': WHATEVER THE INPUT: true; the input reads as it did. -/
def glyphGoesSpec : ChangeSpec := { name := "glyphGoes", fn := fun _ => fun
  | [d1, d2] => { results := [.lit (.bool true)], args := [d1, d2] }
  | _ => none }
def glyphGoesRow : OpenClaim := { program := "yteoehhkdmmcglaa", sum := "8d2fb5833e5df4c3afc1606887bbf08dc4cc2420bfe1ceb67011db9e1507a9df", func := "earshot/earshotlaw1.GlyphGoes", spec := "glyphGoes", unfollowed := true, recurses := true, apart := false }
def GlyphGoesSaid : Prop := glyphGoesRow.holds Try.pinned (OpenSpec.ofChange glyphGoesSpec)

/-- ITS FALSE NEIGHBOUR: 'it returns false'. Refute it at one input. -/
def glyphGoesWrong : ChangeSpec := { name := "glyphGoes", fn := fun _ => fun
  | [d1, d2] => { results := [.lit (.bool false)], args := [d1, d2] }
  | _ => none }
def GlyphGoesWrongFalsely : Prop := glyphGoesRow.holds Try.pinned (OpenSpec.ofChange glyphGoesWrong)

/-- 'earshotlaw1.GlyphNests': WHATEVER THE INPUT: true; the input reads as it did. -/
def glyphNestsSpec : ChangeSpec := { name := "glyphNests", fn := fun _ => fun
  | [d1, d2] => { results := [.lit (.bool true)], args := [d1, d2] }
  | _ => none }
def glyphNestsRow : OpenClaim := { program := "yteoehhkdmmcglaa", sum := "8d2fb5833e5df4c3afc1606887bbf08dc4cc2420bfe1ceb67011db9e1507a9df", func := "earshot/earshotlaw1.GlyphNests", spec := "glyphNests", unfollowed := true, recurses := true, apart := false }
def GlyphNestsSaid : Prop := glyphNestsRow.holds Try.pinned (OpenSpec.ofChange glyphNestsSpec)

/-- ITS FALSE NEIGHBOUR: 'it returns false'. Refute it at one input. -/
def glyphNestsWrong : ChangeSpec := { name := "glyphNests", fn := fun _ => fun
  | [d1, d2] => { results := [.lit (.bool false)], args := [d1, d2] }
  | _ => none }
def GlyphNestsWrongFalsely : Prop := glyphNestsRow.holds Try.pinned (OpenSpec.ofChange glyphNestsWrong)

/-- 'earshotlaw1.GlyphTwice': WHATEVER THE INPUT: true; the input reads as it did. -/
def glyphTwiceSpec : ChangeSpec := { name := "glyphTwice", fn := fun _ => fun
  | [d] => { results := [.lit (.bool true)], args := [d] }
  | _ => none }
def glyphTwiceRow : OpenClaim := { program := "yteoehhkdmmcglaa", sum := "8d2fb5833e5df4c3afc1606887bbf08dc4cc2420bfe1ceb67011db9e1507a9df", func := "earshot/earshotlaw1.GlyphTwice", spec := "glyphTwice", apart := false }
def GlyphTwiceSaid : Prop := glyphTwiceRow.holds Try.pinned (OpenSpec.ofChange glyphTwiceSpec)

/-- ITS FALSE NEIGHBOUR: 'it returns false'. Refute it at one input. -/
def glyphTwiceWrong : ChangeSpec := { name := "glyphTwice", fn := fun _ => fun
  | [d] => { results := [.lit (.bool false)], args := [d] }
  | _ => none }
def GlyphTwiceWrongFalsely : Prop := glyphTwiceRow.holds Try.pinned (OpenSpec.ofChange glyphTwiceWrong)

/-- 'earshotlaw1.GlyphOwn': WHATEVER THE INPUT: true; the input reads as it did. -/
def glyphOwnSpec : ChangeSpec := { name := "glyphOwn", fn := fun _ => fun
  | [d] => { results := [.lit (.bool true)], args := [d] }
  | _ => none }
def glyphOwnRow : OpenClaim := { program := "yteoehhkdmmcglaa", sum := "8d2fb5833e5df4c3afc1606887bbf08dc4cc2420bfe1ceb67011db9e1507a9df", func := "earshot/earshotlaw1.GlyphOwn", spec := "glyphOwn", unfollowed := true, recurses := true, apart := false }
def GlyphOwnSaid : Prop := glyphOwnRow.holds Try.pinned (OpenSpec.ofChange glyphOwnSpec)

/-- ITS FALSE NEIGHBOUR: 'it returns false'. Refute it at one input. -/
def glyphOwnWrong : ChangeSpec := { name := "glyphOwn", fn := fun _ => fun
  | [d] => { results := [.lit (.bool false)], args := [d] }
  | _ => none }
def GlyphOwnWrongFalsely : Prop := glyphOwnRow.holds Try.pinned (OpenSpec.ofChange glyphOwnWrong)

/-- 'earshotlaw1.GlyphClasses': WHATEVER THE INPUT: true; the input reads as it did. -/
def glyphClassesSpec : ChangeSpec := { name := "glyphClasses", fn := fun _ => fun
  | [d] => { results := [.lit (.bool true)], args := [d] }
  | _ => none }
def glyphClassesRow : OpenClaim := { program := "yteoehhkdmmcglaa", sum := "8d2fb5833e5df4c3afc1606887bbf08dc4cc2420bfe1ceb67011db9e1507a9df", func := "earshot/earshotlaw1.GlyphClasses", spec := "glyphClasses", apart := false }
def GlyphClassesSaid : Prop := glyphClassesRow.holds Try.pinned (OpenSpec.ofChange glyphClassesSpec)

/-- ITS FALSE NEIGHBOUR: 'it returns false'. Refute it at one input. -/
def glyphClassesWrong : ChangeSpec := { name := "glyphClasses", fn := fun _ => fun
  | [d] => { results := [.lit (.bool false)], args := [d] }
  | _ => none }
def GlyphClassesWrongFalsely : Prop := glyphClassesRow.holds Try.pinned (OpenSpec.ofChange glyphClassesWrong)

/-- 'earshotlaw1.GlyphJoined': WHATEVER THE INPUT: true; the input reads as it did. -/
def glyphJoinedSpec : ChangeSpec := { name := "glyphJoined", fn := fun _ => fun
  | [d1, d2] => { results := [.lit (.bool true)], args := [d1, d2] }
  | _ => none }
def glyphJoinedRow : OpenClaim := { program := "yteoehhkdmmcglaa", sum := "8d2fb5833e5df4c3afc1606887bbf08dc4cc2420bfe1ceb67011db9e1507a9df", func := "earshot/earshotlaw1.GlyphJoined", spec := "glyphJoined", apart := false }
def GlyphJoinedSaid : Prop := glyphJoinedRow.holds Try.pinned (OpenSpec.ofChange glyphJoinedSpec)

/-- ITS FALSE NEIGHBOUR: 'it returns false'. Refute it at one input. -/
def glyphJoinedWrong : ChangeSpec := { name := "glyphJoined", fn := fun _ => fun
  | [d1, d2] => { results := [.lit (.bool false)], args := [d1, d2] }
  | _ => none }
def GlyphJoinedWrongFalsely : Prop := glyphJoinedRow.holds Try.pinned (OpenSpec.ofChange glyphJoinedWrong)

/-- 'earshotlaw1.GlyphRunes': WHATEVER THE INPUT: true; the input reads as it did. -/
def glyphRunesSpec : ChangeSpec := { name := "glyphRunes", fn := fun _ => fun
  | [d] => { results := [.lit (.bool true)], args := [d] }
  | _ => none }
def glyphRunesRow : OpenClaim := { program := "yteoehhkdmmcglaa", sum := "8d2fb5833e5df4c3afc1606887bbf08dc4cc2420bfe1ceb67011db9e1507a9df", func := "earshot/earshotlaw1.GlyphRunes", spec := "glyphRunes", unfollowed := true, recurses := true, apart := false }
def GlyphRunesSaid : Prop := glyphRunesRow.holds Try.pinned (OpenSpec.ofChange glyphRunesSpec)

/-- ITS FALSE NEIGHBOUR: 'it returns false'. Refute it at one input. -/
def glyphRunesWrong : ChangeSpec := { name := "glyphRunes", fn := fun _ => fun
  | [d] => { results := [.lit (.bool false)], args := [d] }
  | _ => none }
def GlyphRunesWrongFalsely : Prop := glyphRunesRow.holds Try.pinned (OpenSpec.ofChange glyphRunesWrong)

/-- 'earshotlaw1.GlyphCuts': WHATEVER THE INPUT: true; the input reads as it did. -/
def glyphCutsSpec : ChangeSpec := { name := "glyphCuts", fn := fun _ => fun
  | [d1, d2, d3, d4] => { results := [.lit (.bool true)], args := [d1, d2, d3, d4] }
  | _ => none }
def glyphCutsRow : OpenClaim := { program := "yteoehhkdmmcglaa", sum := "8d2fb5833e5df4c3afc1606887bbf08dc4cc2420bfe1ceb67011db9e1507a9df", func := "earshot/earshotlaw1.GlyphCuts", spec := "glyphCuts", apart := false }
def GlyphCutsSaid : Prop := glyphCutsRow.holds Try.pinned (OpenSpec.ofChange glyphCutsSpec)

/-- ITS FALSE NEIGHBOUR: 'it returns false'. Refute it at one input. -/
def glyphCutsWrong : ChangeSpec := { name := "glyphCuts", fn := fun _ => fun
  | [d1, d2, d3, d4] => { results := [.lit (.bool false)], args := [d1, d2, d3, d4] }
  | _ => none }
def GlyphCutsWrongFalsely : Prop := glyphCutsRow.holds Try.pinned (OpenSpec.ofChange glyphCutsWrong)

/-- 'earshotlaw1.GlyphMended': WHATEVER THE INPUT: true; the input reads as it did. -/
def glyphMendedSpec : ChangeSpec := { name := "glyphMended", fn := fun _ => fun
  | [d] => { results := [.lit (.bool true)], args := [d] }
  | _ => none }
def glyphMendedRow : OpenClaim := { program := "yteoehhkdmmcglaa", sum := "8d2fb5833e5df4c3afc1606887bbf08dc4cc2420bfe1ceb67011db9e1507a9df", func := "earshot/earshotlaw1.GlyphMended", spec := "glyphMended", inPlace := ["internal/abi.NoEscape"], apart := false }
def GlyphMendedSaid : Prop := glyphMendedRow.holds Try.pinned (OpenSpec.ofChange glyphMendedSpec)

/-- ITS FALSE NEIGHBOUR: 'it returns false'. Refute it at one input. -/
def glyphMendedWrong : ChangeSpec := { name := "glyphMended", fn := fun _ => fun
  | [d] => { results := [.lit (.bool false)], args := [d] }
  | _ => none }
def GlyphMendedWrongFalsely : Prop := glyphMendedRow.holds Try.pinned (OpenSpec.ofChange glyphMendedWrong)

/-- 'earshotlaw1.GlyphQuotes': WHATEVER THE INPUT: true; the input reads as it did. -/
def glyphQuotesSpec : ChangeSpec := { name := "glyphQuotes", fn := fun _ => fun
  | [d] => { results := [.lit (.bool true)], args := [d] }
  | _ => none }
def glyphQuotesRow : OpenClaim := { program := "yteoehhkdmmcglaa", sum := "8d2fb5833e5df4c3afc1606887bbf08dc4cc2420bfe1ceb67011db9e1507a9df", func := "earshot/earshotlaw1.GlyphQuotes", spec := "glyphQuotes", inPlace := ["internal/abi.NoEscape"], apart := false }
def GlyphQuotesSaid : Prop := glyphQuotesRow.holds Try.pinned (OpenSpec.ofChange glyphQuotesSpec)

/-- ITS FALSE NEIGHBOUR: 'it returns false'. Refute it at one input. -/
def glyphQuotesWrong : ChangeSpec := { name := "glyphQuotes", fn := fun _ => fun
  | [d] => { results := [.lit (.bool false)], args := [d] }
  | _ => none }
def GlyphQuotesWrongFalsely : Prop := glyphQuotesRow.holds Try.pinned (OpenSpec.ofChange glyphQuotesWrong)

/-- 'earshotlaw1.GlyphChars': WHATEVER THE INPUT: true; the input reads as it did. -/
def glyphCharsSpec : ChangeSpec := { name := "glyphChars", fn := fun _ => fun
  | [d] => { results := [.lit (.bool true)], args := [d] }
  | _ => none }
def glyphCharsRow : OpenClaim := { program := "yteoehhkdmmcglaa", sum := "8d2fb5833e5df4c3afc1606887bbf08dc4cc2420bfe1ceb67011db9e1507a9df", func := "earshot/earshotlaw1.GlyphChars", spec := "glyphChars", inPlace := ["internal/abi.NoEscape"], unfollowed := true, recurses := true, apart := false }
def GlyphCharsSaid : Prop := glyphCharsRow.holds Try.pinned (OpenSpec.ofChange glyphCharsSpec)

/-- ITS FALSE NEIGHBOUR: 'it returns false'. Refute it at one input. -/
def glyphCharsWrong : ChangeSpec := { name := "glyphChars", fn := fun _ => fun
  | [d] => { results := [.lit (.bool false)], args := [d] }
  | _ => none }
def GlyphCharsWrongFalsely : Prop := glyphCharsRow.holds Try.pinned (OpenSpec.ofChange glyphCharsWrong)

/-- 'earshotlaw1.GlyphSaid': WHATEVER THE INPUT: true; the input reads as it did. -/
def glyphSaidSpec : ChangeSpec := { name := "glyphSaid", fn := fun _ => fun
  | [d] => { results := [.lit (.bool true)], args := [d] }
  | _ => none }
def glyphSaidRow : OpenClaim := { program := "yteoehhkdmmcglaa", sum := "8d2fb5833e5df4c3afc1606887bbf08dc4cc2420bfe1ceb67011db9e1507a9df", func := "earshot/earshotlaw1.GlyphSaid", spec := "glyphSaid", inPlace := ["internal/abi.NoEscape"], unfollowed := true, recurses := true, apart := false }
def GlyphSaidSaid : Prop := glyphSaidRow.holds Try.pinned (OpenSpec.ofChange glyphSaidSpec)

/-- ITS FALSE NEIGHBOUR: 'it returns false'. Refute it at one input. -/
def glyphSaidWrong : ChangeSpec := { name := "glyphSaid", fn := fun _ => fun
  | [d] => { results := [.lit (.bool false)], args := [d] }
  | _ => none }
def GlyphSaidWrongFalsely : Prop := glyphSaidRow.holds Try.pinned (OpenSpec.ofChange glyphSaidWrong)

/- THE SECOND FORM. 'bulk': how many values and letters a reading holds, each counted each time it is reached (what is shared counts as often as it is met; a slice's spare places count too). A statement '..UptoSaid' is the law's where the arguments, and the package variables that the reading takes, are together of bulk at most 1048576: NARROWER than '..Said'. Prove '..Said' where nothing that the law and all that it calls make is longer than what came in: it says more and counts as full. Else prove '..UptoSaid'. A law counts once. -/
mutual
def uptoBulk {H : Type} : DataW H → Nat
  | .lit (.string bytes) => bytes.length + 1
  | .lit _ => 1
  | .nil => 1
  | .ptr d => uptoBulk d + 1
  | .slice elems spare => uptoBulkAll elems + uptoBulkAll spare + 1
  | .agg parts => uptoBulkAll parts + 1
  | .iface _ d => uptoBulk d + 1
  | .map entries => uptoBulkEntries entries + 1
  | .held _ => 1
def uptoBulkAll {H : Type} : List (DataW H) → Nat
  | [] => 0
  | d :: r => uptoBulk d + uptoBulkAll r
def uptoBulkEntries {H : Type} : List (Lit × DataW H) → Nat
  | [] => 0
  | x :: r => uptoBulkEntry x + uptoBulkEntries r
def uptoBulkEntry {H : Type} : Lit × DataW H → Nat
  | (.string bytes, d) => bytes.length + uptoBulk d + 1
  | (_, d) => uptoBulk d + 1
 end
def uptoSmall : (H : Type) → List (DataW H) → Bool := fun _ ds => decide (uptoBulkAll ds ≤ 1048576)
def OpenSpec.upto (s : _root_.Go.ChangeSpec) : _root_.Go.OpenSpec := { _root_.Go.OpenSpec.ofChange s with cond := some uptoSmall }

/-- 'earshotlaw1.GlyphGoes', WHERE WHAT IT READS IS OF BULK AT MOST 1048576: true; the input reads as it did. -/
def glyphGoesUptoRow : OpenClaim := { program := "yteoehhkdmmcglaa", sum := "8d2fb5833e5df4c3afc1606887bbf08dc4cc2420bfe1ceb67011db9e1507a9df", func := "earshot/earshotlaw1.GlyphGoes", spec := "glyphGoes", unfollowed := true, recurses := true, apart := false, narrowed := true }
def GlyphGoesUptoSaid : Prop := glyphGoesUptoRow.holds Try.pinned (OpenSpec.upto glyphGoesSpec)

/-- 'earshotlaw1.GlyphNests', WHERE WHAT IT READS IS OF BULK AT MOST 1048576: true; the input reads as it did. -/
def glyphNestsUptoRow : OpenClaim := { program := "yteoehhkdmmcglaa", sum := "8d2fb5833e5df4c3afc1606887bbf08dc4cc2420bfe1ceb67011db9e1507a9df", func := "earshot/earshotlaw1.GlyphNests", spec := "glyphNests", unfollowed := true, recurses := true, apart := false, narrowed := true }
def GlyphNestsUptoSaid : Prop := glyphNestsUptoRow.holds Try.pinned (OpenSpec.upto glyphNestsSpec)

/-- 'earshotlaw1.GlyphTwice', WHERE WHAT IT READS IS OF BULK AT MOST 1048576: true; the input reads as it did. -/
def glyphTwiceUptoRow : OpenClaim := { program := "yteoehhkdmmcglaa", sum := "8d2fb5833e5df4c3afc1606887bbf08dc4cc2420bfe1ceb67011db9e1507a9df", func := "earshot/earshotlaw1.GlyphTwice", spec := "glyphTwice", apart := false, narrowed := true }
def GlyphTwiceUptoSaid : Prop := glyphTwiceUptoRow.holds Try.pinned (OpenSpec.upto glyphTwiceSpec)

/-- 'earshotlaw1.GlyphOwn', WHERE WHAT IT READS IS OF BULK AT MOST 1048576: true; the input reads as it did. -/
def glyphOwnUptoRow : OpenClaim := { program := "yteoehhkdmmcglaa", sum := "8d2fb5833e5df4c3afc1606887bbf08dc4cc2420bfe1ceb67011db9e1507a9df", func := "earshot/earshotlaw1.GlyphOwn", spec := "glyphOwn", unfollowed := true, recurses := true, apart := false, narrowed := true }
def GlyphOwnUptoSaid : Prop := glyphOwnUptoRow.holds Try.pinned (OpenSpec.upto glyphOwnSpec)

/-- 'earshotlaw1.GlyphClasses', WHERE WHAT IT READS IS OF BULK AT MOST 1048576: true; the input reads as it did. -/
def glyphClassesUptoRow : OpenClaim := { program := "yteoehhkdmmcglaa", sum := "8d2fb5833e5df4c3afc1606887bbf08dc4cc2420bfe1ceb67011db9e1507a9df", func := "earshot/earshotlaw1.GlyphClasses", spec := "glyphClasses", apart := false, narrowed := true }
def GlyphClassesUptoSaid : Prop := glyphClassesUptoRow.holds Try.pinned (OpenSpec.upto glyphClassesSpec)

/-- 'earshotlaw1.GlyphJoined', WHERE WHAT IT READS IS OF BULK AT MOST 1048576: true; the input reads as it did. -/
def glyphJoinedUptoRow : OpenClaim := { program := "yteoehhkdmmcglaa", sum := "8d2fb5833e5df4c3afc1606887bbf08dc4cc2420bfe1ceb67011db9e1507a9df", func := "earshot/earshotlaw1.GlyphJoined", spec := "glyphJoined", apart := false, narrowed := true }
def GlyphJoinedUptoSaid : Prop := glyphJoinedUptoRow.holds Try.pinned (OpenSpec.upto glyphJoinedSpec)

/-- 'earshotlaw1.GlyphRunes', WHERE WHAT IT READS IS OF BULK AT MOST 1048576: true; the input reads as it did. -/
def glyphRunesUptoRow : OpenClaim := { program := "yteoehhkdmmcglaa", sum := "8d2fb5833e5df4c3afc1606887bbf08dc4cc2420bfe1ceb67011db9e1507a9df", func := "earshot/earshotlaw1.GlyphRunes", spec := "glyphRunes", unfollowed := true, recurses := true, apart := false, narrowed := true }
def GlyphRunesUptoSaid : Prop := glyphRunesUptoRow.holds Try.pinned (OpenSpec.upto glyphRunesSpec)

/-- 'earshotlaw1.GlyphCuts', WHERE WHAT IT READS IS OF BULK AT MOST 1048576: true; the input reads as it did. -/
def glyphCutsUptoRow : OpenClaim := { program := "yteoehhkdmmcglaa", sum := "8d2fb5833e5df4c3afc1606887bbf08dc4cc2420bfe1ceb67011db9e1507a9df", func := "earshot/earshotlaw1.GlyphCuts", spec := "glyphCuts", apart := false, narrowed := true }
def GlyphCutsUptoSaid : Prop := glyphCutsUptoRow.holds Try.pinned (OpenSpec.upto glyphCutsSpec)

/-- 'earshotlaw1.GlyphMended', WHERE WHAT IT READS IS OF BULK AT MOST 1048576: true; the input reads as it did. -/
def glyphMendedUptoRow : OpenClaim := { program := "yteoehhkdmmcglaa", sum := "8d2fb5833e5df4c3afc1606887bbf08dc4cc2420bfe1ceb67011db9e1507a9df", func := "earshot/earshotlaw1.GlyphMended", spec := "glyphMended", inPlace := ["internal/abi.NoEscape"], apart := false, narrowed := true }
def GlyphMendedUptoSaid : Prop := glyphMendedUptoRow.holds Try.pinned (OpenSpec.upto glyphMendedSpec)

/-- 'earshotlaw1.GlyphQuotes', WHERE WHAT IT READS IS OF BULK AT MOST 1048576: true; the input reads as it did. -/
def glyphQuotesUptoRow : OpenClaim := { program := "yteoehhkdmmcglaa", sum := "8d2fb5833e5df4c3afc1606887bbf08dc4cc2420bfe1ceb67011db9e1507a9df", func := "earshot/earshotlaw1.GlyphQuotes", spec := "glyphQuotes", inPlace := ["internal/abi.NoEscape"], apart := false, narrowed := true }
def GlyphQuotesUptoSaid : Prop := glyphQuotesUptoRow.holds Try.pinned (OpenSpec.upto glyphQuotesSpec)

/-- 'earshotlaw1.GlyphChars', WHERE WHAT IT READS IS OF BULK AT MOST 1048576: true; the input reads as it did. -/
def glyphCharsUptoRow : OpenClaim := { program := "yteoehhkdmmcglaa", sum := "8d2fb5833e5df4c3afc1606887bbf08dc4cc2420bfe1ceb67011db9e1507a9df", func := "earshot/earshotlaw1.GlyphChars", spec := "glyphChars", inPlace := ["internal/abi.NoEscape"], unfollowed := true, recurses := true, apart := false, narrowed := true }
def GlyphCharsUptoSaid : Prop := glyphCharsUptoRow.holds Try.pinned (OpenSpec.upto glyphCharsSpec)

/-- 'earshotlaw1.GlyphSaid', WHERE WHAT IT READS IS OF BULK AT MOST 1048576: true; the input reads as it did. -/
def glyphSaidUptoRow : OpenClaim := { program := "yteoehhkdmmcglaa", sum := "8d2fb5833e5df4c3afc1606887bbf08dc4cc2420bfe1ceb67011db9e1507a9df", func := "earshot/earshotlaw1.GlyphSaid", spec := "glyphSaid", inPlace := ["internal/abi.NoEscape"], unfollowed := true, recurses := true, apart := false, narrowed := true }
def GlyphSaidUptoSaid : Prop := glyphSaidUptoRow.holds Try.pinned (OpenSpec.upto glyphSaidSpec)

end Rows
end Go.Proofs.Yteoehhkdmmcglaa
