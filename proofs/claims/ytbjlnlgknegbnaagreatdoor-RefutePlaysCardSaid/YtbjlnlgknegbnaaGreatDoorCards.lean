/-
  DERIVED. GIVEN WITH THE SEED: THE CARDS: each row of YtbjlnlgknegbnaaGreatDoorRows.lean that lists a variable, with what it lists TIED to the program's text (the seventh form; the later family's looks); each row that meets fmt, with fmt's text TOLD by the authors' own Lean function (tested against real Go, not proved from fmt's source: count such statements apart). THE CARD IS WHAT COUNTS. Prove the row's statement (the work); the ties are given (YtbjlnlgknegbnaaGreatDoorTie.lean); close each card by the builder's one call (the guide's Derived/Test/ToyasCard.lean, 'card_holds'). Laid BY PROGRAM, IN A SANDBOX (cutbox-door.mjs). By AI agents, Wed Nov 11 2026. No macro, syntax, notation, axiom, sorry.
-/
import Derived.Test.YtbjlnlgknegbnaaGreatDoorRows
import GoSem.ClaimSeven
namespace Go.Proofs.YtbjlnlgknegbnaaGreatDoor
namespace Rows

/-- THE TIED CARD OF 'earshotlaw15.RefutePlays'. -/
def refutePlaysCard : Claim7 := { stood := { row := refutePlaysRow, standIns := [], harness := (true, "dcef3a97597422e869c6f5f5b76c2c1d013b8a539920ded9e2fa9763455a5b24"), looks := true }, kinds := [], alts := [], laidByText := true, laidKinds := [.sentinel], laidTests := true, laidLooks := .later }
def RefutePlaysCardSaid : Prop := Claim7.holds Tryz.pinned (.plain (OpenSpec.ofChange refutePlaysSpec)) refutePlaysCard

/-- THE SECOND FORM's CARD OF 'earshotlaw15.RefutePlays'. -/
def refutePlaysUptoCard : Claim7 := { stood := { row := refutePlaysUptoRow, standIns := [], harness := (true, "dcef3a97597422e869c6f5f5b76c2c1d013b8a539920ded9e2fa9763455a5b24"), looks := true }, kinds := [], alts := [], laidByText := true, laidKinds := [.sentinel], laidTests := true, laidLooks := .later }
def RefutePlaysUptoCardSaid : Prop := Claim7.holds Tryz.pinned (.plain (OpenSpec.upto refutePlaysSpec)) refutePlaysUptoCard
end Rows
end Go.Proofs.YtbjlnlgknegbnaaGreatDoor
