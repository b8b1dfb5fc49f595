/-
  DERIVED. GIVEN WITH THE SEED: THE CARDS: each row of YtppmiggkknhdkaaDoorRows.lean that lists a variable, with what it lists TIED to the program's text (the seventh form; the later family's looks); each row that meets fmt, with fmt's text TOLD by the authors' own Lean function (tested against real Go, not proved from fmt's source: count such statements apart). THE CARD IS WHAT COUNTS. Prove the row's statement (the work); the ties are given (YtppmiggkknhdkaaDoorTie.lean); close each card by the builder's one call (the guide's Derived/Test/ToyasCard.lean, 'card_holds'). Laid BY PROGRAM, IN A SANDBOX (cutbox-door.mjs). By AI agents, Wed Nov 11 2026. No macro, syntax, notation, axiom, sorry.
-/
import Derived.Test.YtppmiggkknhdkaaDoorRows
import GoSem.ClaimSeven
namespace Go.Proofs.YtppmiggkknhdkaaDoor
namespace Rows

/-- THE TIED CARD OF 'earshotlaw15.RefuteNone'. -/
def refuteNoneCard : Claim7 := { stood := { row := refuteNoneRow, standIns := [], harness := (true, "9a015f91aaefea97dfe46f3c82ce70cf0da7a94997d7ed30d4118a0e457f8054"), looks := true }, kinds := [], alts := [], laidByText := true, laidKinds := [.sentinel], laidTests := true, laidLooks := .later }
def RefuteNoneCardSaid : Prop := Claim7.holds Tryd.pinned (.plain (OpenSpec.ofChange refuteNoneSpec)) refuteNoneCard

/-- THE TIED CARD OF 'earshotlaw15.RefuteKept'. -/
def refuteKeptCard : Claim7 := { stood := { row := refuteKeptRow, standIns := [], harness := (true, "9a015f91aaefea97dfe46f3c82ce70cf0da7a94997d7ed30d4118a0e457f8054"), looks := true }, kinds := [], alts := [], laidByText := true, laidKinds := [.sentinel], laidTests := true, laidLooks := .later }
def RefuteKeptCardSaid : Prop := Claim7.holds Tryd.pinned (.plain (OpenSpec.ofChange refuteKeptSpec)) refuteKeptCard

/-- THE TIED CARD OF 'earshotlaw15.RefuteDues'. -/
def refuteDuesCard : Claim7 := { stood := { row := refuteDuesRow, standIns := [], harness := (true, "9a015f91aaefea97dfe46f3c82ce70cf0da7a94997d7ed30d4118a0e457f8054"), looks := true }, kinds := [], alts := [], laidByText := true, laidKinds := [.sentinel], laidTests := true, laidLooks := .later }
def RefuteDuesCardSaid : Prop := Claim7.holds Tryd.pinned (.plain (OpenSpec.ofChange refuteDuesSpec)) refuteDuesCard

/-- THE TIED CARD OF 'earshotlaw15.RefuteFree'. -/
def refuteFreeCard : Claim7 := { stood := { row := refuteFreeRow, standIns := [], harness := (true, "9a015f91aaefea97dfe46f3c82ce70cf0da7a94997d7ed30d4118a0e457f8054"), looks := true }, kinds := [], alts := [], laidByText := true, laidKinds := [.sentinel], laidTests := true, laidLooks := .later }
def RefuteFreeCardSaid : Prop := Claim7.holds Tryd.pinned (.plain (OpenSpec.ofChange refuteFreeSpec)) refuteFreeCard

/-- THE SECOND FORM's CARD OF 'earshotlaw15.RefuteNone'. -/
def refuteNoneUptoCard : Claim7 := { stood := { row := refuteNoneUptoRow, standIns := [], harness := (true, "9a015f91aaefea97dfe46f3c82ce70cf0da7a94997d7ed30d4118a0e457f8054"), looks := true }, kinds := [], alts := [], laidByText := true, laidKinds := [.sentinel], laidTests := true, laidLooks := .later }
def RefuteNoneUptoCardSaid : Prop := Claim7.holds Tryd.pinned (.plain (OpenSpec.upto refuteNoneSpec)) refuteNoneUptoCard

/-- THE SECOND FORM's CARD OF 'earshotlaw15.RefuteKept'. -/
def refuteKeptUptoCard : Claim7 := { stood := { row := refuteKeptUptoRow, standIns := [], harness := (true, "9a015f91aaefea97dfe46f3c82ce70cf0da7a94997d7ed30d4118a0e457f8054"), looks := true }, kinds := [], alts := [], laidByText := true, laidKinds := [.sentinel], laidTests := true, laidLooks := .later }
def RefuteKeptUptoCardSaid : Prop := Claim7.holds Tryd.pinned (.plain (OpenSpec.upto refuteKeptSpec)) refuteKeptUptoCard

/-- THE SECOND FORM's CARD OF 'earshotlaw15.RefuteDues'. -/
def refuteDuesUptoCard : Claim7 := { stood := { row := refuteDuesUptoRow, standIns := [], harness := (true, "9a015f91aaefea97dfe46f3c82ce70cf0da7a94997d7ed30d4118a0e457f8054"), looks := true }, kinds := [], alts := [], laidByText := true, laidKinds := [.sentinel], laidTests := true, laidLooks := .later }
def RefuteDuesUptoCardSaid : Prop := Claim7.holds Tryd.pinned (.plain (OpenSpec.upto refuteDuesSpec)) refuteDuesUptoCard

/-- THE SECOND FORM's CARD OF 'earshotlaw15.RefuteFree'. -/
def refuteFreeUptoCard : Claim7 := { stood := { row := refuteFreeUptoRow, standIns := [], harness := (true, "9a015f91aaefea97dfe46f3c82ce70cf0da7a94997d7ed30d4118a0e457f8054"), looks := true }, kinds := [], alts := [], laidByText := true, laidKinds := [.sentinel], laidTests := true, laidLooks := .later }
def RefuteFreeUptoCardSaid : Prop := Claim7.holds Tryd.pinned (.plain (OpenSpec.upto refuteFreeSpec)) refuteFreeUptoCard
end Rows
end Go.Proofs.YtppmiggkknhdkaaDoor
