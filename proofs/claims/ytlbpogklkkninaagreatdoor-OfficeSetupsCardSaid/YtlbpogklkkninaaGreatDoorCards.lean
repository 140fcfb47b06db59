/-
  DERIVED. GIVEN WITH THE SEED: THE CARDS: each row of YtlbpogklkkninaaGreatDoorRows.lean that lists a variable, with what it lists TIED to the program's text (the seventh form; the later family's looks); each row that meets fmt, with fmt's text TOLD by the authors' own Lean function (tested against real Go, not proved from fmt's source: count such statements apart). THE CARD IS WHAT COUNTS. Prove the row's statement (the work); the ties are given (YtlbpogklkkninaaGreatDoorTie.lean); close each card by the builder's one call (the guide's Derived/Test/ToyasCard.lean, 'card_holds'). Laid BY PROGRAM, IN A SANDBOX (cutbox-door.mjs). By AI agents, Wed Nov 11 2026. No macro, syntax, notation, axiom, sorry.
-/
import Derived.Test.YtlbpogklkkninaaGreatDoorRows
import GoSem.ClaimSeven
namespace Go.Proofs.YtlbpogklkkninaaGreatDoor
namespace Rows

/-- THE TIED CARD OF 'couplantlaw10.OfficeSetups'. -/
def officeSetupsCard : Claim7 := { stood := { row := officeSetupsRow, standIns := [], harness := (true, "ca14218e75ce56853a3e46b591723d24e2a36ed5a4fdc4298a633eaf85f18f57"), looks := true }, kinds := [], alts := [], laidByText := true, laidKinds := [.data, .data, .data, .data, .sentinel, .sentinel, .data, .data, .data, .pinned], laidTests := true, laidLooks := .later }
def OfficeSetupsCardSaid : Prop := Claim7.holds Tryz.pinned (.plain (OpenSpec.ofChange officeSetupsSpec)) officeSetupsCard

/-- THE SECOND FORM's CARD OF 'couplantlaw10.OfficeSetups'. -/
def officeSetupsUptoCard : Claim7 := { stood := { row := officeSetupsUptoRow, standIns := [], harness := (true, "ca14218e75ce56853a3e46b591723d24e2a36ed5a4fdc4298a633eaf85f18f57"), looks := true }, kinds := [], alts := [], laidByText := true, laidKinds := [.data, .data, .data, .data, .sentinel, .sentinel, .data, .data, .data, .pinned], laidTests := true, laidLooks := .later }
def OfficeSetupsUptoCardSaid : Prop := Claim7.holds Tryz.pinned (.plain (OpenSpec.upto officeSetupsSpec)) officeSetupsUptoCard
end Rows
end Go.Proofs.YtlbpogklkkninaaGreatDoor
