/-
  DERIVED. GIVEN WITH THE SEED: THE CARDS: each row of YtmdbpkomanhpoaaGreatDoorRows.lean that lists a variable, with what it lists TIED to the program's text (the seventh form; the later family's looks); each row that meets fmt, with fmt's text TOLD by the authors' own Lean function (tested against real Go, not proved from fmt's source: count such statements apart). THE CARD IS WHAT COUNTS. Prove the row's statement (the work); the ties are given (YtmdbpkomanhpoaaGreatDoorTie.lean); close each card by the builder's one call (the guide's Derived/Test/ToyasCard.lean, 'card_holds'). Laid BY PROGRAM, IN A SANDBOX (cutbox-door.mjs). By AI agents, Wed Nov 11 2026. No macro, syntax, notation, axiom, sorry.
-/
import Derived.Test.YtmdbpkomanhpoaaGreatDoorRows
import GoSem.ClaimSeven
namespace Go.Proofs.YtmdbpkomanhpoaaGreatDoor
namespace Rows

/-- THE TIED CARD OF 'couplantlaw10.OfficeClosed'. -/
def officeClosedCard : Claim7 := { stood := { row := officeClosedRow, standIns := [], harness := (true, "0f7a599e7a6e528d7801e9106f9e8c51568f334820467850993f2e8c70e92876"), looks := true }, kinds := [], alts := [], laidByText := true, laidKinds := [.data, .data, .data, .data, .sentinel, .sentinel, .data, .data, .data, .pinned], laidTests := true, laidLooks := .later }
def OfficeClosedCardSaid : Prop := Claim7.holds Tryz.pinned (.plain (OpenSpec.ofChange officeClosedSpec)) officeClosedCard

/-- THE SECOND FORM's CARD OF 'couplantlaw10.OfficeClosed'. -/
def officeClosedUptoCard : Claim7 := { stood := { row := officeClosedUptoRow, standIns := [], harness := (true, "0f7a599e7a6e528d7801e9106f9e8c51568f334820467850993f2e8c70e92876"), looks := true }, kinds := [], alts := [], laidByText := true, laidKinds := [.data, .data, .data, .data, .sentinel, .sentinel, .data, .data, .data, .pinned], laidTests := true, laidLooks := .later }
def OfficeClosedUptoCardSaid : Prop := Claim7.holds Tryz.pinned (.plain (OpenSpec.upto officeClosedSpec)) officeClosedUptoCard
end Rows
end Go.Proofs.YtmdbpkomanhpoaaGreatDoor
