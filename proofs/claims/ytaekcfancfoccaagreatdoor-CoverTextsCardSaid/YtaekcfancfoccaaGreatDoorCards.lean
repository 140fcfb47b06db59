/-
  DERIVED. GIVEN WITH THE SEED: THE CARDS: each row of YtaekcfancfoccaaGreatDoorRows.lean that lists a variable, with what it lists TIED to the program's text (the seventh form; the later family's looks); each row that meets fmt, with fmt's text TOLD by the authors' own Lean function (tested against real Go, not proved from fmt's source: count such statements apart). THE CARD IS WHAT COUNTS. Prove the row's statement (the work); the ties are given (YtaekcfancfoccaaGreatDoorTie.lean); close each card by the builder's one call (the guide's Derived/Test/ToyasCard.lean, 'card_holds'). Laid BY PROGRAM, IN A SANDBOX (cutbox-door.mjs). By AI agents, Wed Nov 11 2026. No macro, syntax, notation, axiom, sorry.
-/
import Derived.Test.YtaekcfancfoccaaGreatDoorRows
import GoSem.ClaimSeven
namespace Go.Proofs.YtaekcfancfoccaaGreatDoor
namespace Rows

/-- THE TIED CARD OF 'couplantlaw07.CoverTexts'. -/
def coverTextsCard : Claim7 := { stood := { row := coverTextsRow, standIns := [], harness := (true, "bacec412e3f92c645f9b3ab480a53d630158139121f8ca3aa27a44d7add777aa"), looks := true }, kinds := [], alts := [], laidByText := true, laidKinds := [.data, .data, .data, .sentinel, .sentinel, .data, .data], laidTests := true, laidLooks := .later }
def CoverTextsCardSaid : Prop := Claim7.holds Tryz.pinned (.plain (OpenSpec.ofChange coverTextsSpec)) coverTextsCard

/-- THE TIED CARD OF 'couplantlaw07.CoverSetups'. -/
def coverSetupsCard : Claim7 := { stood := { row := coverSetupsRow, standIns := [], harness := (true, "bacec412e3f92c645f9b3ab480a53d630158139121f8ca3aa27a44d7add777aa"), looks := true }, kinds := [], alts := [], laidByText := true, laidKinds := [.data, .data, .data, .data, .sentinel, .sentinel, .data, .data, .pinned], laidTests := true, laidLooks := .later }
def CoverSetupsCardSaid : Prop := Claim7.holds Tryz.pinned (.plain (OpenSpec.ofChange coverSetupsSpec)) coverSetupsCard

/-- THE SECOND FORM's CARD OF 'couplantlaw07.CoverTexts'. -/
def coverTextsUptoCard : Claim7 := { stood := { row := coverTextsUptoRow, standIns := [], harness := (true, "bacec412e3f92c645f9b3ab480a53d630158139121f8ca3aa27a44d7add777aa"), looks := true }, kinds := [], alts := [], laidByText := true, laidKinds := [.data, .data, .data, .sentinel, .sentinel, .data, .data], laidTests := true, laidLooks := .later }
def CoverTextsUptoCardSaid : Prop := Claim7.holds Tryz.pinned (.plain (OpenSpec.upto coverTextsSpec)) coverTextsUptoCard

/-- THE SECOND FORM's CARD OF 'couplantlaw07.CoverSetups'. -/
def coverSetupsUptoCard : Claim7 := { stood := { row := coverSetupsUptoRow, standIns := [], harness := (true, "bacec412e3f92c645f9b3ab480a53d630158139121f8ca3aa27a44d7add777aa"), looks := true }, kinds := [], alts := [], laidByText := true, laidKinds := [.data, .data, .data, .data, .sentinel, .sentinel, .data, .data, .pinned], laidTests := true, laidLooks := .later }
def CoverSetupsUptoCardSaid : Prop := Claim7.holds Tryz.pinned (.plain (OpenSpec.upto coverSetupsSpec)) coverSetupsUptoCard
end Rows
end Go.Proofs.YtaekcfancfoccaaGreatDoor
