/-
  DERIVED. GIVEN WITH THE SEED: THE CARDS: each row of YtjimdnmdnjhnjaaGreatDoorRows.lean that lists a variable, with what it lists TIED to the program's text (the seventh form; the later family's looks); each row that meets fmt, with fmt's text TOLD by the authors' own Lean function (tested against real Go, not proved from fmt's source: count such statements apart). THE CARD IS WHAT COUNTS. Prove the row's statement (the work); the ties are given (YtjimdnmdnjhnjaaGreatDoorTie.lean); close each card by the builder's one call (the guide's Derived/Test/ToyasCard.lean, 'card_holds'). Laid BY PROGRAM, IN A SANDBOX (cutbox-door.mjs). By AI agents, Wed Nov 11 2026. No macro, syntax, notation, axiom, sorry.
-/
import Derived.Test.YtjimdnmdnjhnjaaGreatDoorRows
import GoSem.ClaimSeven
namespace Go.Proofs.YtjimdnmdnjhnjaaGreatDoor
namespace Rows

/-- THE TIED CARD OF 'couplantlaw08.FlawTexts'. -/
def flawTextsCard : Claim7 := { stood := { row := flawTextsRow, standIns := [], harness := (true, "55d17a66724a2b3051e205a2a4a50703b0e286fb547994590f3437157eae6211"), looks := true }, kinds := [], alts := [], laidByText := true, laidKinds := [.data, .data, .data, .data, .sentinel, .sentinel, .pinned], laidTests := true, laidLooks := .later }
def FlawTextsCardSaid : Prop := Claim7.holds Tryz.pinned (.plain (OpenSpec.ofChange flawTextsSpec)) flawTextsCard

/-- THE SECOND FORM's CARD OF 'couplantlaw08.FlawTexts'. -/
def flawTextsUptoCard : Claim7 := { stood := { row := flawTextsUptoRow, standIns := [], harness := (true, "55d17a66724a2b3051e205a2a4a50703b0e286fb547994590f3437157eae6211"), looks := true }, kinds := [], alts := [], laidByText := true, laidKinds := [.data, .data, .data, .data, .sentinel, .sentinel, .pinned], laidTests := true, laidLooks := .later }
def FlawTextsUptoCardSaid : Prop := Claim7.holds Tryz.pinned (.plain (OpenSpec.upto flawTextsSpec)) flawTextsUptoCard
end Rows
end Go.Proofs.YtjimdnmdnjhnjaaGreatDoor
