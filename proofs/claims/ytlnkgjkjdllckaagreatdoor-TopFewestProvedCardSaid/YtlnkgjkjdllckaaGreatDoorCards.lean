/-
  DERIVED. GIVEN WITH THE SEED: THE CARDS: each row of YtlnkgjkjdllckaaGreatDoorRows.lean that lists a variable, with what it lists TIED to the program's text (the seventh form; the later family's looks); each row that meets fmt, with fmt's text TOLD by the authors' own Lean function (tested against real Go, not proved from fmt's source: count such statements apart). THE CARD IS WHAT COUNTS. Prove the row's statement (the work); the ties are given (YtlnkgjkjdllckaaGreatDoorTie.lean); close each card by the builder's one call (the guide's Derived/Test/ToyasCard.lean, 'card_holds'). Laid BY PROGRAM, IN A SANDBOX (cutbox-door.mjs). By AI agents, Wed Nov 11 2026. No macro, syntax, notation, axiom, sorry.
-/
import Derived.Test.YtlnkgjkjdllckaaGreatDoorRows
import GoSem.ClaimSeven
namespace Go.Proofs.YtlnkgjkjdllckaaGreatDoor
namespace Rows

/-- THE TIED CARD OF 'couplanttop.TopFewestProved'. -/
def topFewestProvedCard : Claim7 := { stood := { row := topFewestProvedRow, standIns := [], harness := (true, "d0f85e0e1d8b64f6735aea3285d284c0a3e77ad4bbd13446cbf43bc85d3451fb"), looks := false }, kinds := [], alts := [], laidByText := true, laidKinds := [.data, .data], laidTests := true, laidLooks := .later }
def TopFewestProvedCardSaid : Prop := Claim7.holds Tryz.pinned (.plain (OpenSpec.ofChange topFewestProvedSpec)) topFewestProvedCard

/-- THE SECOND FORM's CARD OF 'couplanttop.TopFewestProved'. -/
def topFewestProvedUptoCard : Claim7 := { stood := { row := topFewestProvedUptoRow, standIns := [], harness := (true, "d0f85e0e1d8b64f6735aea3285d284c0a3e77ad4bbd13446cbf43bc85d3451fb"), looks := false }, kinds := [], alts := [], laidByText := true, laidKinds := [.data, .data], laidTests := true, laidLooks := .later }
def TopFewestProvedUptoCardSaid : Prop := Claim7.holds Tryz.pinned (.plain (OpenSpec.upto topFewestProvedSpec)) topFewestProvedUptoCard
end Rows
end Go.Proofs.YtlnkgjkjdllckaaGreatDoor
