/-
  DERIVED. GIVEN WITH THE SEED: THE CARDS: each row of YtfbnpfhnffahdaaGreatDoorRows.lean that lists a variable, with what it lists TIED to the program's text (the seventh form; the later family's looks); each row that meets fmt, with fmt's text TOLD by the authors' own Lean function (tested against real Go, not proved from fmt's source: count such statements apart). THE CARD IS WHAT COUNTS. Prove the row's statement (the work); the ties are given (YtfbnpfhnffahdaaGreatDoorTie.lean); close each card by the builder's one call (the guide's Derived/Test/ToyasCard.lean, 'card_holds'). Laid BY PROGRAM, IN A SANDBOX (cutbox-door.mjs). By AI agents, Wed Nov 11 2026. No macro, syntax, notation, axiom, sorry.
-/
import Derived.Test.YtfbnpfhnffahdaaGreatDoorRows
import GoSem.ClaimSeven
namespace Go.Proofs.YtfbnpfhnffahdaaGreatDoor
namespace Rows

/-- THE TIED CARD OF 'couplantlaw07.CoverJoints'. -/
def coverJointsCard : Claim7 := { stood := { row := coverJointsRow, standIns := [], harness := (true, "7dcdcac4800e0ed5491043cb82655519240dfdfced0650ff50274feadb9b866a"), looks := false }, kinds := [], alts := [], laidByText := true, laidKinds := [.data, .data], laidTests := true, laidLooks := .later }
def CoverJointsCardSaid : Prop := Claim7.holds Tryz.pinned (.plain (OpenSpec.ofChange coverJointsSpec)) coverJointsCard

/-- THE TIED CARD OF 'couplantlaw07.CoverMirrors'. -/
def coverMirrorsCard : Claim7 := { stood := { row := coverMirrorsRow, standIns := [], harness := (true, "7dcdcac4800e0ed5491043cb82655519240dfdfced0650ff50274feadb9b866a"), looks := false }, kinds := [], alts := [], laidByText := true, laidKinds := [.data, .data], laidTests := true, laidLooks := .later }
def CoverMirrorsCardSaid : Prop := Claim7.holds Tryz.pinned (.plain (OpenSpec.ofChange coverMirrorsSpec)) coverMirrorsCard

/-- THE TIED CARD OF 'couplantlaw07.CoverTracks'. -/
def coverTracksCard : Claim7 := { stood := { row := coverTracksRow, standIns := [], harness := (true, "7dcdcac4800e0ed5491043cb82655519240dfdfced0650ff50274feadb9b866a"), looks := false }, kinds := [], alts := [], laidByText := true, laidKinds := [.data, .data], laidTests := true, laidLooks := .later }
def CoverTracksCardSaid : Prop := Claim7.holds Tryz.pinned (.plain (OpenSpec.ofChange coverTracksSpec)) coverTracksCard

/-- THE TIED CARD OF 'couplantlaw07.CoverAnew'. -/
def coverAnewCard : Claim7 := { stood := { row := coverAnewRow, standIns := [], harness := (true, "7dcdcac4800e0ed5491043cb82655519240dfdfced0650ff50274feadb9b866a"), looks := false }, kinds := [], alts := [], laidByText := true, laidKinds := [.data, .data], laidTests := true, laidLooks := .later }
def CoverAnewCardSaid : Prop := Claim7.holds Tryz.pinned (.plain (OpenSpec.ofChange coverAnewSpec)) coverAnewCard

/-- THE TIED CARD OF 'couplantlaw07.CoverExactly'. -/
def coverExactlyCard : Claim7 := { stood := { row := coverExactlyRow, standIns := [], harness := (true, "7dcdcac4800e0ed5491043cb82655519240dfdfced0650ff50274feadb9b866a"), looks := false }, kinds := [], alts := [], laidByText := true, laidKinds := [.data, .data], laidTests := true, laidLooks := .later }
def CoverExactlyCardSaid : Prop := Claim7.holds Tryz.pinned (.plain (OpenSpec.ofChange coverExactlySpec)) coverExactlyCard

/-- THE TIED CARD OF 'couplantlaw07.CoverSpots'. -/
def coverSpotsCard : Claim7 := { stood := { row := coverSpotsRow, standIns := [], harness := (true, "7dcdcac4800e0ed5491043cb82655519240dfdfced0650ff50274feadb9b866a"), looks := false }, kinds := [], alts := [], laidByText := true, laidKinds := [.data, .data], laidTests := true, laidLooks := .later }
def CoverSpotsCardSaid : Prop := Claim7.holds Tryz.pinned (.plain (OpenSpec.ofChange coverSpotsSpec)) coverSpotsCard

/-- THE TIED CARD OF 'couplanttop.TopEveryPointMet'. -/
def topEveryPointMetCard : Claim7 := { stood := { row := topEveryPointMetRow, standIns := [], harness := (true, "7dcdcac4800e0ed5491043cb82655519240dfdfced0650ff50274feadb9b866a"), looks := false }, kinds := [], alts := [], laidByText := true, laidKinds := [.data, .data], laidTests := true, laidLooks := .later }
def TopEveryPointMetCardSaid : Prop := Claim7.holds Tryz.pinned (.plain (OpenSpec.ofChange topEveryPointMetSpec)) topEveryPointMetCard

/-- THE TIED CARD OF 'couplanttop.TopFewestProved'. -/
def topFewestProvedCard : Claim7 := { stood := { row := topFewestProvedRow, standIns := [], harness := (true, "7dcdcac4800e0ed5491043cb82655519240dfdfced0650ff50274feadb9b866a"), looks := false }, kinds := [], alts := [], laidByText := true, laidKinds := [.data, .data], laidTests := true, laidLooks := .later }
def TopFewestProvedCardSaid : Prop := Claim7.holds Tryz.pinned (.plain (OpenSpec.ofChange topFewestProvedSpec)) topFewestProvedCard

/-- THE SECOND FORM's CARD OF 'couplantlaw07.CoverJoints'. -/
def coverJointsUptoCard : Claim7 := { stood := { row := coverJointsUptoRow, standIns := [], harness := (true, "7dcdcac4800e0ed5491043cb82655519240dfdfced0650ff50274feadb9b866a"), looks := false }, kinds := [], alts := [], laidByText := true, laidKinds := [.data, .data], laidTests := true, laidLooks := .later }
def CoverJointsUptoCardSaid : Prop := Claim7.holds Tryz.pinned (.plain (OpenSpec.upto coverJointsSpec)) coverJointsUptoCard

/-- THE SECOND FORM's CARD OF 'couplantlaw07.CoverMirrors'. -/
def coverMirrorsUptoCard : Claim7 := { stood := { row := coverMirrorsUptoRow, standIns := [], harness := (true, "7dcdcac4800e0ed5491043cb82655519240dfdfced0650ff50274feadb9b866a"), looks := false }, kinds := [], alts := [], laidByText := true, laidKinds := [.data, .data], laidTests := true, laidLooks := .later }
def CoverMirrorsUptoCardSaid : Prop := Claim7.holds Tryz.pinned (.plain (OpenSpec.upto coverMirrorsSpec)) coverMirrorsUptoCard

/-- THE SECOND FORM's CARD OF 'couplantlaw07.CoverTracks'. -/
def coverTracksUptoCard : Claim7 := { stood := { row := coverTracksUptoRow, standIns := [], harness := (true, "7dcdcac4800e0ed5491043cb82655519240dfdfced0650ff50274feadb9b866a"), looks := false }, kinds := [], alts := [], laidByText := true, laidKinds := [.data, .data], laidTests := true, laidLooks := .later }
def CoverTracksUptoCardSaid : Prop := Claim7.holds Tryz.pinned (.plain (OpenSpec.upto coverTracksSpec)) coverTracksUptoCard

/-- THE SECOND FORM's CARD OF 'couplantlaw07.CoverAnew'. -/
def coverAnewUptoCard : Claim7 := { stood := { row := coverAnewUptoRow, standIns := [], harness := (true, "7dcdcac4800e0ed5491043cb82655519240dfdfced0650ff50274feadb9b866a"), looks := false }, kinds := [], alts := [], laidByText := true, laidKinds := [.data, .data], laidTests := true, laidLooks := .later }
def CoverAnewUptoCardSaid : Prop := Claim7.holds Tryz.pinned (.plain (OpenSpec.upto coverAnewSpec)) coverAnewUptoCard

/-- THE SECOND FORM's CARD OF 'couplantlaw07.CoverExactly'. -/
def coverExactlyUptoCard : Claim7 := { stood := { row := coverExactlyUptoRow, standIns := [], harness := (true, "7dcdcac4800e0ed5491043cb82655519240dfdfced0650ff50274feadb9b866a"), looks := false }, kinds := [], alts := [], laidByText := true, laidKinds := [.data, .data], laidTests := true, laidLooks := .later }
def CoverExactlyUptoCardSaid : Prop := Claim7.holds Tryz.pinned (.plain (OpenSpec.upto coverExactlySpec)) coverExactlyUptoCard

/-- THE SECOND FORM's CARD OF 'couplantlaw07.CoverSpots'. -/
def coverSpotsUptoCard : Claim7 := { stood := { row := coverSpotsUptoRow, standIns := [], harness := (true, "7dcdcac4800e0ed5491043cb82655519240dfdfced0650ff50274feadb9b866a"), looks := false }, kinds := [], alts := [], laidByText := true, laidKinds := [.data, .data], laidTests := true, laidLooks := .later }
def CoverSpotsUptoCardSaid : Prop := Claim7.holds Tryz.pinned (.plain (OpenSpec.upto coverSpotsSpec)) coverSpotsUptoCard

/-- THE SECOND FORM's CARD OF 'couplanttop.TopEveryPointMet'. -/
def topEveryPointMetUptoCard : Claim7 := { stood := { row := topEveryPointMetUptoRow, standIns := [], harness := (true, "7dcdcac4800e0ed5491043cb82655519240dfdfced0650ff50274feadb9b866a"), looks := false }, kinds := [], alts := [], laidByText := true, laidKinds := [.data, .data], laidTests := true, laidLooks := .later }
def TopEveryPointMetUptoCardSaid : Prop := Claim7.holds Tryz.pinned (.plain (OpenSpec.upto topEveryPointMetSpec)) topEveryPointMetUptoCard

/-- THE SECOND FORM's CARD OF 'couplanttop.TopFewestProved'. -/
def topFewestProvedUptoCard : Claim7 := { stood := { row := topFewestProvedUptoRow, standIns := [], harness := (true, "7dcdcac4800e0ed5491043cb82655519240dfdfced0650ff50274feadb9b866a"), looks := false }, kinds := [], alts := [], laidByText := true, laidKinds := [.data, .data], laidTests := true, laidLooks := .later }
def TopFewestProvedUptoCardSaid : Prop := Claim7.holds Tryz.pinned (.plain (OpenSpec.upto topFewestProvedSpec)) topFewestProvedUptoCard
end Rows
end Go.Proofs.YtfbnpfhnffahdaaGreatDoor
