/-
  NARROWER THAN 'FOR EVERY INPUT', by the rows' own cells (each row's printed sentence says how): CoverJoints: laid · CoverMirrors: laid · CoverTracks: laid · CoverAnew: laid · CoverExactly: laid · CoverSpots: laid · TopEveryPointMet: laid · TopFewestProved: laid.
  DERIVED. THE GIVEN ROWS OF THIS SEAT. 8 by the template 'for every input the law returns true; each argument reads behind the call as it read before'; 0 by the template 'total and deterministic' (their statements: YtfbnpfhnffahdaaGreatDoorTotals.lean).
  GIVEN WITH THE SEED: the statements are not yours to turn. If you find one false, say at which input.
  Laid BY PROGRAM, IN A SANDBOX (cutbox-rows.mjs): the forced cells as the released guide's own fill.sh prints them over the translation 8f5a81d73518d740… (all of the seat's roots in one cut). By AI agents, Wed Nov 11 2026. No macro, syntax, notation, axiom, sorry.
-/
import Derived.Test.YtfbnpfhnffahdaaGreatDoorChecked
import GoSem.Claim
import GoSem.ClaimJoined
import GoSem.ClaimMapViews
import Derived.JoinedTies
import Derived.KernelRfl
namespace Go.Proofs.YtfbnpfhnffahdaaGreatDoor
/- THE CELL 'sum', in the pinned program and in every row, IS THE sha256 OF THE DUMP (.gsa) THAT YtfbnpfhnffahdaaGreatDoorProg.lean LOADS. Nothing in Lean hashes anything: it is a label: what it is worth is what the hold of that sum in a sandbox is worth. -/
noncomputable def Tryz.pinned : Pinned := { name := "ytfbnpfhnffahdaagreatdoor", sum := "8f5a81d73518d7409079a3ae8100dd8dfb44dce9501ae037dbbbf9031f2a8daa", checked := Tryz.checked }
namespace Rows
def none {H : Type} : Left H := { results := [], args := [] }

/- WHAT THE LISTED PACKAGE-LEVEL VARIABLES READ AS WHEN THE CALL BEGINS. Each datum BY PROGRAM (the guide's laid-datum.mjs) off the statement by which the dump's own 'gosem.cut.vars' lays the variable. In a bare row this is a premise. The card (YtfbnpfhnffahdaaGreatDoorCards.lean) ties it to the program's text. -/
def laid_couplant_cover_begin {H : Type} : DataW H := .agg [.lit (.int .i64 0), .lit (.int .i64 1)]
def laid_couplant_cover_end {H : Type} : DataW H := .agg [.lit (.int .i64 1), .lit (.int .i64 1)]

/-- 'couplantlaw07.CoverJoints': WHATEVER THE INPUT: true; the input reads as it did. -/
def coverJointsSpec : ChangeSpec := { name := "coverJoints", fn := fun _ => fun
  | [d1, d2] => { results := [.lit (.bool true)], args := [d1, d2] }
  | _ => none }
def coverJointsRow : OpenClaim := { program := "ytfbnpfhnffahdaagreatdoor", sum := "8f5a81d73518d7409079a3ae8100dd8dfb44dce9501ae037dbbbf9031f2a8daa", func := "couplant/couplantlaw07.CoverJoints", spec := "coverJoints", unfollowed := true, recurses := true, named := ["couplant/cover.begin", "couplant/cover.end"], apart := false, laid := [("couplant/cover.begin", laid_couplant_cover_begin), ("couplant/cover.end", laid_couplant_cover_end)] }
def CoverJointsSaid : Prop := coverJointsRow.holds Tryz.pinned (OpenSpec.ofChange coverJointsSpec)

/-- ITS FALSE NEIGHBOUR: 'it returns false'. Refute it at one input. -/
def coverJointsWrong : ChangeSpec := { name := "coverJoints", fn := fun _ => fun
  | [d1, d2] => { results := [.lit (.bool false)], args := [d1, d2] }
  | _ => none }
def CoverJointsWrongFalsely : Prop := coverJointsRow.holds Tryz.pinned (OpenSpec.ofChange coverJointsWrong)

/-- 'couplantlaw07.CoverMirrors': WHATEVER THE INPUT: true; the input reads as it did. -/
def coverMirrorsSpec : ChangeSpec := { name := "coverMirrors", fn := fun _ => fun
  | [d1, d2, d3] => { results := [.lit (.bool true)], args := [d1, d2, d3] }
  | _ => none }
def coverMirrorsRow : OpenClaim := { program := "ytfbnpfhnffahdaagreatdoor", sum := "8f5a81d73518d7409079a3ae8100dd8dfb44dce9501ae037dbbbf9031f2a8daa", func := "couplant/couplantlaw07.CoverMirrors", spec := "coverMirrors", unfollowed := true, recurses := true, named := ["couplant/cover.begin", "couplant/cover.end"], apart := false, laid := [("couplant/cover.begin", laid_couplant_cover_begin), ("couplant/cover.end", laid_couplant_cover_end)] }
def CoverMirrorsSaid : Prop := coverMirrorsRow.holds Tryz.pinned (OpenSpec.ofChange coverMirrorsSpec)

/-- ITS FALSE NEIGHBOUR: 'it returns false'. Refute it at one input. -/
def coverMirrorsWrong : ChangeSpec := { name := "coverMirrors", fn := fun _ => fun
  | [d1, d2, d3] => { results := [.lit (.bool false)], args := [d1, d2, d3] }
  | _ => none }
def CoverMirrorsWrongFalsely : Prop := coverMirrorsRow.holds Tryz.pinned (OpenSpec.ofChange coverMirrorsWrong)

/-- 'couplantlaw07.CoverTracks': WHATEVER THE INPUT: true; the input reads as it did. -/
def coverTracksSpec : ChangeSpec := { name := "coverTracks", fn := fun _ => fun
  | [d1, d2] => { results := [.lit (.bool true)], args := [d1, d2] }
  | _ => none }
def coverTracksRow : OpenClaim := { program := "ytfbnpfhnffahdaagreatdoor", sum := "8f5a81d73518d7409079a3ae8100dd8dfb44dce9501ae037dbbbf9031f2a8daa", func := "couplant/couplantlaw07.CoverTracks", spec := "coverTracks", unfollowed := true, recurses := true, named := ["couplant/cover.begin", "couplant/cover.end"], apart := false, laid := [("couplant/cover.begin", laid_couplant_cover_begin), ("couplant/cover.end", laid_couplant_cover_end)] }
def CoverTracksSaid : Prop := coverTracksRow.holds Tryz.pinned (OpenSpec.ofChange coverTracksSpec)

/-- ITS FALSE NEIGHBOUR: 'it returns false'. Refute it at one input. -/
def coverTracksWrong : ChangeSpec := { name := "coverTracks", fn := fun _ => fun
  | [d1, d2] => { results := [.lit (.bool false)], args := [d1, d2] }
  | _ => none }
def CoverTracksWrongFalsely : Prop := coverTracksRow.holds Tryz.pinned (OpenSpec.ofChange coverTracksWrong)

/-- 'couplantlaw07.CoverAnew': WHATEVER THE INPUT: true; the input reads as it did. -/
def coverAnewSpec : ChangeSpec := { name := "coverAnew", fn := fun _ => fun
  | [d1, d2, d3] => { results := [.lit (.bool true)], args := [d1, d2, d3] }
  | _ => none }
def coverAnewRow : OpenClaim := { program := "ytfbnpfhnffahdaagreatdoor", sum := "8f5a81d73518d7409079a3ae8100dd8dfb44dce9501ae037dbbbf9031f2a8daa", func := "couplant/couplantlaw07.CoverAnew", spec := "coverAnew", unfollowed := true, recurses := true, named := ["couplant/cover.begin", "couplant/cover.end"], apart := false, laid := [("couplant/cover.begin", laid_couplant_cover_begin), ("couplant/cover.end", laid_couplant_cover_end)] }
def CoverAnewSaid : Prop := coverAnewRow.holds Tryz.pinned (OpenSpec.ofChange coverAnewSpec)

/-- ITS FALSE NEIGHBOUR: 'it returns false'. Refute it at one input. -/
def coverAnewWrong : ChangeSpec := { name := "coverAnew", fn := fun _ => fun
  | [d1, d2, d3] => { results := [.lit (.bool false)], args := [d1, d2, d3] }
  | _ => none }
def CoverAnewWrongFalsely : Prop := coverAnewRow.holds Tryz.pinned (OpenSpec.ofChange coverAnewWrong)

/-- 'couplantlaw07.CoverExactly': WHATEVER THE INPUT: true; the input reads as it did. -/
def coverExactlySpec : ChangeSpec := { name := "coverExactly", fn := fun _ => fun
  | [d1, d2, d3] => { results := [.lit (.bool true)], args := [d1, d2, d3] }
  | _ => none }
def coverExactlyRow : OpenClaim := { program := "ytfbnpfhnffahdaagreatdoor", sum := "8f5a81d73518d7409079a3ae8100dd8dfb44dce9501ae037dbbbf9031f2a8daa", func := "couplant/couplantlaw07.CoverExactly", spec := "coverExactly", unfollowed := true, recurses := true, named := ["couplant/cover.begin", "couplant/cover.end"], apart := false, laid := [("couplant/cover.begin", laid_couplant_cover_begin), ("couplant/cover.end", laid_couplant_cover_end)] }
def CoverExactlySaid : Prop := coverExactlyRow.holds Tryz.pinned (OpenSpec.ofChange coverExactlySpec)

/-- ITS FALSE NEIGHBOUR: 'it returns false'. Refute it at one input. -/
def coverExactlyWrong : ChangeSpec := { name := "coverExactly", fn := fun _ => fun
  | [d1, d2, d3] => { results := [.lit (.bool false)], args := [d1, d2, d3] }
  | _ => none }
def CoverExactlyWrongFalsely : Prop := coverExactlyRow.holds Tryz.pinned (OpenSpec.ofChange coverExactlyWrong)

/-- 'couplantlaw07.CoverSpots': WHATEVER THE INPUT: true; the input reads as it did. -/
def coverSpotsSpec : ChangeSpec := { name := "coverSpots", fn := fun _ => fun
  | [d1, d2, d3] => { results := [.lit (.bool true)], args := [d1, d2, d3] }
  | _ => none }
def coverSpotsRow : OpenClaim := { program := "ytfbnpfhnffahdaagreatdoor", sum := "8f5a81d73518d7409079a3ae8100dd8dfb44dce9501ae037dbbbf9031f2a8daa", func := "couplant/couplantlaw07.CoverSpots", spec := "coverSpots", unfollowed := true, recurses := true, named := ["couplant/cover.begin", "couplant/cover.end"], apart := false, laid := [("couplant/cover.begin", laid_couplant_cover_begin), ("couplant/cover.end", laid_couplant_cover_end)] }
def CoverSpotsSaid : Prop := coverSpotsRow.holds Tryz.pinned (OpenSpec.ofChange coverSpotsSpec)

/-- ITS FALSE NEIGHBOUR: 'it returns false'. Refute it at one input. -/
def coverSpotsWrong : ChangeSpec := { name := "coverSpots", fn := fun _ => fun
  | [d1, d2, d3] => { results := [.lit (.bool false)], args := [d1, d2, d3] }
  | _ => none }
def CoverSpotsWrongFalsely : Prop := coverSpotsRow.holds Tryz.pinned (OpenSpec.ofChange coverSpotsWrong)

/-- 'couplanttop.TopEveryPointMet': WHATEVER THE INPUT: true; the input reads as it did. -/
def topEveryPointMetSpec : ChangeSpec := { name := "topEveryPointMet", fn := fun _ => fun
  | [d1, d2, d3] => { results := [.lit (.bool true)], args := [d1, d2, d3] }
  | _ => none }
def topEveryPointMetRow : OpenClaim := { program := "ytfbnpfhnffahdaagreatdoor", sum := "8f5a81d73518d7409079a3ae8100dd8dfb44dce9501ae037dbbbf9031f2a8daa", func := "couplant/couplanttop.TopEveryPointMet", spec := "topEveryPointMet", unfollowed := true, recurses := true, named := ["couplant/cover.begin", "couplant/cover.end"], apart := false, laid := [("couplant/cover.begin", laid_couplant_cover_begin), ("couplant/cover.end", laid_couplant_cover_end)] }
def TopEveryPointMetSaid : Prop := topEveryPointMetRow.holds Tryz.pinned (OpenSpec.ofChange topEveryPointMetSpec)

/-- ITS FALSE NEIGHBOUR: 'it returns false'. Refute it at one input. -/
def topEveryPointMetWrong : ChangeSpec := { name := "topEveryPointMet", fn := fun _ => fun
  | [d1, d2, d3] => { results := [.lit (.bool false)], args := [d1, d2, d3] }
  | _ => none }
def TopEveryPointMetWrongFalsely : Prop := topEveryPointMetRow.holds Tryz.pinned (OpenSpec.ofChange topEveryPointMetWrong)

/-- 'couplanttop.TopFewestProved': WHATEVER THE INPUT: true; the input reads as it did. -/
def topFewestProvedSpec : ChangeSpec := { name := "topFewestProved", fn := fun _ => fun
  | [d1, d2] => { results := [.lit (.bool true)], args := [d1, d2] }
  | _ => none }
def topFewestProvedRow : OpenClaim := { program := "ytfbnpfhnffahdaagreatdoor", sum := "8f5a81d73518d7409079a3ae8100dd8dfb44dce9501ae037dbbbf9031f2a8daa", func := "couplant/couplanttop.TopFewestProved", spec := "topFewestProved", unfollowed := true, recurses := true, named := ["couplant/cover.begin", "couplant/cover.end"], apart := false, laid := [("couplant/cover.begin", laid_couplant_cover_begin), ("couplant/cover.end", laid_couplant_cover_end)] }
def TopFewestProvedSaid : Prop := topFewestProvedRow.holds Tryz.pinned (OpenSpec.ofChange topFewestProvedSpec)

/-- ITS FALSE NEIGHBOUR: 'it returns false'. Refute it at one input. -/
def topFewestProvedWrong : ChangeSpec := { name := "topFewestProved", fn := fun _ => fun
  | [d1, d2] => { results := [.lit (.bool false)], args := [d1, d2] }
  | _ => none }
def TopFewestProvedWrongFalsely : Prop := topFewestProvedRow.holds Tryz.pinned (OpenSpec.ofChange topFewestProvedWrong)

/- THE SECOND FORM. 'bulk': how many values and letters a reading holds, each counted each time it is reached (what is shared counts as often as it is met; a slice's spare places count too). A statement '..UptoSaid' is the law's where the arguments, and the package variables that the reading takes, are together of bulk at most 1048576: NARROWER than '..Said'. Prove '..Said' where nothing that the law and all that it calls make is longer than what came in: it says more and counts as full. Else prove '..UptoSaid'. A law counts once. -/
mutual
def uptoBulk {H : Type} : DataW H → Nat
  | .lit (.string bytes) => bytes.length + 1
  | .lit _ => 1
  | .nil => 1
  | .ptr d => uptoBulk d + 1
  | .slice elems spare => uptoBulkAll elems + uptoBulkAll spare + 1
  | .agg parts => uptoBulkAll parts + 1
  | .iface _ d => uptoBulk d + 1
  | .map entries => uptoBulkEntries entries + 1
  | .held _ => 1
def uptoBulkAll {H : Type} : List (DataW H) → Nat
  | [] => 0
  | d :: r => uptoBulk d + uptoBulkAll r
def uptoBulkEntries {H : Type} : List (Lit × DataW H) → Nat
  | [] => 0
  | x :: r => uptoBulkEntry x + uptoBulkEntries r
def uptoBulkEntry {H : Type} : Lit × DataW H → Nat
  | (.string bytes, d) => bytes.length + uptoBulk d + 1
  | (_, d) => uptoBulk d + 1
 end
def uptoSmall : (H : Type) → List (DataW H) → Bool := fun _ ds => decide (uptoBulkAll ds ≤ 1048576)
def OpenSpec.upto (s : _root_.Go.ChangeSpec) : _root_.Go.OpenSpec := { _root_.Go.OpenSpec.ofChange s with cond := some uptoSmall }

/-- 'couplantlaw07.CoverJoints', WHERE WHAT IT READS IS OF BULK AT MOST 1048576: true; the input reads as it did. -/
def coverJointsUptoRow : OpenClaim := { program := "ytfbnpfhnffahdaagreatdoor", sum := "8f5a81d73518d7409079a3ae8100dd8dfb44dce9501ae037dbbbf9031f2a8daa", func := "couplant/couplantlaw07.CoverJoints", spec := "coverJoints", unfollowed := true, recurses := true, named := ["couplant/cover.begin", "couplant/cover.end"], apart := false, laid := [("couplant/cover.begin", laid_couplant_cover_begin), ("couplant/cover.end", laid_couplant_cover_end)], narrowed := true }
def CoverJointsUptoSaid : Prop := coverJointsUptoRow.holds Tryz.pinned (OpenSpec.upto coverJointsSpec)

/-- 'couplantlaw07.CoverMirrors', WHERE WHAT IT READS IS OF BULK AT MOST 1048576: true; the input reads as it did. -/
def coverMirrorsUptoRow : OpenClaim := { program := "ytfbnpfhnffahdaagreatdoor", sum := "8f5a81d73518d7409079a3ae8100dd8dfb44dce9501ae037dbbbf9031f2a8daa", func := "couplant/couplantlaw07.CoverMirrors", spec := "coverMirrors", unfollowed := true, recurses := true, named := ["couplant/cover.begin", "couplant/cover.end"], apart := false, laid := [("couplant/cover.begin", laid_couplant_cover_begin), ("couplant/cover.end", laid_couplant_cover_end)], narrowed := true }
def CoverMirrorsUptoSaid : Prop := coverMirrorsUptoRow.holds Tryz.pinned (OpenSpec.upto coverMirrorsSpec)

/-- 'couplantlaw07.CoverTracks', WHERE WHAT IT READS IS OF BULK AT MOST 1048576: true; the input reads as it did. -/
def coverTracksUptoRow : OpenClaim := { program := "ytfbnpfhnffahdaagreatdoor", sum := "8f5a81d73518d7409079a3ae8100dd8dfb44dce9501ae037dbbbf9031f2a8daa", func := "couplant/couplantlaw07.CoverTracks", spec := "coverTracks", unfollowed := true, recurses := true, named := ["couplant/cover.begin", "couplant/cover.end"], apart := false, laid := [("couplant/cover.begin", laid_couplant_cover_begin), ("couplant/cover.end", laid_couplant_cover_end)], narrowed := true }
def CoverTracksUptoSaid : Prop := coverTracksUptoRow.holds Tryz.pinned (OpenSpec.upto coverTracksSpec)

/-- 'couplantlaw07.CoverAnew', WHERE WHAT IT READS IS OF BULK AT MOST 1048576: true; the input reads as it did. -/
def coverAnewUptoRow : OpenClaim := { program := "ytfbnpfhnffahdaagreatdoor", sum := "8f5a81d73518d7409079a3ae8100dd8dfb44dce9501ae037dbbbf9031f2a8daa", func := "couplant/couplantlaw07.CoverAnew", spec := "coverAnew", unfollowed := true, recurses := true, named := ["couplant/cover.begin", "couplant/cover.end"], apart := false, laid := [("couplant/cover.begin", laid_couplant_cover_begin), ("couplant/cover.end", laid_couplant_cover_end)], narrowed := true }
def CoverAnewUptoSaid : Prop := coverAnewUptoRow.holds Tryz.pinned (OpenSpec.upto coverAnewSpec)

/-- 'couplantlaw07.CoverExactly', WHERE WHAT IT READS IS OF BULK AT MOST 1048576: true; the input reads as it did. -/
def coverExactlyUptoRow : OpenClaim := { program := "ytfbnpfhnffahdaagreatdoor", sum := "8f5a81d73518d7409079a3ae8100dd8dfb44dce9501ae037dbbbf9031f2a8daa", func := "couplant/couplantlaw07.CoverExactly", spec := "coverExactly", unfollowed := true, recurses := true, named := ["couplant/cover.begin", "couplant/cover.end"], apart := false, laid := [("couplant/cover.begin", laid_couplant_cover_begin), ("couplant/cover.end", laid_couplant_cover_end)], narrowed := true }
def CoverExactlyUptoSaid : Prop := coverExactlyUptoRow.holds Tryz.pinned (OpenSpec.upto coverExactlySpec)

/-- 'couplantlaw07.CoverSpots', WHERE WHAT IT READS IS OF BULK AT MOST 1048576: true; the input reads as it did. -/
def coverSpotsUptoRow : OpenClaim := { program := "ytfbnpfhnffahdaagreatdoor", sum := "8f5a81d73518d7409079a3ae8100dd8dfb44dce9501ae037dbbbf9031f2a8daa", func := "couplant/couplantlaw07.CoverSpots", spec := "coverSpots", unfollowed := true, recurses := true, named := ["couplant/cover.begin", "couplant/cover.end"], apart := false, laid := [("couplant/cover.begin", laid_couplant_cover_begin), ("couplant/cover.end", laid_couplant_cover_end)], narrowed := true }
def CoverSpotsUptoSaid : Prop := coverSpotsUptoRow.holds Tryz.pinned (OpenSpec.upto coverSpotsSpec)

/-- 'couplanttop.TopEveryPointMet', WHERE WHAT IT READS IS OF BULK AT MOST 1048576: true; the input reads as it did. -/
def topEveryPointMetUptoRow : OpenClaim := { program := "ytfbnpfhnffahdaagreatdoor", sum := "8f5a81d73518d7409079a3ae8100dd8dfb44dce9501ae037dbbbf9031f2a8daa", func := "couplant/couplanttop.TopEveryPointMet", spec := "topEveryPointMet", unfollowed := true, recurses := true, named := ["couplant/cover.begin", "couplant/cover.end"], apart := false, laid := [("couplant/cover.begin", laid_couplant_cover_begin), ("couplant/cover.end", laid_couplant_cover_end)], narrowed := true }
def TopEveryPointMetUptoSaid : Prop := topEveryPointMetUptoRow.holds Tryz.pinned (OpenSpec.upto topEveryPointMetSpec)

/-- 'couplanttop.TopFewestProved', WHERE WHAT IT READS IS OF BULK AT MOST 1048576: true; the input reads as it did. -/
def topFewestProvedUptoRow : OpenClaim := { program := "ytfbnpfhnffahdaagreatdoor", sum := "8f5a81d73518d7409079a3ae8100dd8dfb44dce9501ae037dbbbf9031f2a8daa", func := "couplant/couplanttop.TopFewestProved", spec := "topFewestProved", unfollowed := true, recurses := true, named := ["couplant/cover.begin", "couplant/cover.end"], apart := false, laid := [("couplant/cover.begin", laid_couplant_cover_begin), ("couplant/cover.end", laid_couplant_cover_end)], narrowed := true }
def TopFewestProvedUptoSaid : Prop := topFewestProvedUptoRow.holds Tryz.pinned (OpenSpec.upto topFewestProvedSpec)

end Rows
end Go.Proofs.YtfbnpfhnffahdaaGreatDoor
