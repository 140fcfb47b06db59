/-
  No cell of these rows narrows 'for every input' (looked for: loops, veiled, ifaces, maps, wideKeys, modest, calm, conditions, laid).
  DERIVED. THE GIVEN ROWS OF THIS SEAT. 15 by the template 'for every input the law returns true; each argument reads behind the call as it read before'; 0 by the template 'total and deterministic' (their statements: YtidgeagpgllkeaaGreatTotals.lean).
  GIVEN WITH THE SEED: the statements are not yours to turn. If you find one false, say at which input.
  Laid BY PROGRAM, IN A SANDBOX (cutbox-rows.mjs): the forced cells as the released guide's own fill.sh prints them over the translation 9719e43da943a195… (all of the seat's roots in one cut). By AI agents, Wed Nov 11 2026. No macro, syntax, notation, axiom, sorry.
-/
import Derived.Test.YtidgeagpgllkeaaGreatChecked
import GoSem.Claim
import GoSem.ClaimJoined
import GoSem.ClaimMapViews
import Derived.JoinedTies
import Derived.KernelRfl
namespace Go.Proofs.YtidgeagpgllkeaaGreat
/- THE CELL 'sum', in the pinned program and in every row, IS THE sha256 OF THE DUMP (.gsa) THAT YtidgeagpgllkeaaGreatProg.lean LOADS. Nothing in Lean hashes anything: it is a label: what it is worth is what the hold of that sum in a sandbox is worth. -/
noncomputable def Tryz.pinned : Pinned := { name := "ytidgeagpgllkeaagreat", sum := "9719e43da943a1952492d01941fdbcedd01874d51a5633fa03aeee85677232b6", checked := Tryz.checked }
namespace Rows
def none {H : Type} : Left H := { results := [], args := [] }

/-- 'couplantlaw08.FlawAnyOrder': WHATEVER THE INPUT: true; the input reads as it did. -/
def flawAnyOrderSpec : ChangeSpec := { name := "flawAnyOrder", fn := fun _ => fun
  | [d1, d2, d3] => { results := [.lit (.bool true)], args := [d1, d2, d3] }
  | _ => none }
def flawAnyOrderRow : OpenClaim := { program := "ytidgeagpgllkeaagreat", sum := "9719e43da943a1952492d01941fdbcedd01874d51a5633fa03aeee85677232b6", func := "couplant/couplantlaw08.FlawAnyOrder", spec := "flawAnyOrder", inPlace := ["math.sqrt"], unfollowed := true, recurses := true, plainKeys := false, apart := false }
def FlawAnyOrderSaid : Prop := flawAnyOrderRow.holds Tryz.pinned (OpenSpec.ofChange flawAnyOrderSpec)

/-- ITS FALSE NEIGHBOUR: 'it returns false'. Refute it at one input. -/
def flawAnyOrderWrong : ChangeSpec := { name := "flawAnyOrder", fn := fun _ => fun
  | [d1, d2, d3] => { results := [.lit (.bool false)], args := [d1, d2, d3] }
  | _ => none }
def FlawAnyOrderWrongFalsely : Prop := flawAnyOrderRow.holds Tryz.pinned (OpenSpec.ofChange flawAnyOrderWrong)

/-- 'couplantlaw08.FlawDrops': WHATEVER THE INPUT: true; the input reads as it did. -/
def flawDropsSpec : ChangeSpec := { name := "flawDrops", fn := fun _ => fun
  | [d1, d2, d3] => { results := [.lit (.bool true)], args := [d1, d2, d3] }
  | _ => none }
def flawDropsRow : OpenClaim := { program := "ytidgeagpgllkeaagreat", sum := "9719e43da943a1952492d01941fdbcedd01874d51a5633fa03aeee85677232b6", func := "couplant/couplantlaw08.FlawDrops", spec := "flawDrops", inPlace := ["math.sqrt"], unfollowed := true, recurses := true, plainKeys := false, apart := false }
def FlawDropsSaid : Prop := flawDropsRow.holds Tryz.pinned (OpenSpec.ofChange flawDropsSpec)

/-- ITS FALSE NEIGHBOUR: 'it returns false'. Refute it at one input. -/
def flawDropsWrong : ChangeSpec := { name := "flawDrops", fn := fun _ => fun
  | [d1, d2, d3] => { results := [.lit (.bool false)], args := [d1, d2, d3] }
  | _ => none }
def FlawDropsWrongFalsely : Prop := flawDropsRow.holds Tryz.pinned (OpenSpec.ofChange flawDropsWrong)

/-- 'couplantlaw08.FlawTrue': WHATEVER THE INPUT: true; the input reads as it did. -/
def flawTrueSpec : ChangeSpec := { name := "flawTrue", fn := fun _ => fun
  | [d1, d2, d3] => { results := [.lit (.bool true)], args := [d1, d2, d3] }
  | _ => none }
def flawTrueRow : OpenClaim := { program := "ytidgeagpgllkeaagreat", sum := "9719e43da943a1952492d01941fdbcedd01874d51a5633fa03aeee85677232b6", func := "couplant/couplantlaw08.FlawTrue", spec := "flawTrue", inPlace := ["math.sqrt"], unfollowed := true, recurses := true, plainKeys := false, apart := false }
def FlawTrueSaid : Prop := flawTrueRow.holds Tryz.pinned (OpenSpec.ofChange flawTrueSpec)

/-- ITS FALSE NEIGHBOUR: 'it returns false'. Refute it at one input. -/
def flawTrueWrong : ChangeSpec := { name := "flawTrue", fn := fun _ => fun
  | [d1, d2, d3] => { results := [.lit (.bool false)], args := [d1, d2, d3] }
  | _ => none }
def FlawTrueWrongFalsely : Prop := flawTrueRow.holds Tryz.pinned (OpenSpec.ofChange flawTrueWrong)

/-- 'couplantlaw08.FlawGroups': WHATEVER THE INPUT: true; the input reads as it did. -/
def flawGroupsSpec : ChangeSpec := { name := "flawGroups", fn := fun _ => fun
  | [d1, d2] => { results := [.lit (.bool true)], args := [d1, d2] }
  | _ => none }
def flawGroupsRow : OpenClaim := { program := "ytidgeagpgllkeaagreat", sum := "9719e43da943a1952492d01941fdbcedd01874d51a5633fa03aeee85677232b6", func := "couplant/couplantlaw08.FlawGroups", spec := "flawGroups", inPlace := ["math.sqrt"], unfollowed := true, recurses := true, plainKeys := false, apart := false }
def FlawGroupsSaid : Prop := flawGroupsRow.holds Tryz.pinned (OpenSpec.ofChange flawGroupsSpec)

/-- ITS FALSE NEIGHBOUR: 'it returns false'. Refute it at one input. -/
def flawGroupsWrong : ChangeSpec := { name := "flawGroups", fn := fun _ => fun
  | [d1, d2] => { results := [.lit (.bool false)], args := [d1, d2] }
  | _ => none }
def FlawGroupsWrongFalsely : Prop := flawGroupsRow.holds Tryz.pinned (OpenSpec.ofChange flawGroupsWrong)

/-- 'couplantlaw08.FlawTips': WHATEVER THE INPUT: true; the input reads as it did. -/
def flawTipsSpec : ChangeSpec := { name := "flawTips", fn := fun _ => fun
  | [d1, d2, d3] => { results := [.lit (.bool true)], args := [d1, d2, d3] }
  | _ => none }
def flawTipsRow : OpenClaim := { program := "ytidgeagpgllkeaagreat", sum := "9719e43da943a1952492d01941fdbcedd01874d51a5633fa03aeee85677232b6", func := "couplant/couplantlaw08.FlawTips", spec := "flawTips", inPlace := ["math.sqrt"], unfollowed := true, recurses := true, plainKeys := false, apart := false }
def FlawTipsSaid : Prop := flawTipsRow.holds Tryz.pinned (OpenSpec.ofChange flawTipsSpec)

/-- ITS FALSE NEIGHBOUR: 'it returns false'. Refute it at one input. -/
def flawTipsWrong : ChangeSpec := { name := "flawTips", fn := fun _ => fun
  | [d1, d2, d3] => { results := [.lit (.bool false)], args := [d1, d2, d3] }
  | _ => none }
def FlawTipsWrongFalsely : Prop := flawTipsRow.holds Tryz.pinned (OpenSpec.ofChange flawTipsWrong)

/-- 'couplantlaw08.FlawGroupsAnyOrder': WHATEVER THE INPUT: true; the input reads as it did. -/
def flawGroupsAnyOrderSpec : ChangeSpec := { name := "flawGroupsAnyOrder", fn := fun _ => fun
  | [d1, d2, d3] => { results := [.lit (.bool true)], args := [d1, d2, d3] }
  | _ => none }
def flawGroupsAnyOrderRow : OpenClaim := { program := "ytidgeagpgllkeaagreat", sum := "9719e43da943a1952492d01941fdbcedd01874d51a5633fa03aeee85677232b6", func := "couplant/couplantlaw08.FlawGroupsAnyOrder", spec := "flawGroupsAnyOrder", inPlace := ["math.sqrt"], unfollowed := true, recurses := true, plainKeys := false, apart := false }
def FlawGroupsAnyOrderSaid : Prop := flawGroupsAnyOrderRow.holds Tryz.pinned (OpenSpec.ofChange flawGroupsAnyOrderSpec)

/-- ITS FALSE NEIGHBOUR: 'it returns false'. Refute it at one input. -/
def flawGroupsAnyOrderWrong : ChangeSpec := { name := "flawGroupsAnyOrder", fn := fun _ => fun
  | [d1, d2, d3] => { results := [.lit (.bool false)], args := [d1, d2, d3] }
  | _ => none }
def FlawGroupsAnyOrderWrongFalsely : Prop := flawGroupsAnyOrderRow.holds Tryz.pinned (OpenSpec.ofChange flawGroupsAnyOrderWrong)

/-- 'couplanttop.TopAreasInGroups': WHATEVER THE INPUT: true; the input reads as it did. -/
def topAreasInGroupsSpec : ChangeSpec := { name := "topAreasInGroups", fn := fun _ => fun
  | [d1, d2, d3] => { results := [.lit (.bool true)], args := [d1, d2, d3] }
  | _ => none }
def topAreasInGroupsRow : OpenClaim := { program := "ytidgeagpgllkeaagreat", sum := "9719e43da943a1952492d01941fdbcedd01874d51a5633fa03aeee85677232b6", func := "couplant/couplanttop.TopAreasInGroups", spec := "topAreasInGroups", inPlace := ["math.sqrt"], unfollowed := true, recurses := true, plainKeys := false, apart := false }
def TopAreasInGroupsSaid : Prop := topAreasInGroupsRow.holds Tryz.pinned (OpenSpec.ofChange topAreasInGroupsSpec)

/-- ITS FALSE NEIGHBOUR: 'it returns false'. Refute it at one input. -/
def topAreasInGroupsWrong : ChangeSpec := { name := "topAreasInGroups", fn := fun _ => fun
  | [d1, d2, d3] => { results := [.lit (.bool false)], args := [d1, d2, d3] }
  | _ => none }
def TopAreasInGroupsWrongFalsely : Prop := topAreasInGroupsRow.holds Tryz.pinned (OpenSpec.ofChange topAreasInGroupsWrong)

/-- 'couplantlaw08.FlawScans': WHATEVER THE INPUT: true; the input reads as it did. -/
def flawScansSpec : ChangeSpec := { name := "flawScans", fn := fun _ => fun
  | [d1, d2] => { results := [.lit (.bool true)], args := [d1, d2] }
  | _ => none }
def flawScansRow : OpenClaim := { program := "ytidgeagpgllkeaagreat", sum := "9719e43da943a1952492d01941fdbcedd01874d51a5633fa03aeee85677232b6", func := "couplant/couplantlaw08.FlawScans", spec := "flawScans", inPlace := ["math.sqrt"], unfollowed := true, recurses := true, plainKeys := false, apart := false }
def FlawScansSaid : Prop := flawScansRow.holds Tryz.pinned (OpenSpec.ofChange flawScansSpec)

/-- ITS FALSE NEIGHBOUR: 'it returns false'. Refute it at one input. -/
def flawScansWrong : ChangeSpec := { name := "flawScans", fn := fun _ => fun
  | [d1, d2] => { results := [.lit (.bool false)], args := [d1, d2] }
  | _ => none }
def FlawScansWrongFalsely : Prop := flawScansRow.holds Tryz.pinned (OpenSpec.ofChange flawScansWrong)

/-- 'couplantlaw08.FlawLevels': WHATEVER THE INPUT: true; the input reads as it did. -/
def flawLevelsSpec : ChangeSpec := { name := "flawLevels", fn := fun _ => fun
  | [d1, d2, d3] => { results := [.lit (.bool true)], args := [d1, d2, d3] }
  | _ => none }
def flawLevelsRow : OpenClaim := { program := "ytidgeagpgllkeaagreat", sum := "9719e43da943a1952492d01941fdbcedd01874d51a5633fa03aeee85677232b6", func := "couplant/couplantlaw08.FlawLevels", spec := "flawLevels", inPlace := ["math.sqrt"], unfollowed := true, recurses := true, plainKeys := false, apart := false }
def FlawLevelsSaid : Prop := flawLevelsRow.holds Tryz.pinned (OpenSpec.ofChange flawLevelsSpec)

/-- ITS FALSE NEIGHBOUR: 'it returns false'. Refute it at one input. -/
def flawLevelsWrong : ChangeSpec := { name := "flawLevels", fn := fun _ => fun
  | [d1, d2, d3] => { results := [.lit (.bool false)], args := [d1, d2, d3] }
  | _ => none }
def FlawLevelsWrongFalsely : Prop := flawLevelsRow.holds Tryz.pinned (OpenSpec.ofChange flawLevelsWrong)

/-- 'couplantlaw08.FlawLists': WHATEVER THE INPUT: true; the input reads as it did. -/
def flawListsSpec : ChangeSpec := { name := "flawLists", fn := fun _ => fun
  | [d] => { results := [.lit (.bool true)], args := [d] }
  | _ => none }
def flawListsRow : OpenClaim := { program := "ytidgeagpgllkeaagreat", sum := "9719e43da943a1952492d01941fdbcedd01874d51a5633fa03aeee85677232b6", func := "couplant/couplantlaw08.FlawLists", spec := "flawLists", inPlace := ["math.sqrt"], unfollowed := true, recurses := true, plainKeys := false, apart := false }
def FlawListsSaid : Prop := flawListsRow.holds Tryz.pinned (OpenSpec.ofChange flawListsSpec)

/-- ITS FALSE NEIGHBOUR: 'it returns false'. Refute it at one input. -/
def flawListsWrong : ChangeSpec := { name := "flawLists", fn := fun _ => fun
  | [d] => { results := [.lit (.bool false)], args := [d] }
  | _ => none }
def FlawListsWrongFalsely : Prop := flawListsRow.holds Tryz.pinned (OpenSpec.ofChange flawListsWrong)

/-- 'couplantlaw08.FlawAreas': WHATEVER THE INPUT: true; the input reads as it did. -/
def flawAreasSpec : ChangeSpec := { name := "flawAreas", fn := fun _ => fun
  | [d1, d2, d3] => { results := [.lit (.bool true)], args := [d1, d2, d3] }
  | _ => none }
def flawAreasRow : OpenClaim := { program := "ytidgeagpgllkeaagreat", sum := "9719e43da943a1952492d01941fdbcedd01874d51a5633fa03aeee85677232b6", func := "couplant/couplantlaw08.FlawAreas", spec := "flawAreas", inPlace := ["math.sqrt"], unfollowed := true, recurses := true, plainKeys := false, apart := false }
def FlawAreasSaid : Prop := flawAreasRow.holds Tryz.pinned (OpenSpec.ofChange flawAreasSpec)

/-- ITS FALSE NEIGHBOUR: 'it returns false'. Refute it at one input. -/
def flawAreasWrong : ChangeSpec := { name := "flawAreas", fn := fun _ => fun
  | [d1, d2, d3] => { results := [.lit (.bool false)], args := [d1, d2, d3] }
  | _ => none }
def FlawAreasWrongFalsely : Prop := flawAreasRow.holds Tryz.pinned (OpenSpec.ofChange flawAreasWrong)

/-- 'couplantlaw08.FlawInteracts': WHATEVER THE INPUT: true; the input reads as it did. -/
def flawInteractsSpec : ChangeSpec := { name := "flawInteracts", fn := fun _ => fun
  | [d1, d2, d3] => { results := [.lit (.bool true)], args := [d1, d2, d3] }
  | _ => none }
def flawInteractsRow : OpenClaim := { program := "ytidgeagpgllkeaagreat", sum := "9719e43da943a1952492d01941fdbcedd01874d51a5633fa03aeee85677232b6", func := "couplant/couplantlaw08.FlawInteracts", spec := "flawInteracts", inPlace := ["math.sqrt"], unfollowed := true, recurses := true, plainKeys := false, apart := false }
def FlawInteractsSaid : Prop := flawInteractsRow.holds Tryz.pinned (OpenSpec.ofChange flawInteractsSpec)

/-- ITS FALSE NEIGHBOUR: 'it returns false'. Refute it at one input. -/
def flawInteractsWrong : ChangeSpec := { name := "flawInteracts", fn := fun _ => fun
  | [d1, d2, d3] => { results := [.lit (.bool false)], args := [d1, d2, d3] }
  | _ => none }
def FlawInteractsWrongFalsely : Prop := flawInteractsRow.holds Tryz.pinned (OpenSpec.ofChange flawInteractsWrong)

/-- 'couplantlaw08.FlawMarks': WHATEVER THE INPUT: true; the input reads as it did. -/
def flawMarksSpec : ChangeSpec := { name := "flawMarks", fn := fun _ => fun
  | [d1, d2, d3] => { results := [.lit (.bool true)], args := [d1, d2, d3] }
  | _ => none }
def flawMarksRow : OpenClaim := { program := "ytidgeagpgllkeaagreat", sum := "9719e43da943a1952492d01941fdbcedd01874d51a5633fa03aeee85677232b6", func := "couplant/couplantlaw08.FlawMarks", spec := "flawMarks", inPlace := ["math.sqrt"], unfollowed := true, recurses := true, plainKeys := false, apart := false }
def FlawMarksSaid : Prop := flawMarksRow.holds Tryz.pinned (OpenSpec.ofChange flawMarksSpec)

/-- ITS FALSE NEIGHBOUR: 'it returns false'. Refute it at one input. -/
def flawMarksWrong : ChangeSpec := { name := "flawMarks", fn := fun _ => fun
  | [d1, d2, d3] => { results := [.lit (.bool false)], args := [d1, d2, d3] }
  | _ => none }
def FlawMarksWrongFalsely : Prop := flawMarksRow.holds Tryz.pinned (OpenSpec.ofChange flawMarksWrong)

/-- 'couplantlaw08.FlawClaims': WHATEVER THE INPUT: true; the input reads as it did. -/
def flawClaimsSpec : ChangeSpec := { name := "flawClaims", fn := fun _ => fun
  | [d1, d2, d3] => { results := [.lit (.bool true)], args := [d1, d2, d3] }
  | _ => none }
def flawClaimsRow : OpenClaim := { program := "ytidgeagpgllkeaagreat", sum := "9719e43da943a1952492d01941fdbcedd01874d51a5633fa03aeee85677232b6", func := "couplant/couplantlaw08.FlawClaims", spec := "flawClaims", inPlace := ["math.sqrt"], unfollowed := true, recurses := true, plainKeys := false, apart := false }
def FlawClaimsSaid : Prop := flawClaimsRow.holds Tryz.pinned (OpenSpec.ofChange flawClaimsSpec)

/-- ITS FALSE NEIGHBOUR: 'it returns false'. Refute it at one input. -/
def flawClaimsWrong : ChangeSpec := { name := "flawClaims", fn := fun _ => fun
  | [d1, d2, d3] => { results := [.lit (.bool false)], args := [d1, d2, d3] }
  | _ => none }
def FlawClaimsWrongFalsely : Prop := flawClaimsRow.holds Tryz.pinned (OpenSpec.ofChange flawClaimsWrong)

/-- 'couplantlaw08.FlawCompares': WHATEVER THE INPUT: true; the input reads as it did. -/
def flawComparesSpec : ChangeSpec := { name := "flawCompares", fn := fun _ => fun
  | [d1, d2, d3] => { results := [.lit (.bool true)], args := [d1, d2, d3] }
  | _ => none }
def flawComparesRow : OpenClaim := { program := "ytidgeagpgllkeaagreat", sum := "9719e43da943a1952492d01941fdbcedd01874d51a5633fa03aeee85677232b6", func := "couplant/couplantlaw08.FlawCompares", spec := "flawCompares", inPlace := ["math.sqrt"], unfollowed := true, recurses := true, plainKeys := false, apart := false }
def FlawComparesSaid : Prop := flawComparesRow.holds Tryz.pinned (OpenSpec.ofChange flawComparesSpec)

/-- ITS FALSE NEIGHBOUR: 'it returns false'. Refute it at one input. -/
def flawComparesWrong : ChangeSpec := { name := "flawCompares", fn := fun _ => fun
  | [d1, d2, d3] => { results := [.lit (.bool false)], args := [d1, d2, d3] }
  | _ => none }
def FlawComparesWrongFalsely : Prop := flawComparesRow.holds Tryz.pinned (OpenSpec.ofChange flawComparesWrong)

/- THE SECOND FORM. 'bulk': how many values and letters a reading holds, each counted each time it is reached (what is shared counts as often as it is met; a slice's spare places count too). A statement '..UptoSaid' is the law's where the arguments, and the package variables that the reading takes, are together of bulk at most 1048576: NARROWER than '..Said'. Prove '..Said' where nothing that the law and all that it calls make is longer than what came in: it says more and counts as full. Else prove '..UptoSaid'. A law counts once. -/
mutual
def uptoBulk {H : Type} : DataW H → Nat
  | .lit (.string bytes) => bytes.length + 1
  | .lit _ => 1
  | .nil => 1
  | .ptr d => uptoBulk d + 1
  | .slice elems spare => uptoBulkAll elems + uptoBulkAll spare + 1
  | .agg parts => uptoBulkAll parts + 1
  | .iface _ d => uptoBulk d + 1
  | .map entries => uptoBulkEntries entries + 1
  | .held _ => 1
def uptoBulkAll {H : Type} : List (DataW H) → Nat
  | [] => 0
  | d :: r => uptoBulk d + uptoBulkAll r
def uptoBulkEntries {H : Type} : List (Lit × DataW H) → Nat
  | [] => 0
  | x :: r => uptoBulkEntry x + uptoBulkEntries r
def uptoBulkEntry {H : Type} : Lit × DataW H → Nat
  | (.string bytes, d) => bytes.length + uptoBulk d + 1
  | (_, d) => uptoBulk d + 1
 end
def uptoSmall : (H : Type) → List (DataW H) → Bool := fun _ ds => decide (uptoBulkAll ds ≤ 1048576)
def OpenSpec.upto (s : _root_.Go.ChangeSpec) : _root_.Go.OpenSpec := { _root_.Go.OpenSpec.ofChange s with cond := some uptoSmall }

/-- 'couplantlaw08.FlawAnyOrder', WHERE WHAT IT READS IS OF BULK AT MOST 1048576: true; the input reads as it did. -/
def flawAnyOrderUptoRow : OpenClaim := { program := "ytidgeagpgllkeaagreat", sum := "9719e43da943a1952492d01941fdbcedd01874d51a5633fa03aeee85677232b6", func := "couplant/couplantlaw08.FlawAnyOrder", spec := "flawAnyOrder", inPlace := ["math.sqrt"], unfollowed := true, recurses := true, plainKeys := false, apart := false, narrowed := true }
def FlawAnyOrderUptoSaid : Prop := flawAnyOrderUptoRow.holds Tryz.pinned (OpenSpec.upto flawAnyOrderSpec)

/-- 'couplantlaw08.FlawDrops', WHERE WHAT IT READS IS OF BULK AT MOST 1048576: true; the input reads as it did. -/
def flawDropsUptoRow : OpenClaim := { program := "ytidgeagpgllkeaagreat", sum := "9719e43da943a1952492d01941fdbcedd01874d51a5633fa03aeee85677232b6", func := "couplant/couplantlaw08.FlawDrops", spec := "flawDrops", inPlace := ["math.sqrt"], unfollowed := true, recurses := true, plainKeys := false, apart := false, narrowed := true }
def FlawDropsUptoSaid : Prop := flawDropsUptoRow.holds Tryz.pinned (OpenSpec.upto flawDropsSpec)

/-- 'couplantlaw08.FlawTrue', WHERE WHAT IT READS IS OF BULK AT MOST 1048576: true; the input reads as it did. -/
def flawTrueUptoRow : OpenClaim := { program := "ytidgeagpgllkeaagreat", sum := "9719e43da943a1952492d01941fdbcedd01874d51a5633fa03aeee85677232b6", func := "couplant/couplantlaw08.FlawTrue", spec := "flawTrue", inPlace := ["math.sqrt"], unfollowed := true, recurses := true, plainKeys := false, apart := false, narrowed := true }
def FlawTrueUptoSaid : Prop := flawTrueUptoRow.holds Tryz.pinned (OpenSpec.upto flawTrueSpec)

/-- 'couplantlaw08.FlawGroups', WHERE WHAT IT READS IS OF BULK AT MOST 1048576: true; the input reads as it did. -/
def flawGroupsUptoRow : OpenClaim := { program := "ytidgeagpgllkeaagreat", sum := "9719e43da943a1952492d01941fdbcedd01874d51a5633fa03aeee85677232b6", func := "couplant/couplantlaw08.FlawGroups", spec := "flawGroups", inPlace := ["math.sqrt"], unfollowed := true, recurses := true, plainKeys := false, apart := false, narrowed := true }
def FlawGroupsUptoSaid : Prop := flawGroupsUptoRow.holds Tryz.pinned (OpenSpec.upto flawGroupsSpec)

/-- 'couplantlaw08.FlawTips', WHERE WHAT IT READS IS OF BULK AT MOST 1048576: true; the input reads as it did. -/
def flawTipsUptoRow : OpenClaim := { program := "ytidgeagpgllkeaagreat", sum := "9719e43da943a1952492d01941fdbcedd01874d51a5633fa03aeee85677232b6", func := "couplant/couplantlaw08.FlawTips", spec := "flawTips", inPlace := ["math.sqrt"], unfollowed := true, recurses := true, plainKeys := false, apart := false, narrowed := true }
def FlawTipsUptoSaid : Prop := flawTipsUptoRow.holds Tryz.pinned (OpenSpec.upto flawTipsSpec)

/-- 'couplantlaw08.FlawGroupsAnyOrder', WHERE WHAT IT READS IS OF BULK AT MOST 1048576: true; the input reads as it did. -/
def flawGroupsAnyOrderUptoRow : OpenClaim := { program := "ytidgeagpgllkeaagreat", sum := "9719e43da943a1952492d01941fdbcedd01874d51a5633fa03aeee85677232b6", func := "couplant/couplantlaw08.FlawGroupsAnyOrder", spec := "flawGroupsAnyOrder", inPlace := ["math.sqrt"], unfollowed := true, recurses := true, plainKeys := false, apart := false, narrowed := true }
def FlawGroupsAnyOrderUptoSaid : Prop := flawGroupsAnyOrderUptoRow.holds Tryz.pinned (OpenSpec.upto flawGroupsAnyOrderSpec)

/-- 'couplanttop.TopAreasInGroups', WHERE WHAT IT READS IS OF BULK AT MOST 1048576: true; the input reads as it did. -/
def topAreasInGroupsUptoRow : OpenClaim := { program := "ytidgeagpgllkeaagreat", sum := "9719e43da943a1952492d01941fdbcedd01874d51a5633fa03aeee85677232b6", func := "couplant/couplanttop.TopAreasInGroups", spec := "topAreasInGroups", inPlace := ["math.sqrt"], unfollowed := true, recurses := true, plainKeys := false, apart := false, narrowed := true }
def TopAreasInGroupsUptoSaid : Prop := topAreasInGroupsUptoRow.holds Tryz.pinned (OpenSpec.upto topAreasInGroupsSpec)

/-- 'couplantlaw08.FlawScans', WHERE WHAT IT READS IS OF BULK AT MOST 1048576: true; the input reads as it did. -/
def flawScansUptoRow : OpenClaim := { program := "ytidgeagpgllkeaagreat", sum := "9719e43da943a1952492d01941fdbcedd01874d51a5633fa03aeee85677232b6", func := "couplant/couplantlaw08.FlawScans", spec := "flawScans", inPlace := ["math.sqrt"], unfollowed := true, recurses := true, plainKeys := false, apart := false, narrowed := true }
def FlawScansUptoSaid : Prop := flawScansUptoRow.holds Tryz.pinned (OpenSpec.upto flawScansSpec)

/-- 'couplantlaw08.FlawLevels', WHERE WHAT IT READS IS OF BULK AT MOST 1048576: true; the input reads as it did. -/
def flawLevelsUptoRow : OpenClaim := { program := "ytidgeagpgllkeaagreat", sum := "9719e43da943a1952492d01941fdbcedd01874d51a5633fa03aeee85677232b6", func := "couplant/couplantlaw08.FlawLevels", spec := "flawLevels", inPlace := ["math.sqrt"], unfollowed := true, recurses := true, plainKeys := false, apart := false, narrowed := true }
def FlawLevelsUptoSaid : Prop := flawLevelsUptoRow.holds Tryz.pinned (OpenSpec.upto flawLevelsSpec)

/-- 'couplantlaw08.FlawLists', WHERE WHAT IT READS IS OF BULK AT MOST 1048576: true; the input reads as it did. -/
def flawListsUptoRow : OpenClaim := { program := "ytidgeagpgllkeaagreat", sum := "9719e43da943a1952492d01941fdbcedd01874d51a5633fa03aeee85677232b6", func := "couplant/couplantlaw08.FlawLists", spec := "flawLists", inPlace := ["math.sqrt"], unfollowed := true, recurses := true, plainKeys := false, apart := false, narrowed := true }
def FlawListsUptoSaid : Prop := flawListsUptoRow.holds Tryz.pinned (OpenSpec.upto flawListsSpec)

/-- 'couplantlaw08.FlawAreas', WHERE WHAT IT READS IS OF BULK AT MOST 1048576: true; the input reads as it did. -/
def flawAreasUptoRow : OpenClaim := { program := "ytidgeagpgllkeaagreat", sum := "9719e43da943a1952492d01941fdbcedd01874d51a5633fa03aeee85677232b6", func := "couplant/couplantlaw08.FlawAreas", spec := "flawAreas", inPlace := ["math.sqrt"], unfollowed := true, recurses := true, plainKeys := false, apart := false, narrowed := true }
def FlawAreasUptoSaid : Prop := flawAreasUptoRow.holds Tryz.pinned (OpenSpec.upto flawAreasSpec)

/-- 'couplantlaw08.FlawInteracts', WHERE WHAT IT READS IS OF BULK AT MOST 1048576: true; the input reads as it did. -/
def flawInteractsUptoRow : OpenClaim := { program := "ytidgeagpgllkeaagreat", sum := "9719e43da943a1952492d01941fdbcedd01874d51a5633fa03aeee85677232b6", func := "couplant/couplantlaw08.FlawInteracts", spec := "flawInteracts", inPlace := ["math.sqrt"], unfollowed := true, recurses := true, plainKeys := false, apart := false, narrowed := true }
def FlawInteractsUptoSaid : Prop := flawInteractsUptoRow.holds Tryz.pinned (OpenSpec.upto flawInteractsSpec)

/-- 'couplantlaw08.FlawMarks', WHERE WHAT IT READS IS OF BULK AT MOST 1048576: true; the input reads as it did. -/
def flawMarksUptoRow : OpenClaim := { program := "ytidgeagpgllkeaagreat", sum := "9719e43da943a1952492d01941fdbcedd01874d51a5633fa03aeee85677232b6", func := "couplant/couplantlaw08.FlawMarks", spec := "flawMarks", inPlace := ["math.sqrt"], unfollowed := true, recurses := true, plainKeys := false, apart := false, narrowed := true }
def FlawMarksUptoSaid : Prop := flawMarksUptoRow.holds Tryz.pinned (OpenSpec.upto flawMarksSpec)

/-- 'couplantlaw08.FlawClaims', WHERE WHAT IT READS IS OF BULK AT MOST 1048576: true; the input reads as it did. -/
def flawClaimsUptoRow : OpenClaim := { program := "ytidgeagpgllkeaagreat", sum := "9719e43da943a1952492d01941fdbcedd01874d51a5633fa03aeee85677232b6", func := "couplant/couplantlaw08.FlawClaims", spec := "flawClaims", inPlace := ["math.sqrt"], unfollowed := true, recurses := true, plainKeys := false, apart := false, narrowed := true }
def FlawClaimsUptoSaid : Prop := flawClaimsUptoRow.holds Tryz.pinned (OpenSpec.upto flawClaimsSpec)

/-- 'couplantlaw08.FlawCompares', WHERE WHAT IT READS IS OF BULK AT MOST 1048576: true; the input reads as it did. -/
def flawComparesUptoRow : OpenClaim := { program := "ytidgeagpgllkeaagreat", sum := "9719e43da943a1952492d01941fdbcedd01874d51a5633fa03aeee85677232b6", func := "couplant/couplantlaw08.FlawCompares", spec := "flawCompares", inPlace := ["math.sqrt"], unfollowed := true, recurses := true, plainKeys := false, apart := false, narrowed := true }
def FlawComparesUptoSaid : Prop := flawComparesUptoRow.holds Tryz.pinned (OpenSpec.upto flawComparesSpec)

end Rows
end Go.Proofs.YtidgeagpgllkeaaGreat
