/- For every joint and every text the law CoverTexts answers true, and the arguments read afterwards as before: the text of a joint, and the joint with any text, with the mark and the error, are as the reference says; a right joint is read back. Condition: the tables and errors of the library that the row lists, and the variables begin and end of the package cover, hold at the call what the program's text lays into them (the card ties it). -/
import Derived.Test.YtaekcfancfoccaaGreatDoorCards
import Derived.Test.YtaekcfancfoccaaGreatDoorTie
import Derived.LaidMore
import Derived.LaidSub
import Derived.Lib.LaidTab
import Derived.Stop.LaidErr
import Derived.ProofKit
import Derived.OpenShut
import Derived.Stop.Joined
import Derived.Deep.DeepHandedRow
import Derived.Shelf.Vars
import Derived.Test.YtaekcfancfoccaaGreatDoorZmCuM
import Derived.Test.YtaekcfancfoccaaGreatDoorZmZkCwO
namespace Go.Proofs.YtaekcfancfoccaaGreatDoor.coverTexts
open Go.ChangeShapes Go.WideShapes Go.ChangeAt Go.RowKit

theorem ownKnobNone : ownKnob Tryz.prog.godebug = none := by kernel_rfl
theorem starErr : "*" ++ "errors.errorString" = "*errors.errorString" := by decide
theorem rowErr (u : TypeId) (h : Tryz.prog.typeName? 3 u = some "*errors.errorString") : u = 263 :=
  typeName_ptr_named (nm := "errors.errorString") (by rw [starErr]; kernel_rfl) (by kernel_rfl) (by decide) u (by rw [starErr]; exact h)
theorem lib_of {W : World} (h : laidMetH Tryz.prog Rows.coverTextsRow.laid W) (hsh : W.ShapedOpen Tryz.prog) : LibW W := by
  have h0 : laidMet Tryz.prog Rows.coverTextsRow.laid W := by
    rw [MakeChecks.laidMetH_plain _ _ _ (by kernel_rfl)] at h
    exact h
  have hp := h0.filter (fun x => x.1 == "internal/strconv.uint64pow10")
  have hr := h0.filter (fun x => x.1 == "strconv.ErrRange")
  have hs := h0.filter (fun x => x.1 == "strconv.ErrSyntax")
  rw [show (Rows.coverTextsRow.laid.filter fun x => x.1 == "internal/strconv.uint64pow10") = [("internal/strconv.uint64pow10", Lib.tabData .u64 Lib.pow10Tab)] from by kernel_rfl] at hp
  rw [show (Rows.coverTextsRow.laid.filter fun x => x.1 == "strconv.ErrRange") = [("strconv.ErrRange", Rows.laid_strconv_ErrRange)] from by kernel_rfl] at hr
  rw [show (Rows.coverTextsRow.laid.filter fun x => x.1 == "strconv.ErrSyntax") = [("strconv.ErrSyntax", Rows.laid_strconv_ErrSyntax)] from by kernel_rfl] at hs
  have hpow : Lib.TabIs Tryz.prog W "internal/strconv.uint64pow10" .u64 Lib.pow10Tab :=
    Lib.tabIs_of_head (g := 3) (t := 238) (e := 195) (n := 20) (by kernel_rfl) (by kernel_rfl) Tryz.underlying238 Tryz.underlying195 (by kernel_rfl) (by kernel_rfl) hp
  obtain ⟨a1, s1, hv1, _, _, _⟩ := laid_sentinel hs (g := 4) (ti := 91) (tp := 263) (te := 265) (ts := 9) (by kernel_rfl) (by kernel_rfl) Tryz.underlying91 rowErr Tryz.underlying263 Tryz.underlying265 rfl rfl Tryz.underlying9 (by kernel_rfl) (by kernel_rfl)
  obtain ⟨a2, s2, hv2, _, _, _⟩ := laid_sentinel hr (g := 5) (ti := 91) (tp := 263) (te := 265) (ts := 9) (by kernel_rfl) (by kernel_rfl) Tryz.underlying91 rowErr Tryz.underlying263 Tryz.underlying265 rfl rfl Tryz.underlying9 (by kernel_rfl) (by kernel_rfl)
  have hc1 := World.var?_cell (g := 4) (by kernel_rfl) hv1 0
  have hc2 := World.var?_cell (g := 5) (by kernel_rfl) hv2 0
  obtain ⟨m, hm⟩ := cell_of_shapedOpen_int (P := Tryz.prog) (g := 2) (t := 3) (zero := #[.int .i64 0]) hsh (of_decide_eq_true (by kernel_rfl)) (by kernel_rfl) rfl (by kernel_rfl) (by kernel_rfl) Tryz.underlying3
  exact ⟨hpow, ⟨_, _, by simpa using hc1⟩, ⟨_, _, by simpa using hc2⟩, ⟨m, hm⟩⟩
theorem ends_here {W : World} (h : laidMetH Tryz.prog Rows.coverTextsRow.laid W) : Ends W := by
  have h2 := h.filter (fun x => x.1 == "couplant/cover.begin" || x.1 == "couplant/cover.end")
  rw [show (Rows.coverTextsRow.laid.filter fun x => x.1 == "couplant/cover.begin" || x.1 == "couplant/cover.end") = [("couplant/cover.begin", Rows.laid_couplant_cover_begin), ("couplant/cover.end", Rows.laid_couplant_cover_end)] from by kernel_rfl] at h2
  exact ends_of h2
set_option maxRecDepth 100000 in
theorem contract (H : Type) (enc : TypeId × Value → H) (W : World) (base : Nat) (args : Array Value) (ds gs : List (DataW H)) (before : List MemPlace)
    (hval : ∀ (j : Nat) t v, Tryz.f3.params[j]? = some t → args[j]? = some v → Value.okWide Tryz.prog W .any base t v)
    (hW : DataW.Whole enc Tryz.prog Tryz.f3.params.toList Rows.coverTextsSpec.vars false W args.toList ds gs before) (hE : LibW W) (hN : Ends W) :
    Calls Tryz.prog 3 args W fun e W' => ∃ v, e = .returned v ∧ Rows.coverTextsSpec.post enc Tryz.prog Tryz.f3 false true false false W args v W' := by
  have hW' := hW
  obtain ⟨p, q, hA0, hV, rfl, hfz, hnd⟩ := hW
  have hA : DataW.TrodAll enc Tryz.prog W 0 (fun _ => true) true Tryz.f3.params.toList args.toList ds p := hA0
  have hAk := hA
  rw [Tryz.params3] at hA hval
  obtain ⟨v0, vs0, d0, ds0, p0, q0, hargs, rfl, rfl, h0, r0⟩ := trodAll_cons hA
  obtain ⟨v1, vs1, d1, ds1, p1, q1, rfl, rfl, rfl, h1, r1⟩ := trodAll_cons r0
  obtain ⟨rfl, rfl, rfl⟩ := trodAll_nil r1
  obtain rfl : args = #[v0, v1] := by cases args; simp_all
  obtain ⟨rfl, rfl⟩ := trodVars_none hV
  obtain ⟨j, A, c, rfl, hA1, hR, hn, hcm, _, _⟩ := open_joint (hval 0 24 v0 rfl rfl) h0
  obtain ⟨s, rfl, _, _, _⟩ := Go.ChangeMaps.open_string Tryz.underlying9 (hval 1 9 v1 rfl rfl) h1
  clear hA0
  have walk := coverTexts_any j A c W.heap.size s W hn (by simp only [maxLen] at hcm; omega) hR (Nat.le_refl _) hA1 hN hE
  refine walk.mono fun e W' ⟨he, hB⟩ => ?_
  subst he
  refine ⟨_, rfl, ⟨[d0, d1], [], _, [], _, [], hW', trodAll_cons_mk (shut_bool Tryz.underlying4 _) trodAll_mk0, args_below hB (by rw [Tryz.params3]; decide) (fun x hx => by have := hW'.lt x (by simpa using hx); simpa using this) hAk, rfl, hB.frame _, fun h => by cases h⟩⟩

def firstCells : Array Value := match (Go.Pinned.utf8First : DataW Unit) with
  | .agg l => (l.map fun d => match d with
    | .lit (.int k z) => Value.int k z
    | _ => Value.int .u8 0).toArray
  | _ => #[]
def layFirst : Obj → Obj
  | .cells _ t frozen => .cells firstCells t frozen
  | o => o
noncomputable def laidWorld (os : Os) : World :=
  { World.doorLaid Tryz.prog 100 os with heap := (World.doorLaid Tryz.prog 100 os).heap.modify 6 layFirst }
def wArgs : Array Value := #[.agg #[.string ⟨#[]⟩, .int .i64 0, .int .i64 0, .slice none 0 0], .string ⟨#[]⟩]
theorem laid_met (os : Os) : laidMetH Tryz.prog Rows.coverTextsRow.laid ((laidWorld os).forCall (fun _ _ => 0) ⟨#[], wArgs, []⟩).memory :=
  laidMetH_of_parts3 (fuel := 8) (laidMet_of_run' 8 (by kernel_rfl) (by kernel_rfl)) (by kernel_rfl) (by kernel_rfl)
theorem reads (os : Os) {H : Type} (enc : TypeId × Value → H) : ∃ places, DataW.whole enc Tryz.prog ((laidWorld os).forCall (fun _ _ => 0) ⟨#[], wArgs, []⟩).memory Tryz.f3.params.toList Rows.coverTextsSpec.vars false wArgs.toList 8 = some ([.agg [.lit (.string []), .lit (.int .i64 0), .lit (.int .i64 0), .nil], .lit (.string [])], [], places) :=
  ⟨[], by kernel_rfl⟩

set_option maxRecDepth 100000 in
theorem lifted (os : Os) (started : os.Started) (H : Type) (enc : TypeId × Value → H) (F : Stop.Interp) :
    ReturnsInHanded {} Tryz.checked os 3 .any ((OpenSpec.ofChange Rows.coverTextsSpec).preRow enc Tryz.prog Tryz.f3 Rows.coverTextsRow.domain false Rows.coverTextsRow.laid) (((OpenSpec.ofChange Rows.coverTextsSpec).at F).post enc Tryz.prog Tryz.f3 false true false false) := by
  obtain ⟨places, hx⟩ := reads os enc
  refine returnsInHanded_of_row (C := Tryz.checked) (s := OpenSpec.ofChange Rows.coverTextsSpec) ownKnobNone started (by kernel_rfl) Tryz.func3
    (witness_row_at (enc := enc) (C := Tryz.checked) false (laidWorld os) wArgs rfl (by kernel_rfl) (by kernel_rfl) (by kernel_rfl)
      (OpenSpec.preRow_of_cond 8 hx (by kernel_rfl) (fun k hk => by cases hk) (by kernel_rfl) (laid_met os))) ?_
  intro W base args ds gs before hval hW _ _ _ hL hsh _
  exact contract H enc W base args ds gs before hval hW (lib_of hL hsh) (ends_here hL)
theorem said : Rows.CoverTextsSaid :=
  OpenClaim.holds_of_cond 3 Tryz.f3 rfl rfl rfl rfl rfl rfl rfl ⟨rfl, rfl, rfl, rfl, rfl⟩ rfl rfl rfl rfl rfl (by kernel_rfl) Tryz.func3 (by kernel_rfl)
    (of_decide_eq_true (by kernel_rfl)) (by unfold Func.isWrapper; first | (rw [if_pos (by decide +kernel)]; kernel_rfl) | (rw [if_neg (by decide +kernel)]; exact ⟨rfl, rfl⟩))
    (fun os started H enc _ F => by rw [OpenClaim.pre_eq_preRow]; exact lifted os started H enc F)

theorem plain (f : FuncId) (fn : Func) (hf : Tryz.pinned.checked.prog.funcNamed "couplant/couplantlaw07.CoverTexts" = some f) (hfn : Tryz.pinned.checked.prog.funcs[f]? = some fn) :
    true = Tryz.pinned.checked.prog.looks [] ∧ ∀ (j : Nat) t, fn.params[j]? = some t → Tryz.pinned.checked.prog.wantsStandIn t = false := by
  obtain rfl : f = 3 := Option.some.inj ((show Tryz.prog.funcNamed "couplant/couplantlaw07.CoverTexts" = some 3 by kernel_rfl).symm.trans hf) |>.symm
  obtain rfl : fn = Tryz.f3 := (Option.some.inj (Tryz.func3.symm.trans hfn)).symm
  refine ⟨by kernel_rfl, fun j t ht => ?_⟩
  rw [Tryz.params3] at ht
  have hm := Array.mem_of_getElem? ht
  simp at hm
  rcases hm with rfl | rfl
  · exact (show Tryz.prog.wantsStandIn 24 = false by kernel_rfl)
  · exact (show Tryz.prog.wantsStandIn 9 = false by kernel_rfl)

theorem card : Rows.CoverTextsCardSaid :=
  Claim7.holds_tied_plain_at .later [] _ _ _ _ said (fun _ h => by cases h) (by kernel_rfl) (fun _ h => by cases h) coverTexts_row_tie rfl ⟨rfl, rfl⟩ (by kernel_rfl) rfl plain (by kernel_rfl)
end Go.Proofs.YtaekcfancfoccaaGreatDoor.coverTexts
