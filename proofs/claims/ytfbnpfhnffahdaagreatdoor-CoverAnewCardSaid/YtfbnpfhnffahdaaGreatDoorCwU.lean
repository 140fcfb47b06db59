/- For every track, readings and two numbers the law CoverAnew answers true, and the arguments read afterwards as before: each position is scanned or must be scanned anew, in any order of the readings, and with a reading more no position more must be. Condition: the variables begin and end of the package cover hold at the call what the program's text lays into them (the card ties it). -/
import Derived.Test.YtfbnpfhnffahdaaGreatDoorCards
import Derived.Test.YtfbnpfhnffahdaaGreatDoorTie
import Derived.Test.YtfbnpfhnffahdaaGreatDoorCwO
import Derived.Test.YtfbnpfhnffahdaaGreatDoorCwJ
namespace Go.Proofs.YtfbnpfhnffahdaaGreatDoor.coverAnew
open Go.ChangeShapes Go.WideShapes Go.ChangeAt Go.RowKit

theorem cellsTwo : Tryz.prog.cellsOf 73 = 2 := by kernel_rfl
set_option maxRecDepth 4000 in
/-- An array of two numbers. -/
theorem open_two {H : Type} {enc : TypeId × Value → H} {w : World} {r : Reach} {b0 base : Nat} {spare : Nat → Bool} {held : Bool} {v : Value} {d : DataW H} {ps : List MemPlace} (hval : Value.okWide Tryz.prog w r b0 73 v) (hd : DataW.Trod enc Tryz.prog w base spare held 73 v d ps) : ∃ x0 x1 : Int, v = .agg (arC x0 x1) ∧ I64 x0 ∧ I64 x1 := by
  have ht := Tryz.underlying73
  simp only [Value.okWide, ht] at hval
  obtain ⟨cs, rfl, hcs, _⟩ := hval
  obtain ⟨n, h⟩ := hd
  have hc2 : cs.toList.length = 2 := by simpa using hcs.trans cellsTwo
  have h' : DataW.trod enc Tryz.prog w base spare held n 73 cs.toList = some (d, ps) := h
  obtain ⟨xs, m, _, _, hlen, hxs, hg⟩ := DataW.trod_array ht h'
  match xs, hxs with
  | [y0, y1], _ =>
    have h0 : DataW.trod enc Tryz.prog w base spare held m 3 ((cs.toList.drop (0 * Tryz.prog.cellsOf 3)).take (Tryz.prog.cellsOf 3)) = some y0 := hg 0 (by omega)
    have h1 : DataW.trod enc Tryz.prog w base spare held m 3 ((cs.toList.drop (1 * Tryz.prog.cellsOf 3)).take (Tryz.prog.cellsOf 3)) = some y1 := hg 1 (by omega)
    rw [cells3] at h0 h1
    obtain ⟨n0, e0, _, w0⟩ := DataW.trod_int Tryz.underlying3 h0
    obtain ⟨n1, e1, _, w1⟩ := DataW.trod_int Tryz.underlying3 h1
    refine ⟨n0, n1, ?_, bounds_i64 w0, bounds_i64 w1⟩
    have hl : cs.toList = [.int .i64 n0, .int .i64 n1] := by
      match hm : cs.toList, hc2 with
      | [c0, c1], _ => rw [hm] at e0 e1; simp at e0 e1; rw [e0, e1]
    have : cs = #[.int .i64 n0, .int .i64 n1] := by apply Array.ext'; exact hl
    rw [this]; rfl

set_option maxRecDepth 100000 in
/-- What the walk gives, for every argument and every world that holds the two variables. -/
theorem contract (H : Type) (enc : TypeId × Value → H) (W : World) (base : Nat) (args : Array Value) (ds gs : List (DataW H)) (before : List MemPlace)
    (hval : ∀ (j : Nat) t v, Tryz.f6.params[j]? = some t → args[j]? = some v → Value.okWide Tryz.prog W .any base t v)
    (hW : DataW.Whole enc Tryz.prog Tryz.f6.params.toList Rows.coverAnewSpec.vars false W args.toList ds gs before) (hL : laidMetH Tryz.prog Rows.coverAnewRow.laid W) :
    Calls Tryz.prog 6 args W fun e W' => ∃ v, e = .returned v ∧ Rows.coverAnewSpec.post enc Tryz.prog Tryz.f6 false true false false W args v W' := by
  have hE : Ends W := ends_of hL
  have hW' := hW
  obtain ⟨p, q, hA0, hV, rfl, hfz, hnd⟩ := hW
  have hA : DataW.TrodAll enc Tryz.prog W 0 (fun _ => true) true Tryz.f6.params.toList args.toList ds p := hA0
  have hAk := hA
  rw [Tryz.params6] at hA hval
  obtain ⟨v0, vs0, d0, ds0, p0, q0, hargs, rfl, rfl, h0, r0⟩ := trodAll_cons hA
  obtain ⟨v1, vs1, d1, ds1, p1, q1, rfl, rfl, rfl, h1, r1⟩ := trodAll_cons r0
  obtain ⟨v2, vs2, d2, ds2, p2, q2, rfl, rfl, rfl, h2, r2⟩ := trodAll_cons r1
  obtain ⟨rfl, rfl, rfl⟩ := trodAll_nil r2
  obtain rfl : args = #[v0, v1, v2] := by cases args; simp_all
  obtain ⟨rfl, rfl⟩ := trodVars_none hV
  obtain ⟨t, rfl⟩ := open_track (hval 0 61 v0 rfl rfl) h0
  obtain ⟨A, zs, c, rfl, hA1, hR, hz, hzc, hcm⟩ := open_numbers (hval 1 62 v1 rfl rfl) h1
  obtain ⟨x0, x1, rfl, hx0, hx1⟩ := open_two (hval 2 73 v2 rfl rfl) h2
  clear hA0
  have walk := coverAnew_any t zs x0 x1 A c W.heap.size W hz hR (Nat.le_refl _) hA1 hE (by simp only [maxLen] at hcm; omega) hx0 hx1
  refine walk.mono fun e W' ⟨he, hB⟩ => ?_
  subst he
  refine ⟨_, rfl, ⟨[d0, d1, d2], [], _, [], _, [], hW', trodAll_cons_mk (shut_bool Tryz.underlying4 _) trodAll_mk0, args_below hB (by rw [Tryz.params6]; decide) (fun x hx => by have := hW'.lt x (by simpa using hx); simpa using this) hAk, rfl, hB.frame _, fun h => by cases h⟩⟩

def layPair (a b : Int) : Obj → Obj
  | .cells _ t frozen => .cells #[.int .i64 a, .int .i64 b] t frozen
  | o => o
/-- A world for the witness: the settled one, the two variables holding what their initialisers lay. -/
noncomputable def laidWorld (os : Os) : World :=
  { World.holding Tryz.prog os ⟨#[], #[], []⟩ with heap := ((World.holding Tryz.prog os ⟨#[], #[], []⟩).heap.modify 0 (layPair 0 1)).modify 1 (layPair 1 1) }
def wArgs : Array Value := #[.agg #[.int .i64 0, .int .i64 0, .int .i64 0, .int .i64 0], .slice none 0 0, .agg #[.int .i64 0, .int .i64 0]]
theorem laid_met (os : Os) : laidMet Tryz.prog Rows.coverAnewRow.laid ((laidWorld os).forCall (fun _ _ => 0) ⟨#[], wArgs, []⟩).memory :=
  laidMet_of_run' 8 (by kernel_rfl) (by kernel_rfl)
theorem reads (os : Os) {H : Type} (enc : TypeId × Value → H) : ∃ places, DataW.whole enc Tryz.prog ((laidWorld os).forCall (fun _ _ => 0) ⟨#[], wArgs, []⟩).memory Tryz.f6.params.toList Rows.coverAnewSpec.vars false wArgs.toList 8 = some ([.agg [.lit (.int .i64 0), .lit (.int .i64 0), .lit (.int .i64 0), .lit (.int .i64 0)], .nil, .agg [.lit (.int .i64 0), .lit (.int .i64 0)]], [], places) :=
  ⟨[], by kernel_rfl⟩

set_option maxRecDepth 100000 in
theorem lifted (os : Os) (started : os.Started) (H : Type) (enc : TypeId × Value → H) (F : Stop.Interp) :
    ReturnsInHanded {} Tryz.checked os 6 .any ((OpenSpec.ofChange Rows.coverAnewSpec).preRow enc Tryz.prog Tryz.f6 Rows.coverAnewRow.domain false Rows.coverAnewRow.laid) (((OpenSpec.ofChange Rows.coverAnewSpec).at F).post enc Tryz.prog Tryz.f6 false true false false) := by
  obtain ⟨places, hx⟩ := reads os enc
  refine returnsInHanded_of_row (C := Tryz.checked) (s := OpenSpec.ofChange Rows.coverAnewSpec) ownKnobNone started (by kernel_rfl) Tryz.func6
    (witness_row_at (enc := enc) (C := Tryz.checked) false (laidWorld os) wArgs rfl (by kernel_rfl) (by kernel_rfl) (by kernel_rfl)
      (OpenSpec.preRow_of_cond 8 hx (by kernel_rfl) (fun k hk => by cases hk) (by kernel_rfl) (laid_met os))) ?_
  intro W base args ds gs before hval hW _ _ _ hL _ _
  exact contract H enc W base args ds gs before hval hW hL
theorem said : Rows.CoverAnewSaid :=
  OpenClaim.holds_of_cond 6 Tryz.f6 rfl rfl rfl rfl rfl rfl rfl ⟨rfl, rfl, rfl, rfl, rfl⟩ rfl rfl rfl rfl rfl (by kernel_rfl) Tryz.func6 (by kernel_rfl)
    (of_decide_eq_true (by kernel_rfl)) (by unfold Func.isWrapper; first | (rw [if_pos (by decide +kernel)]; kernel_rfl) | (rw [if_neg (by decide +kernel)]; exact ⟨rfl, rfl⟩))
    (fun os started H enc _ F => by rw [OpenClaim.pre_eq_preRow]; exact lifted os started H enc F)

/-- No parameter wants a stand-in; the program's own looks are off: what the card asks. -/
theorem plain (f : FuncId) (fn : Func) (hf : Tryz.pinned.checked.prog.funcNamed "couplant/couplantlaw07.CoverAnew" = some f) (hfn : Tryz.pinned.checked.prog.funcs[f]? = some fn) :
    false = Tryz.pinned.checked.prog.looks [] ∧ ∀ (j : Nat) t, fn.params[j]? = some t → Tryz.pinned.checked.prog.wantsStandIn t = false := by
  obtain rfl : f = 6 := Option.some.inj ((show Tryz.prog.funcNamed "couplant/couplantlaw07.CoverAnew" = some 6 by kernel_rfl).symm.trans hf) |>.symm
  obtain rfl : fn = Tryz.f6 := (Option.some.inj (Tryz.func6.symm.trans hfn)).symm
  refine ⟨by kernel_rfl, fun j t ht => ?_⟩
  rw [Tryz.params6] at ht
  have hm := Array.mem_of_getElem? ht
  simp at hm
  rcases hm with rfl | rfl | rfl
  · exact (show Tryz.prog.wantsStandIn 61 = false by kernel_rfl)
  · exact (show Tryz.prog.wantsStandIn 62 = false by kernel_rfl)
  · exact (show Tryz.prog.wantsStandIn 73 = false by kernel_rfl)

/-- ████ THE CARD ████ -/
theorem card : Rows.CoverAnewCardSaid :=
  Claim7.holds_tied_plain_at .later [] _ _ _ _ said (fun _ h => by cases h) (by kernel_rfl) (fun _ h => by cases h) coverAnew_row_tie rfl ⟨rfl, rfl⟩ (by kernel_rfl) rfl plain (by kernel_rfl)
end Go.Proofs.YtfbnpfhnffahdaaGreatDoor.coverAnew
