/- For every input the law FlawScans answers true, and the arguments read afterwards as before: which scans are right, with a number, and the amplitude of a cell, or the errors, are as specified. No condition. -/
import Derived.Test.YtidgeagpgllkeaaGreatFgD
import Derived.Test.YtidgeagpgllkeaaGreatFfO
namespace Go.Proofs.YtidgeagpgllkeaaGreat.flawScans
open Go.ChangeShapes Go.WideShapes Go.ChangeAt Go.RowKit

theorem own : ownKnob Tryz.prog.godebug = none := by kernel_rfl
set_option maxRecDepth 100000 in
theorem lifted (os : Os) (started : os.Started) (H : Type) (enc : TypeId × Value → H) :
    ReturnsInHanded {} Tryz.checked os 10 .any (Rows.flawScansSpec.pre6 enc Tryz.prog Tryz.f10 Rows.flawScansRow.domain false) (Rows.flawScansSpec.post enc Tryz.prog Tryz.f10 false true false false) := by
  refine returnsInHanded_of_change (C := Tryz.checked) own started (by kernel_rfl) Tryz.func10
    (ChangeSpec.witness6 (enc := enc) (C := Tryz.checked) false ⟨#[], #[.slice none 0 0, .agg #[.int .i64 0, .int .i64 0]], []⟩ 8 (by kernel_rfl) (by kernel_rfl) (by kernel_rfl) (by kernel_rfl)) ?_
  intro W base args ds gs before hval0 hW hcnd _
  have hval : ∀ (j : Nat) t v, Tryz.f10.params[j]? = some t → args[j]? = some v → Value.okWide Tryz.prog W .any base t v := hval0
  have hW' := hW
  obtain ⟨p, q, hA0, hV, rfl, hfz, hnd⟩ := hW
  have hA : DataW.TrodAll enc Tryz.prog W 0 (fun _ => true) true Tryz.f10.params.toList args.toList ds p := hA0
  have hAk := hA
  rw [Tryz.params10] at hA hval
  obtain ⟨v0, vs0, d0, ds0, p0, q0, hargs, rfl, rfl, h0, r0⟩ := trodAll_cons hA
  obtain ⟨v1, vs1, d1, ds1, p1, q1, rfl, rfl, rfl, h1, r1⟩ := trodAll_cons r0
  obtain ⟨rfl, rfl, rfl⟩ := trodAll_nil r1
  obtain rfl : args = #[v0, v1] := by cases args; simp_all
  obtain ⟨rfl, rfl⟩ := trodVars_none hV
  obtain ⟨A, l, c, rfl, hA1, hR, hn, hcm, he⟩ := open_scans (hval 0 22 v0 rfl rfl) h0
  obtain ⟨x, y, rfl, wx, wy⟩ := open_two (hval 1 25 v1 rfl rfl) h1
  clear hA0 hval0
  refine (flawScans_any l A c x y W ⟨hA1, hR, hn, by simp only [maxLen] at hcm; omega, fun s hs => by have := he s hs; simp only [maxLen] at this; exact ⟨this.1, this.2.1, this.2.2.1, by omega⟩⟩ wx wy).mono fun e W' ⟨he, hB⟩ => ?_
  subst he
  refine ⟨_, rfl, ⟨[d0, d1], [], _, [], _, [], hW', trodAll_cons_mk (shut_bool Tryz.underlying4 _) trodAll_mk0, args_below hB (by rw [Tryz.params10]; decide) (fun x hx => by have := hW'.lt x (by simpa using hx); simpa using this) hAk, rfl, hB.frame _, fun h => by cases h⟩⟩

theorem named : Tryz.pinned.checked.prog.funcNamed Rows.flawScansRow.func = some 10 := by kernel_rfl
theorem and2 {a b : Bool} (ha : a = true) (hb : b = true) : (a && b) = true := by rw [ha, hb]; rfl
set_option maxHeartbeats 4000000 in
theorem closed : joinedFacts Tryz.pinned.checked.prog 10 Tryz.f10 Rows.flawScansSpec Rows.flawScansRow = true := by
  unfold joinedFacts
  repeat' (with_reducible apply and2)
  all_goals (as_aux_lemma => kernel_rfl)
theorem inst : Tryz.f10.isInstance Tryz.pinned.checked.prog Rows.flawScansRow.origin Rows.flawScansRow.targs := of_decide_eq_true (by kernel_rfl)
theorem wrap : Tryz.f10.isWrapper Tryz.pinned.checked.prog Rows.flawScansRow.wrapper Rows.flawScansRow.mainSum := by unfold Func.isWrapper; first | (rw [if_pos (by decide +kernel)]; kernel_rfl) | (rw [if_neg (by decide +kernel)]; exact ⟨rfl, rfl⟩)
/-- ████ THE STATEMENT ████ -/
theorem said : Rows.FlawScansSaid :=
  OpenClaim.holds_of_wide 10 Tryz.f10 rfl rfl rfl rfl rfl rfl rfl ⟨rfl, rfl, rfl, rfl, rfl⟩ rfl rfl rfl rfl rfl named Tryz.func10 closed inst wrap
    (fun os started H enc _ => lifted os started H enc)
end Go.Proofs.YtidgeagpgllkeaaGreat.flawScans
