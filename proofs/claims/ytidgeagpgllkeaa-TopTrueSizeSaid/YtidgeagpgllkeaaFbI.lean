/- For every input the law TopTrueSize answers true, and the arguments read afterwards as before: of a flaw with two tips the depths of both lie in what is found, and its height in the height. No condition. -/
import Derived.Test.YtidgeagpgllkeaaFbG
import Derived.Test.YtidgeagpgllkeaaFbH
namespace Go.Proofs.Ytidgeagpgllkeaa.topTrueSize
open Go.ChangeShapes Go.WideShapes Go.ChangeAt Go.RowKit

theorem own : ownKnob Try.prog.godebug = none := by kernel_rfl
set_option maxRecDepth 100000 in
theorem lifted (os : Os) (started : os.Started) (H : Type) (enc : TypeId × Value → H) :
    ReturnsInHanded {} Try.checked os 3 .any (Rows.topTrueSizeSpec.pre6 enc Try.prog Try.f3 Rows.topTrueSizeRow.domain false) (Rows.topTrueSizeSpec.post enc Try.prog Try.f3 false true false false) := by
  refine returnsInHanded_of_change (C := Try.checked) own started (by kernel_rfl) Try.func3
    (ChangeSpec.witness6 (enc := enc) (C := Try.checked) false ⟨#[], #[.agg #[.int .i64 0, .int .i64 0, .int .i64 0], .int .i64 0, .agg #[.int .i64 0, .int .i64 0]], []⟩ 8 (by kernel_rfl) (by kernel_rfl) (by kernel_rfl) (by kernel_rfl)) ?_
  intro W base args ds gs before hval0 hW hcnd _
  have hval : ∀ (j : Nat) t v, Try.f3.params[j]? = some t → args[j]? = some v → Value.okWide Try.prog W .any base t v := hval0
  have hW' := hW
  obtain ⟨p, q, hA0, hV, rfl, hfz, hnd⟩ := hW
  have hA : DataW.TrodAll enc Try.prog W 0 (fun _ => true) true Try.f3.params.toList args.toList ds p := hA0
  have hAk := hA
  rw [Try.params3] at hA hval
  obtain ⟨v0, vs0, d0, ds0, p0, q0, hargs, rfl, rfl, h0, r0⟩ := trodAll_cons hA
  obtain ⟨v1, vs1, d1, ds1, p1, q1, rfl, rfl, rfl, h1, r1⟩ := trodAll_cons r0
  obtain ⟨v2, vs2, d2, ds2, p2, q2, rfl, rfl, rfl, h2, r2⟩ := trodAll_cons r1
  obtain ⟨rfl, rfl, rfl⟩ := trodAll_nil r2
  obtain rfl : args = #[v0, v1, v2] := by cases args; simp_all
  obtain ⟨rfl, rfl⟩ := trodVars_none hV
  obtain ⟨a0, a1, a2, rfl, _, _, _⟩ := open_three (hval 0 22 v0 rfl rfl) h0
  obtain ⟨sp, rfl, _⟩ := open_number (hval 1 3 v1 rfl rfl) h1
  obtain ⟨x, y, rfl, _, _⟩ := open_two (hval 2 23 v2 rfl rfl) h2
  clear hA0 hval0
  refine (trueSize_any a0 a1 a2 sp x y W).mono fun e W' ⟨he, hB⟩ => ?_
  subst he
  refine ⟨_, rfl, ⟨[d0, d1, d2], [], _, [], _, [], hW', trodAll_cons_mk (shut_bool Try.underlying4 _) trodAll_mk0, args_below hB (by rw [Try.params3]; decide) (fun x hx => by have := hW'.lt x (by simpa using hx); simpa using this) hAk, rfl, hB.frame _, fun h => by cases h⟩⟩

/-- ████ THE STATEMENT ████ -/
theorem said : Rows.TopTrueSizeSaid :=
  OpenClaim.holds_of_wide 3 Try.f3 rfl rfl rfl rfl rfl rfl rfl ⟨rfl, rfl, rfl, rfl, rfl⟩ rfl rfl rfl rfl rfl (by kernel_rfl) Try.func3 (by kernel_rfl)
    (of_decide_eq_true (by kernel_rfl)) (by unfold Func.isWrapper; first | (rw [if_pos (by decide +kernel)]; kernel_rfl) | (rw [if_neg (by decide +kernel)]; exact ⟨rfl, rfl⟩))
    (fun os started H enc _ => lifted os started H enc)
end Go.Proofs.Ytidgeagpgllkeaa.topTrueSize
