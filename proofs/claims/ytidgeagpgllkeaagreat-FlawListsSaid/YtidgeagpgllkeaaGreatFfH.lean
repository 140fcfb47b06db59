/- For every input the law FlawLists answers true, and the arguments read afterwards as before: which marks are right, with a number, and their hull, or the errors, are as specified. No condition. -/
import Derived.Test.YtidgeagpgllkeaaGreatFfG
import Derived.Test.YtidgeagpgllkeaaGreatFfO
namespace Go.Proofs.YtidgeagpgllkeaaGreat.flawLists
open Go.ChangeShapes Go.WideShapes Go.ChangeAt Go.RowKit

theorem own : ownKnob Tryz.prog.godebug = none := by kernel_rfl
set_option maxRecDepth 100000 in
theorem lifted (os : Os) (started : os.Started) (H : Type) (enc : TypeId × Value → H) :
    ReturnsInHanded {} Tryz.checked os 12 .any (Rows.flawListsSpec.pre6 enc Tryz.prog Tryz.f12 Rows.flawListsRow.domain false) (Rows.flawListsSpec.post enc Tryz.prog Tryz.f12 false true false false) := by
  refine returnsInHanded_of_change (C := Tryz.checked) own started (by kernel_rfl) Tryz.func12
    (ChangeSpec.witness6 (enc := enc) (C := Tryz.checked) false ⟨#[], #[.slice none 0 0], []⟩ 8 (by kernel_rfl) (by kernel_rfl) (by kernel_rfl) (by kernel_rfl)) ?_
  intro W base args ds gs before hval0 hW hcnd _
  have hval : ∀ (j : Nat) t v, Tryz.f12.params[j]? = some t → args[j]? = some v → Value.okWide Tryz.prog W .any base t v := hval0
  have hW' := hW
  obtain ⟨p, q, hA0, hV, rfl, hfz, hnd⟩ := hW
  have hA : DataW.TrodAll enc Tryz.prog W 0 (fun _ => true) true Tryz.f12.params.toList args.toList ds p := hA0
  have hAk := hA
  rw [Tryz.params12] at hA hval
  obtain ⟨v0, vs0, d0, ds0, p0, q0, hargs, rfl, rfl, h0, r0⟩ := trodAll_cons hA
  obtain ⟨rfl, rfl, rfl⟩ := trodAll_nil r0
  obtain rfl : args = #[v0] := by cases args; simp_all
  obtain ⟨rfl, rfl⟩ := trodVars_none hV
  obtain ⟨A, l, c, rfl, hA1, hR, hn, hcm, hsz⟩ := open_marks (hval 0 60 v0 rfl rfl) h0
  clear hA0 hval0
  refine (flawLists_any l A c W (by simp only [maxLen] at hcm; omega) hR (Lib.hid (fun m hm => by have := hsz m hm; simp only [maxLen] at this; omega)) hn hA1).mono fun e W' ⟨he, hB⟩ => ?_
  subst he
  refine ⟨_, rfl, ⟨[d0], [], _, [], _, [], hW', trodAll_cons_mk (shut_bool Tryz.underlying4 _) trodAll_mk0, args_below hB (by rw [Tryz.params12]; decide) (fun x hx => by have := hW'.lt x (by simpa using hx); simpa using this) hAk, rfl, hB.frame _, fun h => by cases h⟩⟩

theorem named : Tryz.pinned.checked.prog.funcNamed Rows.flawListsRow.func = some 12 := by kernel_rfl
theorem and2 {a b : Bool} (ha : a = true) (hb : b = true) : (a && b) = true := by rw [ha, hb]; rfl
set_option maxHeartbeats 4000000 in
theorem closed : joinedFacts Tryz.pinned.checked.prog 12 Tryz.f12 Rows.flawListsSpec Rows.flawListsRow = true := by
  unfold joinedFacts
  repeat' (with_reducible apply and2)
  all_goals (as_aux_lemma => kernel_rfl)
theorem inst : Tryz.f12.isInstance Tryz.pinned.checked.prog Rows.flawListsRow.origin Rows.flawListsRow.targs := of_decide_eq_true (by kernel_rfl)
theorem wrap : Tryz.f12.isWrapper Tryz.pinned.checked.prog Rows.flawListsRow.wrapper Rows.flawListsRow.mainSum := by unfold Func.isWrapper; first | (rw [if_pos (by decide +kernel)]; kernel_rfl) | (rw [if_neg (by decide +kernel)]; exact ⟨rfl, rfl⟩)
/-- ████ THE STATEMENT ████ -/
theorem said : Rows.FlawListsSaid :=
  OpenClaim.holds_of_wide 12 Tryz.f12 rfl rfl rfl rfl rfl rfl rfl ⟨rfl, rfl, rfl, rfl, rfl⟩ rfl rfl rfl rfl rfl named Tryz.func12 closed inst wrap
    (fun os started H enc _ => lifted os started H enc)
end Go.Proofs.YtidgeagpgllkeaaGreat.flawLists
