/- For every input the law TopAreasInGroups answers true, and the arguments read afterwards as before: if each cell of at least a level is a mark of its own, the groups of marks that touch one another have each area of these cells whole, and there are not more groups than areas; the mark of an area is the hull of the marks of its cells, but for its name. No condition. -/
import Derived.Test.YtclpljbllnhhbaaGreatZeFrL
import Derived.Test.YtclpljbllnhhbaaGreatZeFjO
import Derived.Test.YtclpljbllnhhbaaGreatZeFgC
import Derived.Test.YtclpljbllnhhbaaGreatZeFiG
namespace Go.Proofs.YtclpljbllnhhbaaGreat.topAreasInGroups
open Go.ChangeShapes Go.WideShapes Go.ChangeAt Go.RowKit

theorem own : ownKnob Tryz.prog.godebug = none := by kernel_rfl
set_option maxRecDepth 100000 in
theorem lifted (os : Os) (started : os.Started) (H : Type) (enc : TypeId × Value → H) :
    ReturnsInHanded {} Tryz.checked os 3 .any (Rows.topAreasInGroupsSpec.pre6 enc Tryz.prog Tryz.f3 Rows.topAreasInGroupsRow.domain false) (Rows.topAreasInGroupsSpec.post enc Tryz.prog Tryz.f3 false true false false) := by
  refine returnsInHanded_of_change (C := Tryz.checked) own started (by kernel_rfl) Tryz.func3
    (ChangeSpec.witness6 (enc := enc) (C := Tryz.checked) false ⟨#[], #[.slice none 0 0, .agg #[.int .i64 0, .bool false], .agg #[.int .i64 0, .int .i64 0]], []⟩ 8 (by kernel_rfl) (by kernel_rfl) (by kernel_rfl) (by kernel_rfl)) ?_
  intro W base args ds gs before hval0 hW hcnd _
  have hval : ∀ (j : Nat) t v, Tryz.f3.params[j]? = some t → args[j]? = some v → Value.okWide Tryz.prog W .any base t v := hval0
  have hW' := hW
  obtain ⟨p, q, hA0, hV, rfl, hfz, hnd⟩ := hW
  have hA : DataW.TrodAll enc Tryz.prog W 0 (fun _ => true) true Tryz.f3.params.toList args.toList ds p := hA0
  have hAk := hA
  rw [Tryz.params3] at hA hval
  obtain ⟨v0, vs0, d0, ds0, p0, q0, hargs, rfl, rfl, h0, r0⟩ := trodAll_cons hA
  obtain ⟨v1, vs1, d1, ds1, p1, q1, rfl, rfl, rfl, h1, r1⟩ := trodAll_cons r0
  obtain ⟨v2, vs2, d2, ds2, p2, q2, rfl, rfl, rfl, h2, r2⟩ := trodAll_cons r1
  obtain ⟨rfl, rfl, rfl⟩ := trodAll_nil r2
  obtain rfl : args = #[v0, v1, v2] := by cases args; simp_all
  obtain ⟨rfl, rfl⟩ := trodVars_none hV
  obtain ⟨A, l, c, rfl, hA1, hR, hn, hcm, he⟩ := open_scans (hval 0 22 v0 rfl rfl) h0
  obtain ⟨lv, co, rfl, _⟩ := open_ask (hval 1 24 v1 rfl rfl) h1
  obtain ⟨ga, gb, rfl⟩ := open_grid (hval 2 26 v2 rfl rfl) h2
  clear hA0 hval0
  refine (topAreas_any l A c lv co ga gb W ⟨hA1, hR, hn, by unfold maxLen at hcm; omega, fun s hs => by obtain ⟨a1, a2, a3, a4⟩ := he s hs; unfold maxLen at a4; exact ⟨a1, a2, a3, by omega⟩⟩).mono fun e W' ⟨he, hB⟩ => ?_
  subst he
  refine ⟨_, rfl, ⟨[d0, d1, d2], [], _, [], _, [], hW', trodAll_cons_mk (shut_bool Tryz.underlying4 _) trodAll_mk0, args_below hB (by rw [Tryz.params3]; decide) (fun x hx => by have := hW'.lt x (by simpa using hx); simpa using this) hAk, rfl, hB.frame _, fun h => by cases h⟩⟩

theorem named : Tryz.pinned.checked.prog.funcNamed Rows.topAreasInGroupsRow.func = some 3 := by kernel_rfl
theorem and2 {a b : Bool} (ha : a = true) (hb : b = true) : (a && b) = true := by rw [ha, hb]; rfl
set_option maxHeartbeats 4000000 in
theorem closed : joinedFacts Tryz.pinned.checked.prog 3 Tryz.f3 Rows.topAreasInGroupsSpec Rows.topAreasInGroupsRow = true := by
  unfold joinedFacts
  repeat' (with_reducible apply and2)
  all_goals (as_aux_lemma => kernel_rfl)
theorem inst : Tryz.f3.isInstance Tryz.pinned.checked.prog Rows.topAreasInGroupsRow.origin Rows.topAreasInGroupsRow.targs := of_decide_eq_true (by kernel_rfl)
theorem wrap : Tryz.f3.isWrapper Tryz.pinned.checked.prog Rows.topAreasInGroupsRow.wrapper Rows.topAreasInGroupsRow.mainSum := by unfold Func.isWrapper; first | (rw [if_pos (by decide +kernel)]; kernel_rfl) | (rw [if_neg (by decide +kernel)]; exact ⟨rfl, rfl⟩)
/-- ████ THE STATEMENT ████ -/
theorem said : Rows.TopAreasInGroupsSaid :=
  OpenClaim.holds_of_wide 3 Tryz.f3 rfl rfl rfl rfl rfl rfl rfl ⟨rfl, rfl, rfl, rfl, rfl⟩ rfl rfl rfl rfl rfl named Tryz.func3 closed inst wrap
    (fun os started H enc _ => lifted os started H enc)
end Go.Proofs.YtclpljbllnhhbaaGreat.topAreasInGroups
