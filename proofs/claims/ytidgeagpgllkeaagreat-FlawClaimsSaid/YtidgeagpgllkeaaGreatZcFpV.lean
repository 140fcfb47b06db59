/- For every input the law FlawClaims answers true, and the arguments read afterwards as before: which pairs and covers are accepted, or the errors, is as specified, for any ones; no pairs that are accepted are more than an accepted cover has members. No condition. -/
import Derived.Test.YtidgeagpgllkeaaGreatZcFpU
namespace Go.Proofs.YtidgeagpgllkeaaGreat.flawClaims
open Go.ChangeShapes Go.WideShapes Go.ChangeAt Go.RowKit

theorem own : ownKnob Tryz.prog.godebug = none := by kernel_rfl
set_option maxRecDepth 100000 in
theorem lifted (os : Os) (started : os.Started) (H : Type) (enc : TypeId × Value → H) :
    ReturnsInHanded {} Tryz.checked os 16 .any (Rows.flawClaimsSpec.pre6 enc Tryz.prog Tryz.f16 Rows.flawClaimsRow.domain false) (Rows.flawClaimsSpec.post enc Tryz.prog Tryz.f16 false true false false) := by
  refine returnsInHanded_of_change (C := Tryz.checked) own started (by kernel_rfl) Tryz.func16
    (ChangeSpec.witness6 (enc := enc) (C := Tryz.checked) false ⟨#[], #[.agg #[.slice none 0 0, .slice none 0 0], .int .i64 0, .agg #[.slice none 0 0, .slice none 0 0, .slice none 0 0]], []⟩ 8 (by kernel_rfl) (by kernel_rfl) (by kernel_rfl) (by kernel_rfl)) ?_
  intro W base args ds gs before hval0 hW hcnd _
  have hval : ∀ (j : Nat) t v, Tryz.f16.params[j]? = some t → args[j]? = some v → Value.okWide Tryz.prog W .any base t v := hval0
  have hW' := hW
  obtain ⟨p, q, hA0, hV, rfl, hfz, hnd⟩ := hW
  have hA : DataW.TrodAll enc Tryz.prog W 0 (fun _ => true) true Tryz.f16.params.toList args.toList ds p := hA0
  have hAk := hA
  rw [Tryz.params16] at hA hval
  obtain ⟨v0, vs0, d0, ds0, p0, q0, hargs, rfl, rfl, h0, r0⟩ := trodAll_cons hA
  obtain ⟨v1, vs1, d1, ds1, p1, q1, rfl, rfl, rfl, h1, r1⟩ := trodAll_cons r0
  obtain ⟨v2, vs2, d2, ds2, p2, q2, rfl, rfl, rfl, h2, r2⟩ := trodAll_cons r1
  obtain ⟨rfl, rfl, rfl⟩ := trodAll_nil r2
  obtain rfl : args = #[v0, v1, v2] := by cases args; simp_all
  obtain ⟨rfl, rfl⟩ := trodVars_none hV
  obtain ⟨A0, l0, c0, A1, l1, c1, rfl, g0, g1⟩ := open_lists (hval 0 124 v0 rfl rfl) h0
  obtain ⟨sl, rfl, _⟩ := open_number (hval 1 3 v1 rfl rfl) h1
  obtain ⟨A2, P, c2, AF, Fl, cF, AS, Sl, cS, rfl, gP, gF, gS⟩ := open_claim (hval 2 128 v2 rfl rfl) h2
  clear hA0 hval0
  refine (flawClaims_any l0 l1 A0 A1 A2 AF AS c0 c1 c2 cF cS sl P Fl Sl W g0 g1 gP gF gS).mono fun e W' ⟨he, hB⟩ => ?_
  subst he
  refine ⟨_, rfl, ⟨[d0, d1, d2], [], _, [], _, [], hW', trodAll_cons_mk (shut_bool Tryz.underlying4 _) trodAll_mk0, args_below hB (by rw [Tryz.params16]; decide) (fun x hx => by have := hW'.lt x (by simpa using hx); simpa using this) hAk, rfl, hB.frame _, fun h => by cases h⟩⟩

theorem named : Tryz.pinned.checked.prog.funcNamed Rows.flawClaimsRow.func = some 16 := by kernel_rfl
theorem and2 {a b : Bool} (ha : a = true) (hb : b = true) : (a && b) = true := by rw [ha, hb]; rfl
set_option maxHeartbeats 4000000 in
theorem closed : joinedFacts Tryz.pinned.checked.prog 16 Tryz.f16 Rows.flawClaimsSpec Rows.flawClaimsRow = true := by
  unfold joinedFacts
  repeat' (with_reducible apply and2)
  all_goals (as_aux_lemma => kernel_rfl)
theorem inst : Tryz.f16.isInstance Tryz.pinned.checked.prog Rows.flawClaimsRow.origin Rows.flawClaimsRow.targs := of_decide_eq_true (by kernel_rfl)
theorem wrap : Tryz.f16.isWrapper Tryz.pinned.checked.prog Rows.flawClaimsRow.wrapper Rows.flawClaimsRow.mainSum := by unfold Func.isWrapper; first | (rw [if_pos (by decide +kernel)]; kernel_rfl) | (rw [if_neg (by decide +kernel)]; exact ⟨rfl, rfl⟩)
/-- ████ THE STATEMENT ████ -/
theorem said : Rows.FlawClaimsSaid :=
  OpenClaim.holds_of_wide 16 Tryz.f16 rfl rfl rfl rfl rfl rfl rfl ⟨rfl, rfl, rfl, rfl, rfl⟩ rfl rfl rfl rfl rfl named Tryz.func16 closed inst wrap
    (fun os started H enc _ => lifted os started H enc)
end Go.Proofs.YtidgeagpgllkeaaGreat.flawClaims
