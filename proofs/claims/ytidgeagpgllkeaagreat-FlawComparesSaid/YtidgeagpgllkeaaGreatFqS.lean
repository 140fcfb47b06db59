/- For every input the law FlawCompares answers true, and the arguments read afterwards as before: the pairs of two lists are right, and as many as their cover has members; exchanged there are as many; the agreement, or the errors, are as specified. No condition. -/
import Derived.Test.YtidgeagpgllkeaaGreatFqR
namespace Go.Proofs.YtidgeagpgllkeaaGreat.flawCompares
open Go.ChangeShapes Go.WideShapes Go.ChangeAt Go.RowKit

section
variable {H : Type} {enc : TypeId × Value → H} {w : World} {base b0 : Nat} {spare : Nat → Bool} {held : Bool} {r : Reach} {v : Value} {d : DataW H} {ps : List MemPlace}
set_option maxRecDepth 4000 in
theorem open_mkArg (hval : Value.okWide Tryz.prog w r b0 60 v) (hd : DataW.Trod enc Tryz.prog w base spare held 60 v d ps) :
    ∃ A l c, v = .slice A (l : List Mk).length c ∧ MkArg l A c w := by
  obtain ⟨A, len, cap, rfl⟩ := okWide_slice Tryz.underlying60 hval
  obtain ⟨n, h⟩ := hd
  have h' : DataW.trod enc Tryz.prog w base spare held n 60 [.slice A len cap] = some (d, ps) := h
  obtain ⟨A0, l0, c0, hv, p1, p2, p3, p4, p5⟩ := open_marks_ h'
  exact ⟨A0, l0, c0, hv, ⟨by unfold maxLen at p4; omega, p2, Lib.hid (fun m hm => by have := p5 m hm; unfold maxLen at this; omega), p3, p1⟩⟩
end

theorem own : ownKnob Tryz.prog.godebug = none := by kernel_rfl
set_option maxRecDepth 100000 in
theorem lifted (os : Os) (started : os.Started) (H : Type) (enc : TypeId × Value → H) :
    ReturnsInHanded {} Tryz.checked os 17 .any (Rows.flawComparesSpec.pre6 enc Tryz.prog Tryz.f17 Rows.flawComparesRow.domain false) (Rows.flawComparesSpec.post enc Tryz.prog Tryz.f17 false true false false) := by
  refine returnsInHanded_of_change (C := Tryz.checked) own started (by kernel_rfl) Tryz.func17
    (ChangeSpec.witness6 (enc := enc) (C := Tryz.checked) false ⟨#[], #[.slice none 0 0, .slice none 0 0, .int .i64 0], []⟩ 8 (by kernel_rfl) (by kernel_rfl) (by kernel_rfl) (by kernel_rfl)) ?_
  intro W base args ds gs before hval0 hW hcnd _
  have hval : ∀ (j : Nat) t v, Tryz.f17.params[j]? = some t → args[j]? = some v → Value.okWide Tryz.prog W .any base t v := hval0
  have hW' := hW
  obtain ⟨p, q, hA0, hV, rfl, hfz, hnd⟩ := hW
  have hA : DataW.TrodAll enc Tryz.prog W 0 (fun _ => true) true Tryz.f17.params.toList args.toList ds p := hA0
  have hAk := hA
  rw [Tryz.params17] at hA hval
  obtain ⟨v0, vs0, d0, ds0, p0, q0, hargs, rfl, rfl, h0, r0⟩ := trodAll_cons hA
  obtain ⟨v1, vs1, d1, ds1, p1, q1, rfl, rfl, rfl, h1, r1⟩ := trodAll_cons r0
  obtain ⟨v2, vs2, d2, ds2, p2, q2, rfl, rfl, rfl, h2, r2⟩ := trodAll_cons r1
  obtain ⟨rfl, rfl, rfl⟩ := trodAll_nil r2
  obtain rfl : args = #[v0, v1, v2] := by cases args; simp_all
  obtain ⟨rfl, rfl⟩ := trodVars_none hV
  obtain ⟨A0, l0, c0, rfl, g0⟩ := open_mkArg (hval 0 60 v0 rfl rfl) h0
  obtain ⟨A1, l1, c1, rfl, g1⟩ := open_mkArg (hval 1 60 v1 rfl rfl) h1
  obtain ⟨sl, rfl, _⟩ := open_number (hval 2 3 v2 rfl rfl) h2
  clear hA0 hval0
  refine (flawCompares_any l0 l1 A0 A1 c0 c1 sl W g0 g1).mono fun e W' ⟨he, hB⟩ => ?_
  subst he
  refine ⟨_, rfl, ⟨[d0, d1, d2], [], _, [], _, [], hW', trodAll_cons_mk (shut_bool Tryz.underlying4 _) trodAll_mk0, args_below hB (by rw [Tryz.params17]; decide) (fun x hx => by have := hW'.lt x (by simpa using hx); simpa using this) hAk, rfl, hB.frame _, fun h => by cases h⟩⟩

theorem named : Tryz.pinned.checked.prog.funcNamed Rows.flawComparesRow.func = some 17 := by kernel_rfl
theorem and2 {a b : Bool} (ha : a = true) (hb : b = true) : (a && b) = true := by rw [ha, hb]; rfl
set_option maxHeartbeats 4000000 in
theorem closed : joinedFacts Tryz.pinned.checked.prog 17 Tryz.f17 Rows.flawComparesSpec Rows.flawComparesRow = true := by
  unfold joinedFacts
  repeat' (with_reducible apply and2)
  all_goals (as_aux_lemma => kernel_rfl)
theorem inst : Tryz.f17.isInstance Tryz.pinned.checked.prog Rows.flawComparesRow.origin Rows.flawComparesRow.targs := of_decide_eq_true (by kernel_rfl)
theorem wrap : Tryz.f17.isWrapper Tryz.pinned.checked.prog Rows.flawComparesRow.wrapper Rows.flawComparesRow.mainSum := by unfold Func.isWrapper; first | (rw [if_pos (by decide +kernel)]; kernel_rfl) | (rw [if_neg (by decide +kernel)]; exact ⟨rfl, rfl⟩)
/-- ████ THE STATEMENT ████ -/
theorem said : Rows.FlawComparesSaid :=
  OpenClaim.holds_of_wide 17 Tryz.f17 rfl rfl rfl rfl rfl rfl rfl ⟨rfl, rfl, rfl, rfl, rfl⟩ rfl rfl rfl rfl rfl named Tryz.func17 closed inst wrap
    (fun os started H enc _ => lifted os started H enc)
end Go.Proofs.YtidgeagpgllkeaaGreat.flawCompares
