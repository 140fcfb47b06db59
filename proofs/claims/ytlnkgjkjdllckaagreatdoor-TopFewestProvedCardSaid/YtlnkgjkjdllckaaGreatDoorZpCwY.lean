/- Contracts of the statements' errors of a face, a set-up and an ask. -/
import Derived.Test.YtlnkgjkjdllckaaGreatDoorZpCwX
namespace Go.Proofs.YtlnkgjkjdllckaaGreatDoor
open Go.RowKit

theorem cmp_val_le {x y : Int} (h : x ≤ y) : cmpI x y ≤ 0 := by
  unfold cmpI
  split
  · omega
  · rw [if_neg (by omega)]; omega
theorem su_all' {w : World} {g : Nat} {sn : ByteArray} {s : Su} (h : Blk w g 34 (suC sn s)) :
    w.cell? ⟨g, 0, none⟩ = some (.string sn) ∧ w.cell? ⟨g, 1, none⟩ = some (.int .i64 s.at_) ∧ w.cell? ⟨g, 2, none⟩ = some (.int .i64 s.side) ∧ w.cell? ⟨g, 3, none⟩ = some (.int .i64 s.legs) ∧
    w.cell? ⟨g, 4, none⟩ = some (.int .i64 s.ln) ∧ w.cell? ⟨g, 5, none⟩ = some (.int .i64 s.ld) ∧ w.cell? ⟨g, 6, none⟩ = some (.int .i64 s.mn) ∧ w.cell? ⟨g, 7, none⟩ = some (.int .i64 s.md) ∧
    w.cell? ⟨g, 8, none⟩ = some (.int .i64 s.tn) ∧ w.cell? ⟨g, 9, none⟩ = some (.int .i64 s.td) ∧ ∀ i, w.frozen? ⟨g, i, none⟩ = false :=
  ⟨h.cell 0, h.cell 1, h.cell 2, h.cell 3, h.cell 4, h.cell 5, h.cell 6, h.cell 7, h.cell 8, h.cell 9, h.frozen⟩
theorem kind_ref (s : Su) : kindB s = !((decide (s.side ≠ 1) && decide (s.side ≠ -1)) || (decide (s.legs ≠ 1) && decide (s.legs ≠ 2))) := by
  unfold kindB wi
  by_cases a : s.side = 1 <;> by_cases b : s.side = -1 <;> by_cases c : s.legs = 1 <;> by_cases d : s.legs = 2 <;> simp [a, b, c, d] <;> omega

set_option maxRecDepth 100000 in
set_option maxHeartbeats 4000000 in
theorem rCheckSetup_any (nm : ByteArray) (s : Su) (w : World) (hs : nm.size ≤ 1000000000000) (hw : s.wf) :
    Calls Tryz.prog 44 #[.agg (suC nm s)] w fun e w' => e = .returned (.int .i64 (setupE nm s)) ∧ Below w.heap.size w w' := by
  have b0 := Blk.new w 34 (suC nm s)
  have hB0 : Below w.heap.size w (w.alloc (.cells (suC nm s) 34)) := (Below.refl _ _).alloc (Nat.le_refl _) _
  unfold suC at *
  cases h1 : nameB nm
  · have H1 := Lib.hid h1; clear h1
    have HE : Hid (setupE nm s = 4) := by unfold setupE; rw [H1.out]; rfl
    go_enter Tryz.func44, Tryz.ntmps44
    go_wp2_with (go_at_call 41; refine (bIsName_any _ _ hs).mono ?_; rw [H1.out]; rintro e w1 ⟨rfl, rfl⟩)
    go_ret
    exact ⟨by rw [HE.out]; rfl, hB0⟩
  · have H1 := Lib.hid h1; clear h1
    cases t1 : wi s.at_ (-20000) 20000
    · have HE : Hid (setupE nm s = 2) := by unfold setupE; rw [H1.out, t1]; rfl
      go_enter Tryz.func44, Tryz.ntmps44
      go_wp2_with (first | (go_at_call 41; refine (bIsName_any _ _ hs).mono ?_; rw [H1.out]; rintro e w1 ⟨rfl, rfl⟩) | (go_at_call 42; refine (bWithin_any _ _ _ _).mono ?_; rintro e w1 ⟨rfl, rfl⟩))
      go_ret
      exact ⟨by rw [HE.out]; rfl, hB0⟩
    · have HK := Lib.hid (kind_ref s)
      go_enter Tryz.func44, Tryz.ntmps44
      go_upto_region 5 with (first | (go_at_call 41; refine (bIsName_any _ _ hs).mono ?_; rw [H1.out]; rintro e w1 ⟨rfl, rfl⟩) | (go_at_call 42; refine (bWithin_any _ _ _ _).mono ?_; rintro e w1 ⟨rfl, rfl⟩) | fail)
      go_cut [30] (fun s30 wx => ∃ kb : Bool, s30 = .bool kb ∧ Hid (kb = !kindB s) ∧ wx = w.alloc (.cells #[.string nm, .int .i64 s.at_, .int .i64 s.side, .int .i64 s.legs, .int .i64 s.ln, .int .i64 s.ld, .int .i64 s.mn, .int .i64 s.md, .int .i64 s.tn, .int .i64 s.td] 34))
      case first =>
        by_cases a : s.side = 1
        · have a' : (s.side != 1) = false := by simpa using a
          by_cases c : s.legs = 1
          · have c' : (s.legs != 1) = false := by simpa using c
            have HV : Hid (kindB s = true) := Lib.hid (by rw [HK.out]; simp [a, c])
            clear a c
            go_wp2
            go_meet
            exact ⟨_, rfl, Lib.hid (by rw [HV.out]; rfl), rfl⟩
          · have c' : (s.legs != 1) = true := by simpa using c
            by_cases d : s.legs = 2
            · have d' : (s.legs != 2) = false := by simpa using d
              have HV : Hid (kindB s = true) := Lib.hid (by rw [HK.out]; simp [a, d])
              clear a c d
              go_wp2
              go_meet
              exact ⟨_, rfl, Lib.hid (by rw [HV.out]; rfl), rfl⟩
            · have d' : (s.legs != 2) = true := by simpa using d
              have HV : Hid (kindB s = false) := Lib.hid (by rw [HK.out]; simp [a, c, d])
              clear a c d
              go_wp2
              go_meet
              exact ⟨_, rfl, Lib.hid (by rw [HV.out]; rfl), rfl⟩
        · have a' : (s.side != 1) = true := by simpa using a
          by_cases b : s.side = -1
          · have b' : (s.side != -1) = false := by simpa using b
            by_cases c : s.legs = 1
            · have c' : (s.legs != 1) = false := by simpa using c
              have HV : Hid (kindB s = true) := Lib.hid (by rw [HK.out]; simp [b, c])
              clear a b c
              go_wp2
              go_meet
              exact ⟨_, rfl, Lib.hid (by rw [HV.out]; rfl), rfl⟩
            · have c' : (s.legs != 1) = true := by simpa using c
              by_cases d : s.legs = 2
              · have d' : (s.legs != 2) = false := by simpa using d
                have HV : Hid (kindB s = true) := Lib.hid (by rw [HK.out]; simp [b, d])
                clear a b c d
                go_wp2
                go_meet
                exact ⟨_, rfl, Lib.hid (by rw [HV.out]; rfl), rfl⟩
              · have d' : (s.legs != 2) = true := by simpa using d
                have HV : Hid (kindB s = false) := Lib.hid (by rw [HK.out]; simp [b, c, d])
                clear a b c d
                go_wp2
                go_meet
                exact ⟨_, rfl, Lib.hid (by rw [HV.out]; rfl), rfl⟩
          · have b' : (s.side != -1) = true := by simpa using b
            have HV : Hid (kindB s = false) := Lib.hid (by rw [HK.out]; simp [a, b])
            clear a b
            go_wp2
            go_meet
            exact ⟨_, rfl, Lib.hid (by rw [HV.out]; rfl), rfl⟩
      case rest =>
      obtain ⟨kb, rfl, HKB, rfl⟩ := hcut
      cases kb
      rotate_left
      · have t2 : kindB s = false := by have := HKB.out; revert this; cases kindB s <;> simp
        have HE : Hid (setupE nm s = 15) := by unfold setupE; rw [H1.out, t1, t2]; rfl
        clear t2
        go_wp2
        go_ret
        exact ⟨by rw [HE.out]; rfl, hB0⟩
      · have t2 : kindB s = true := by have := HKB.out; revert this; cases kindB s <;> simp
        have HE : Hid (setupE nm s = if tanE s.ln s.ld ≠ 0 then tanE s.ln s.ld else if tanE s.mn s.md ≠ 0 then tanE s.mn s.md else if tanE s.tn s.td ≠ 0 then tanE s.tn s.td else if s.mn * s.ld < s.ln * s.md then 9 else 0) := by unfold setupE; rw [H1.out, t1, t2]; rfl
        have i0 : ∀ W, (Instr.index 140 (.agg #[.int .i64 s.ln, .int .i64 s.ld, .int .i64 s.mn, .int .i64 s.md, .int .i64 s.tn, .int .i64 s.td]) (.int .i64 0)).run Tryz.prog W = .ok (.agg #[.int .i64 s.ln, .int .i64 s.ld]) W := fun _ => by kernel_rfl
        have i1 : ∀ W, (Instr.index 140 (.agg #[.int .i64 s.ln, .int .i64 s.ld, .int .i64 s.mn, .int .i64 s.md, .int .i64 s.tn, .int .i64 s.td]) (.int .i64 1)).run Tryz.prog W = .ok (.agg #[.int .i64 s.mn, .int .i64 s.md]) W := fun _ => by kernel_rfl
        have i2 : ∀ W, (Instr.index 140 (.agg #[.int .i64 s.ln, .int .i64 s.ld, .int .i64 s.mn, .int .i64 s.md, .int .i64 s.tn, .int .i64 s.td]) (.int .i64 2)).run Tryz.prog W = .ok (.agg #[.int .i64 s.tn, .int .i64 s.td]) W := fun _ => by kernel_rfl
        go_wp2
        go_loopw [3] (fun i wr => Blk wr w.heap.size 34 (suC nm s) ∧ Below w.heap.size w wr ∧ (i = .int .i64 0 ∨ (i = .int .i64 1 ∧ Hid (tanE s.ln s.ld = 0)) ∨ (i = .int .i64 2 ∧ Hid (tanE s.ln s.ld = 0) ∧ Hid (tanE s.mn s.md = 0)) ∨ (i = .int .i64 3 ∧ Hid (tanE s.ln s.ld = 0) ∧ Hid (tanE s.mn s.md = 0) ∧ Hid (tanE s.tn s.td = 0)))) (fun i _ => 3 - (intOf i).toNat)
        case atStart => exact ⟨b0, hB0, .inl rfl⟩
        case round =>
          clear b0 hB0
          obtain ⟨b1, hBB, hi⟩ := hrel
          have lb := b1.lt
          obtain ⟨_, _, _, _, q4, q5, q6, q7, q8, q9, _⟩ := su_all' b1
          rcases hi with rfl | ⟨rfl, T1⟩ | ⟨rfl, T1, T2⟩ | ⟨rfl, T1, T2, T3⟩
          · go_wp2_with fail
            refine (rTangentErr_any s.ln s.ld hw.ln hw.ld _).mono ?_
            rintro e w1 ⟨rfl, hB1⟩
            have hb' := b1.below hB1 lb
            have hBw := hBB.trans (hB1.mono (Below.size hBB))
            clear hB1 b1 hBB q4 q5 q6 q7 q8 q9 lb
            by_cases hz0 : tanE s.ln s.ld = 0
            · have hz2 : (tanE s.ln s.ld != 0) = false := by simpa using hz0
              have HZ := Lib.hid hz0; clear hz0
              go_wp2
              go_roundw
              case rel => exact ⟨hb', hBw, .inr (.inl ⟨rfl, HZ⟩)⟩
              case measure => simp [intOf]
            · have hz2 : (tanE s.ln s.ld != 0) = true := by simpa using hz0
              have HZ : Hid (setupE nm s = tanE s.ln s.ld) := by rw [HE.out, if_pos hz0]; rfl
              clear hz0
              go_wp2
              go_ret
              exact ⟨by rw [HZ.out]; rfl, hBw⟩
          · go_wp2_with fail
            refine (rTangentErr_any s.mn s.md hw.mn hw.md _).mono ?_
            rintro e w1 ⟨rfl, hB1⟩
            have hb' := b1.below hB1 lb
            have hBw := hBB.trans (hB1.mono (Below.size hBB))
            clear hB1 b1 hBB q4 q5 q6 q7 q8 q9 lb
            by_cases hz0 : tanE s.mn s.md = 0
            · have hz2 : (tanE s.mn s.md != 0) = false := by simpa using hz0
              have HZ := Lib.hid hz0; clear hz0
              go_wp2
              go_roundw
              case rel => exact ⟨hb', hBw, .inr (.inr (.inl ⟨rfl, T1, HZ⟩))⟩
              case measure => simp [intOf]
            · have hz2 : (tanE s.mn s.md != 0) = true := by simpa using hz0
              have HZ : Hid (setupE nm s = tanE s.mn s.md) := by rw [HE.out, if_neg (by rw [T1.out]; simp), if_pos hz0]; rfl
              clear hz0
              go_wp2
              go_ret
              exact ⟨by rw [HZ.out]; rfl, hBw⟩
          · go_wp2_with fail
            refine (rTangentErr_any s.tn s.td hw.tn hw.td _).mono ?_
            rintro e w1 ⟨rfl, hB1⟩
            have hb' := b1.below hB1 lb
            have hBw := hBB.trans (hB1.mono (Below.size hBB))
            clear hB1 b1 hBB q4 q5 q6 q7 q8 q9 lb
            by_cases hz0 : tanE s.tn s.td = 0
            · have hz2 : (tanE s.tn s.td != 0) = false := by simpa using hz0
              have HZ := Lib.hid hz0; clear hz0
              go_wp2
              go_roundw
              case rel => exact ⟨hb', hBw, .inr (.inr (.inr ⟨rfl, T1, T2, HZ⟩))⟩
              case measure => simp [intOf]
            · have hz2 : (tanE s.tn s.td != 0) = true := by simpa using hz0
              have HZ : Hid (setupE nm s = tanE s.tn s.td) := by rw [HE.out, if_neg (by rw [T1.out]; simp), if_neg (by rw [T2.out]; simp), if_pos hz0]; rfl
              clear hz0
              go_wp2
              go_ret
              exact ⟨by rw [HZ.out]; rfl, hBw⟩
          · have B1 := tanE_zero T1.out
            have B2 := tanE_zero T2.out
            have HZ : Hid (setupE nm s = if s.mn * s.ld < s.ln * s.md then 9 else 0) := by rw [HE.out, if_neg (by rw [T1.out]; simp), if_neg (by rw [T2.out]; simp), if_neg (by rw [T3.out]; simp)]; rfl
            by_cases hv : s.mn * s.ld < s.ln * s.md
            · have HV : Hid (setupE nm s = 9) := Lib.hid (by rw [HZ.out, if_pos hv])
              have hcv := Lib.hid (cmp_val_gt hv)
              clear hv
              go_wp2_with fail
              refine (rCmp_any s.ln s.ld s.mn s.md (by omega) (by omega) (by omega) (by omega) _).mono ?_
              rw [hcv.out]
              rintro e w1 ⟨rfl, hB1⟩
              go_wp2
              go_ret
              exact ⟨by rw [HV.out]; rfl, hBB.trans (hB1.mono (Below.size hBB))⟩
            · have HV : Hid (setupE nm s = 0) := Lib.hid (by rw [HZ.out, if_neg hv])
              obtain ⟨cv, hcv, hcv0⟩ : ∃ cv, cmpI (s.ln * s.md) (s.mn * s.ld) = cv ∧ cv ≤ 0 := ⟨_, rfl, cmp_val_le (by omega)⟩
              clear hv
              go_wp2_with fail
              refine (rCmp_any s.ln s.ld s.mn s.md (by omega) (by omega) (by omega) (by omega) _).mono ?_
              rw [hcv]
              rintro e w1 ⟨rfl, hB1⟩
              go_wp2
              go_ret
              exact ⟨by rw [HV.out]; rfl, hBB.trans (hB1.mono (Below.size hBB))⟩

end Go.Proofs.YtlnkgjkjdllckaaGreatDoor
