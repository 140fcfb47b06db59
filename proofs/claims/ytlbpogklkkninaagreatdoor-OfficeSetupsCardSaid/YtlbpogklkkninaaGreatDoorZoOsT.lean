/- Contract: the steps of calibration: which steps are right (by the reference). -/
import Derived.Test.YtlbpogklkkninaaGreatDoorZoOsS
namespace Go.Proofs.YtlbpogklkkninaaGreatDoor
open Go.RowKit

set_option maxRecDepth 100000 in
set_option maxHeartbeats 4000000 in
theorem rCheckSteps_any (l : List St) (A : Option Addr) (c B : Nat) (w : World) (hl : StOk l A c B w) :
    Calls Tryz.prog 27 #[.slice A l.length c] w fun e w' => e = .returned (.tuple #[.int .i64 (stepsE l).1, .int .i64 (stepsE l).2]) ∧ Below w.heap.size w w' := by
  obtain ⟨h1, h2, h3, h4, hR, hB⟩ := hl
  have H1 := Lib.hid h1; have H2 := Lib.hid h2; have HRW := Lib.hid hR; clear h1 h2 hR
  by_cases t0 : l.length = 0
  · have HE : Hid (stepsE l = (0, 10)) := by unfold stepsE; rw [if_pos t0]; rfl
    have t1 : ((l.length : Int) == 0) = true := by simpa using t0
    have T0 := Lib.hid t0; clear t0
    go_enter Tryz.func27, Tryz.ntmps27
    go_wp2
    go_ret2
    exact ⟨by rw [HE.out]; rfl, (by repeat (first | (with_reducible exact Below.refl _ _) | (with_reducible assumption) | ((with_reducible refine Below.setCell ?_ ?_ _); rotate_left; · (first | exact Nat.le_refl _ | (simp; done) | (simp; omega) | omega)) | ((with_reducible refine Below.alloc ?_ ?_ _); rotate_left; · (first | exact Nat.le_refl _ | (simp; done) | (simp; omega) | omega)) | (with_reducible apply Below.drew) | (with_reducible apply below_drewN') | (refine Below.trans ?_ (Below.mono (by assumption) (by first | exact Nat.le_refl _ | (simp; done) | (simp; omega) | omega))) | exact Below.refl _ _ | assumption))⟩
  by_cases t3 : 10 < l.length
  · have HE : Hid (stepsE l = (0, 8)) := by unfold stepsE; rw [if_neg t0, if_pos t3]; rfl
    have t1 : ((l.length : Int) == 0) = false := by simpa using t0
    have t3' : (10 : Int) < (l.length : Int) := by omega
    have T0 := Lib.hid t0; clear t0
    go_enter Tryz.func27, Tryz.ntmps27
    go_wp2
    go_ret2
    exact ⟨by rw [HE.out]; rfl, (by repeat (first | (with_reducible exact Below.refl _ _) | (with_reducible assumption) | ((with_reducible refine Below.setCell ?_ ?_ _); rotate_left; · (first | exact Nat.le_refl _ | (simp; done) | (simp; omega) | omega)) | ((with_reducible refine Below.alloc ?_ ?_ _); rotate_left; · (first | exact Nat.le_refl _ | (simp; done) | (simp; omega) | omega)) | (with_reducible apply Below.drew) | (with_reducible apply below_drewN') | (refine Below.trans ?_ (Below.mono (by assumption) (by first | exact Nat.le_refl _ | (simp; done) | (simp; omega) | omega))) | exact Below.refl _ _ | assumption))⟩
  have HE : Hid (stepsE l = firstE (stepE l) l.length) := by unfold stepsE; rw [if_neg t0, if_neg t3]; rfl
  have t1 : ((l.length : Int) == 0) = false := by simpa using t0
  have t3' : (l.length : Int) ≤ 10 := by omega
  have t4 : decide ((10 : Int) < (l.length : Int)) = false := by simp; omega
  have T0 := Lib.hid t0; clear t0 t3
  go_enter Tryz.func27, Tryz.ntmps27
  go_wp2
  go_loopw [4] (fun i wr => ∃ k : Nat, k ≤ l.length ∧ i = .int .i64 k ∧ Hid (FineTo (stepE l) k) ∧ Below w.heap.size w wr) (fun i _ => l.length - (intOf i).toNat)
  case atStart => exact ⟨0, Nat.zero_le _, rfl, Lib.hid (FineTo.zero _), Below.refl _ _⟩
  case round =>
    obtain ⟨k, hk, rfl, HI, hBB⟩ := hrel
    by_cases hlt : k < l.length
    · obtain ⟨g, o, hA, hg, c0, c1, c2, c3⟩ := (HRW.out.below hBB hB).at4 stF_len hlt rfl
      subst hA
      have hsz : l[k].nm.size ≤ 1000000000000 := H1.out _ (List.getElem_mem hlt)
      have hnl := (H2.out _ (List.getElem_mem hlt)).1
      have HNR := Lib.hid (H2.out _ (List.getElem_mem hlt)).2
      have hkc : k ≤ c := by omega
      have hkc0 : (0 : Int) ≤ (k : Int) := by omega
      have HS := Lib.hid (stepE_at hlt)
      have HBAD : Hid (stepE l k ≠ 0 → stepsE l = ((k : Int), stepE l k)) := Lib.hid (fun he => HE.out.trans (firstE_bad HI.out hlt he))
      have HNX : Hid (stepE l k = 0 → FineTo (stepE l) (k + 1)) := Lib.hid (fun he => HI.out.step he)
      clear HI
      obtain ⟨m, hm⟩ : ∃ m, l[k] = m := ⟨_, rfl⟩
      rw [hm] at HS hsz c0 c1 c2 c3 hnl HNR
      clear hm
      obtain ⟨mnm, mlasts, mwarm, mA, mc, mneeds⟩ := m
      dsimp only at HS hsz c0 c1 c2 c3 hnl HNR
      have hBa : B ≤ wr.heap.size := Nat.le_trans hB (Below.size hBB)
      have hgw : g < wr.heap.size := by omega
      cases hq1 : nameB mnm
      · have HX : Hid (stepsE l = ((k : Int), 4)) := by rw [hq1] at HS; have := HBAD.out (by rw [HS.out]; simp); rw [HS.out] at this; exact Lib.hid this
        have HN : Hid (∀ w : World, Calls Tryz.prog 23 #[.string mnm] w fun e w' => e = .returned (.bool false) ∧ w = w') := Lib.hid fun w => by have := bIsName_any mnm w hsz; rwa [hq1] at this
        have Q1 := Lib.hid hq1; clear hq1 HS HBAD HNX
        go_wp2_with (go_at_call 23; refine (HN.out _).mono ?_; rintro e w1 ⟨rfl, rfl⟩)
        go_ret2
        exact ⟨by rw [HX.out]; rfl, hBB⟩
      have HN : Hid (∀ w : World, Calls Tryz.prog 23 #[.string mnm] w fun e w' => e = .returned (.bool true) ∧ w = w') := Lib.hid fun w => by have := bIsName_any mnm w hsz; rwa [hq1] at this
      rw [hq1] at HS
      have Q1 := Lib.hid hq1; clear hq1
      go_wp2_with (go_at_call 23; refine (HN.out _).mono ?_; rintro e w1 ⟨rfl, rfl⟩)
      clear HN
      rename World => wo
      go_loopw [5] (fun i wq => ∃ j : Nat, j ≤ k ∧ i = .int .i64 j ∧ Hid ((l.take j).any (fun q => sameB q.nm mnm) = false) ∧ Below wo.heap.size wo wq) (fun i _ => k - (intOf i).toNat)
      case atStart => exact ⟨0, Nat.zero_le _, rfl, Lib.hid rfl, Below.refl _ _⟩
      case round =>
        obtain ⟨j, hj, rfl, HF, hBq⟩ := hrel
        have hBEq := hBB.trans (hBq.mono hBB.size)
        have hzq := Below.size hBq
        have kc : ∀ n v, wo.cell? ⟨g, n, none⟩ = some v → wr.cell? ⟨g, n, none⟩ = some v := fun n v h => (hBq.cell (p := ⟨g, n, none⟩) hgw).trans h
        have q0 := kc _ _ c0
        have q1 := kc _ _ c1
        have q2 := kc _ _ c2
        have q3 := kc _ _ c3
        clear kc c0 c1 c2 c3
        by_cases hjk : j < k
        · obtain ⟨g', o', hA', _, p0, _⟩ := (HRW.out.below hBEq hB).at4 stF_len (show j < l.length by omega) rfl
          cases hA'
          have hj1 : j < l.length := by omega
          have HTK : Hid (sameB l[j].nm mnm = true → (l.take k).any (fun q => sameB q.nm mnm) = true) := Lib.hid fun h => List.any_eq_true.2 ⟨l[j], List.mem_take_iff_getElem.2 ⟨j, by omega, rfl⟩, h⟩
          have HNJ : Hid (sameB l[j].nm mnm = false → (l.take (j + 1)).any (fun q => sameB q.nm mnm) = false) := Lib.hid fun h => by rw [any_take_snoc _ _ hj1, HF.out, h]; rfl
          generalize l[j].nm = pn at *
          cases hs : sameB pn mnm
          · have hs' : (pn.toList == mnm.toList) = false := hs
            have HX := Lib.hid (HNJ.out hs)
            have HS0 := Lib.hid hs; clear hs HTK HNJ
            go_wp2
            go_quiet (fail)
            go_wp2
            refine ⟨⟨j + 1, by omega, by go_num, HX, by first | exact hBq | exact below_drewN' hBq _ | exact below_drewN' (below_drewN' hBq _) _⟩, by simp [intOf]; omega⟩
          · have hs' : (pn.toList == mnm.toList) = true := hs
            have HX : Hid (stepsE l = ((k : Int), 5)) := Lib.hid (by rw [HTK.out hs] at HS; have := HBAD.out (by rw [HS.out]; simp); rw [HS.out] at this; simpa using this)
            have HS0 := Lib.hid hs; clear hs HTK HNJ
            go_wp2
            go_quiet (fail)
            go_wp2
            go_ret2
            exact ⟨by rw [HX.out]; rfl, by first | exact hBEq | exact below_drewN' hBEq _ | exact below_drewN' (below_drewN' hBEq _) _⟩
        · obtain rfl : j = k := by omega
          have hF := HF.out
          rw [hF] at HS
          clear hF
          cases hq3 : wi mlasts 1 1000000
          · have HX : Hid (stepsE l = ((j : Int), 2)) := by rw [hq3] at HS; have := HBAD.out (by rw [HS.out]; simp); rw [HS.out] at this; exact Lib.hid this
            clear HS HBAD HNX
            go_wp2_with (go_at_call 24; refine (bWithin_any _ _ _ _).mono ?_; rw [hq3]; rintro e w1 ⟨rfl, rfl⟩)
            go_ret2
            exact ⟨by rw [HX.out]; rfl, by first | exact hBEq | exact below_drewN' hBEq _ | exact below_drewN' (below_drewN' hBEq _) _⟩
          cases hq4 : wi mwarm 0 2000
          · have HX : Hid (stepsE l = ((j : Int), 2)) := by rw [hq3, hq4] at HS; have := HBAD.out (by rw [HS.out]; simp); rw [HS.out] at this; exact Lib.hid this
            clear HS HBAD HNX
            go_wp2_with (go_at_call 24; refine (bWithin_any _ _ _ _).mono ?_; (first | rw [hq3] | rw [hq4]); rintro e w1 ⟨rfl, rfl⟩)
            go_ret2
            exact ⟨by rw [HX.out]; rfl, by first | exact hBEq | exact below_drewN' hBEq _ | exact below_drewN' (below_drewN' hBEq _) _⟩
          have HS2 : Hid (stepE l j = (firstE (needE j mneeds) mneeds.length).2) := Lib.hid (by rw [HS.out, hq3, hq4]; simp)
          clear HS
          go_wp2_with (go_at_call 24; refine (bWithin_any _ _ _ _).mono ?_; (first | rw [hq3] | rw [hq4]); rintro e w1 ⟨rfl, rfl⟩)
          have Q3 := Lib.hid hq3; have Q4 := Lib.hid hq4; clear hq3 hq4
          have HNR2 := Lib.hid (HNR.out.below hBEq hB)
          clear HNR hBB hBq
          rename World => wp
          have hl2 : B ≤ wp.heap.size := by omega
          have hgp : g < wp.heap.size := by omega
          clear hzq hj hBa
          go_loopw [6] (fun i wq => ∃ n : Nat, n ≤ mneeds.length ∧ i = .int .i64 n ∧ Hid (FineTo (needE j mneeds) n) ∧ Below wp.heap.size wp wq) (fun i _ => mneeds.length - (intOf i).toNat)
          case atStart => exact ⟨0, Nat.zero_le _, rfl, Lib.hid (FineTo.zero _), Below.refl _ _⟩
          case round =>
            obtain ⟨n, hn, rfl, HF2, hBq⟩ := hrel
            have hBFq := hBEq.trans (hBq.mono hBEq.size)
            have kc : ∀ n v, wp.cell? ⟨g, n, none⟩ = some v → wr.cell? ⟨g, n, none⟩ = some v := fun n v h => (hBq.cell (p := ⟨g, n, none⟩) hgp).trans h
            have r3 := kc _ _ q3
            clear kc q0 q1 q2 q3
            by_cases hnl2 : n < mneeds.length
            · obtain ⟨gn, on, hAn, hgn, e0⟩ := intRow_at (HNR2.out.below hBq hl2) hnl2
              subst hAn
              have HB2 : Hid (needE j mneeds n ≠ 0 → stepsE l = ((j : Int), needE j mneeds n)) := Lib.hid (fun he => by
                have h2 := firstE_bad HF2.out hnl2 he
                have h3 : stepE l j = needE j mneeds n := by rw [HS2.out, h2]
                have := HBAD.out (by rw [h3]; exact he)
                rwa [h3] at this)
              have HN2 : Hid (needE j mneeds n = 0 → FineTo (needE j mneeds) (n + 1)) := Lib.hid (fun he => HF2.out.step he)
              rcases n with _ | i
              · have HZ := Lib.hid (needE_zero (i := j) hnl2)
                simp only [Nat.add_zero] at e0
                generalize mneeds[0] = x at *
                cases hq5 : wi x 0 ((j : Int) - 1)
                · have HX : Hid (stepsE l = ((j : Int), 6)) := Lib.hid (by have := HB2.out (by rw [HZ.out, hq5]; simp); rw [HZ.out, hq5] at this; simpa using this)
                  clear HB2 HN2 HZ HBAD HNX HS2
                  go_wp2_with (go_at_call 24; refine (bWithin_any _ _ _ _).mono ?_; rw [hq5]; rintro e w1 ⟨rfl, rfl⟩)
                  go_ret2
                  exact ⟨by rw [HX.out]; rfl, by first | exact hBFq | exact below_drewN' hBFq _ | exact below_drewN' (below_drewN' hBFq _) _⟩
                · have HX : Hid (FineTo (needE j mneeds) (0 + 1)) := Lib.hid (HN2.out (by rw [HZ.out, hq5]; rfl))
                  clear HB2 HN2 HZ
                  go_wp2_with (go_at_call 24; refine (bWithin_any _ _ _ _).mono ?_; rw [hq5]; rintro e w1 ⟨rfl, rfl⟩)
                  go_quiet (fail)
                  go_wp2
                  refine ⟨⟨0 + 1, by omega, by go_num, HX, by first | exact hBq | exact below_drewN' hBq _ | exact below_drewN' (below_drewN' hBq _) _⟩, by simp [intOf]; omega⟩
              · have HZ := Lib.hid (needE_succ (i := j) hnl2)
                obtain ⟨gn2, on2, hAn2, _, e1⟩ := intRow_at (HNR2.out.below hBq hl2) (show i < mneeds.length by omega)
                cases hAn2
                have hi1 : ((i + 1 : Nat) : Int) - 1 = (i : Int) := by omega
                have hi2 : i < mneeds.length := by omega
                have hi3 : (i : Int) < (mneeds.length : Int) := by omega
                have hi4 : (0 : Int) ≤ (i : Int) := by omega
                generalize mneeds[i + 1] = x at *
                generalize mneeds[i] = y at *
                cases hq5 : wi x 0 ((j : Int) - 1)
                · have HX : Hid (stepsE l = ((j : Int), 6)) := Lib.hid (by have := HB2.out (by rw [HZ.out, hq5]; simp); rw [HZ.out, hq5] at this; simpa using this)
                  clear HB2 HN2 HZ HBAD HNX HS2
                  go_wp2_with (go_at_call 24; refine (bWithin_any _ _ _ _).mono ?_; rw [hq5]; rintro e w1 ⟨rfl, rfl⟩)
                  go_ret2
                  exact ⟨by rw [HX.out]; rfl, by first | exact hBFq | exact below_drewN' hBFq _ | exact below_drewN' (below_drewN' hBFq _) _⟩
                · by_cases hq6 : x ≤ y
                  · have HX : Hid (stepsE l = ((j : Int), 9)) := Lib.hid (by have := HB2.out (by rw [HZ.out, hq5]; simp [hq6]); rw [HZ.out, hq5] at this; simpa [hq6] using this)
                    clear HB2 HN2 HZ HBAD HNX HS2
                    go_wp2_with (go_at_call 24; refine (bWithin_any _ _ _ _).mono ?_; rw [hq5]; rintro e w1 ⟨rfl, rfl⟩)
                    have hwj : IntKind.i64.wrap (i : Int) = (i : Int) := IntWalk.i64_in _ (by omega)
                    go_quiet (fail)
                    clear hwj
                    go_wp2
                    go_ret2
                    exact ⟨by rw [HX.out]; rfl, by first | exact hBFq | exact below_drewN' hBFq _ | exact below_drewN' (below_drewN' hBFq _) _⟩
                  · have HX : Hid (FineTo (needE j mneeds) (i + 1 + 1)) := Lib.hid (HN2.out (by rw [HZ.out, hq5]; simp [hq6]))
                    clear HB2 HN2 HZ
                    go_wp2_with (go_at_call 24; refine (bWithin_any _ _ _ _).mono ?_; rw [hq5]; rintro e w1 ⟨rfl, rfl⟩)
                    have hwj : IntKind.i64.wrap (i : Int) = (i : Int) := IntWalk.i64_in _ (by omega)
                    go_quiet (fail)
                    clear hwj
                    go_wp2
                    refine ⟨⟨i + 1 + 1, by omega, by go_num, HX, by first | exact hBq | exact below_drewN' hBq _ | exact below_drewN' (below_drewN' hBq _) _⟩, by simp [intOf]; omega⟩
            · obtain rfl : n = mneeds.length := by omega
              have HX : Hid (FineTo (stepE l) (j + 1)) := Lib.hid (HNX.out (by rw [HS2.out, firstE_end HF2.out]))
              clear HS2 HBAD HNX
              go_wp2
              refine ⟨⟨j + 1, by omega, by go_num, HX, hBFq⟩, by simp [intOf]; omega⟩
    · obtain rfl : k = l.length := by omega
      have HX : Hid (stepsE l = (0, 0)) := Lib.hid (HE.out.trans (firstE_end HI.out))
      go_wp2
      go_ret2
      exact ⟨by rw [HX.out]; rfl, hBB⟩
end Go.Proofs.YtlbpogklkkninaaGreatDoor
