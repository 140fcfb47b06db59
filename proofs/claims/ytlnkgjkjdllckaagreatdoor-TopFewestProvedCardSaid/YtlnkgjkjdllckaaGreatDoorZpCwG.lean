/- Contracts of the reference for joints: a place, the first wrong face, few faces, copies, equal joints. -/
import Derived.Test.YtlnkgjkjdllckaaGreatDoorZpCwB
namespace Go.Proofs.YtlnkgjkjdllckaaGreatDoor
open Go.RowKit

set_option maxHeartbeats 1000000 in
theorem rIsPlace_any (thick x z : Int) (w : World) :
    Calls Tryz.prog 43 #[.int .i64 thick, .agg #[.int .i64 x, .int .i64 z]] w fun e w' => e = .returned (.bool (wi x (-20000) 20000 && wi z 0 thick)) ∧ Below w.heap.size w w' := by
  cases h1 : wi x (-20000) 20000
  · go_enter Tryz.func43, Tryz.ntmps43
    go_wp2_with (go_at_call 42; refine (bWithin_any _ _ _ _).mono ?_; rintro e w1 ⟨rfl, rfl⟩)
    go_ret
    exact ⟨rfl, (by repeat (first | (with_reducible exact Below.refl _ _) | (with_reducible assumption) | ((with_reducible refine Below.setCell ?_ ?_ _); rotate_left; · (first | exact Nat.le_refl _ | (simp; done) | (simp; omega) | omega)) | ((with_reducible refine Below.alloc ?_ ?_ _); rotate_left; · (first | exact Nat.le_refl _ | (simp; done) | (simp; omega) | omega)) | (with_reducible apply Below.drew) | (with_reducible apply below_drewN') | (refine Below.trans ?_ (Below.mono (by assumption) (by first | exact Nat.le_refl _ | (simp; done) | (simp; omega) | omega))) | exact Below.refl _ _ | assumption))⟩
  · go_enter Tryz.func43, Tryz.ntmps43
    go_wp2_with (go_at_call 42; refine (bWithin_any _ _ _ _).mono ?_; rintro e w1 ⟨rfl, rfl⟩)
    go_ret
    exact ⟨by rfl, (by repeat (first | (with_reducible exact Below.refl _ _) | (with_reducible assumption) | ((with_reducible refine Below.setCell ?_ ?_ _); rotate_left; · (first | exact Nat.le_refl _ | (simp; done) | (simp; omega) | omega)) | ((with_reducible refine Below.alloc ?_ ?_ _); rotate_left; · (first | exact Nat.le_refl _ | (simp; done) | (simp; omega) | omega)) | (with_reducible apply Below.drew) | (with_reducible apply below_drewN') | (refine Below.trans ?_ (Below.mono (by assumption) (by first | exact Nat.le_refl _ | (simp; done) | (simp; omega) | omega))) | exact Below.refl _ _ | assumption))⟩

theorem faceE_ref (before : List (ByteArray × Fc)) (nm : ByteArray) (f : Fc) (thick : Int) (h1 : nameB nm = true) (h2 : before.any (fun p => sameB p.1 nm) = false) :
    faceE before nm f thick = if (wi f.fx (-20000) 20000 && wi f.fz 0 thick) = true then (if (wi f.tx (-20000) 20000 && wi f.tz 0 thick) = true then (if f.fx = f.tx ∧ f.fz = f.tz then 11 else 0) else 2) else 2 := by
  unfold faceE
  rw [h1, h2]
  cases wi f.fx (-20000) 20000 <;> cases wi f.fz 0 thick <;> cases wi f.tx (-20000) 20000 <;> cases wi f.tz 0 thick <;> simp

set_option maxRecDepth 100000 in
set_option maxHeartbeats 4000000 in
theorem rCheckJoint_any (j : Jo) (A : Option Addr) (c B : Nat) (w : World) (hj : JoOk j A c B w) :
    Calls Tryz.prog 20 #[.agg (joC j A c)] w fun e w' => e = .returned (.tuple #[.int .i64 (jointE j).1, .int .i64 (jointE j).2]) ∧ Below w.heap.size w w' := by
  obtain ⟨hs, hfs, hn, hc, hR, hB⟩ := hj
  unfold joC
  cases h1 : nameB j.nm
  · have H1 := Lib.hid h1; clear h1
    have HE : Hid (jointE j = (0, 4)) := by unfold jointE; rw [H1.out]; rfl
    go_enter Tryz.func20, Tryz.ntmps20
    go_wp2_with (go_at_call 41; refine (bIsName_any _ _ hs).mono ?_; rw [H1.out]; rintro e w1 ⟨rfl, rfl⟩)
    go_ret2
    exact ⟨by rw [HE.out]; rfl, (by repeat (first | (with_reducible exact Below.refl _ _) | (with_reducible assumption) | ((with_reducible refine Below.setCell ?_ ?_ _); rotate_left; · (first | exact Nat.le_refl _ | (simp; done) | (simp; omega) | omega)) | ((with_reducible refine Below.alloc ?_ ?_ _); rotate_left; · (first | exact Nat.le_refl _ | (simp; done) | (simp; omega) | omega)) | (with_reducible apply Below.drew) | (with_reducible apply below_drewN') | (refine Below.trans ?_ (Below.mono (by assumption) (by first | exact Nat.le_refl _ | (simp; done) | (simp; omega) | omega))) | exact Below.refl _ _ | assumption))⟩
  · have H1 := Lib.hid h1; clear h1
    cases t1 : wi j.thick 1 20000
    · have HE : Hid (jointE j = (0, 2)) := by unfold jointE; rw [H1.out, t1]; rfl
      go_enter Tryz.func20, Tryz.ntmps20
      go_wp2_with (first | (go_at_call 41; refine (bIsName_any _ _ hs).mono ?_; rw [H1.out]; rintro e w1 ⟨rfl, rfl⟩) | (go_at_call 42; refine (bWithin_any _ _ _ _).mono ?_; rintro e w1 ⟨rfl, rfl⟩))
      go_ret2
      exact ⟨by rw [HE.out]; rfl, (by repeat (first | (with_reducible exact Below.refl _ _) | (with_reducible assumption) | ((with_reducible refine Below.setCell ?_ ?_ _); rotate_left; · (first | exact Nat.le_refl _ | (simp; done) | (simp; omega) | omega)) | ((with_reducible refine Below.alloc ?_ ?_ _); rotate_left; · (first | exact Nat.le_refl _ | (simp; done) | (simp; omega) | omega)) | (with_reducible apply Below.drew) | (with_reducible apply below_drewN') | (refine Below.trans ?_ (Below.mono (by assumption) (by first | exact Nat.le_refl _ | (simp; done) | (simp; omega) | omega))) | exact Below.refl _ _ | assumption))⟩
    · cases t2 : wi j.zone 0 20000
      · have HE : Hid (jointE j = (0, 2)) := by unfold jointE; rw [H1.out, t1, t2]; rfl
        go_enter Tryz.func20, Tryz.ntmps20
        go_wp2_with (first | (go_at_call 41; refine (bIsName_any _ _ hs).mono ?_; rw [H1.out]; rintro e w1 ⟨rfl, rfl⟩) | (go_at_call 42; refine (bWithin_any _ _ _ _).mono ?_; rintro e w1 ⟨rfl, rfl⟩))
        go_ret2
        exact ⟨by rw [HE.out]; rfl, (by repeat (first | (with_reducible exact Below.refl _ _) | (with_reducible assumption) | ((with_reducible refine Below.setCell ?_ ?_ _); rotate_left; · (first | exact Nat.le_refl _ | (simp; done) | (simp; omega) | omega)) | ((with_reducible refine Below.alloc ?_ ?_ _); rotate_left; · (first | exact Nat.le_refl _ | (simp; done) | (simp; omega) | omega)) | (with_reducible apply Below.drew) | (with_reducible apply below_drewN') | (refine Below.trans ?_ (Below.mono (by assumption) (by first | exact Nat.le_refl _ | (simp; done) | (simp; omega) | omega))) | exact Below.refl _ _ | assumption))⟩
      · by_cases t3 : 12 < j.fs.length
        · have HE : Hid (jointE j = (0, 8)) := by unfold jointE; rw [H1.out, t1, t2, if_pos t3]; rfl
          have t3' : (12 : Int) < (j.fs.length : Int) := by omega
          go_enter Tryz.func20, Tryz.ntmps20
          go_wp2_with (first | (go_at_call 41; refine (bIsName_any _ _ hs).mono ?_; rw [H1.out]; rintro e w1 ⟨rfl, rfl⟩) | (go_at_call 42; refine (bWithin_any _ _ _ _).mono ?_; rintro e w1 ⟨rfl, rfl⟩))
          go_ret2
          exact ⟨by rw [HE.out]; rfl, (by repeat (first | (with_reducible exact Below.refl _ _) | (with_reducible assumption) | ((with_reducible refine Below.setCell ?_ ?_ _); rotate_left; · (first | exact Nat.le_refl _ | (simp; done) | (simp; omega) | omega)) | ((with_reducible refine Below.alloc ?_ ?_ _); rotate_left; · (first | exact Nat.le_refl _ | (simp; done) | (simp; omega) | omega)) | (with_reducible apply Below.drew) | (with_reducible apply below_drewN') | (refine Below.trans ?_ (Below.mono (by assumption) (by first | exact Nat.le_refl _ | (simp; done) | (simp; omega) | omega))) | exact Below.refl _ _ | assumption))⟩
        · have HE : Hid (jointE j = facesE j.thick 0 (j.fs.take 0) (j.fs.drop 0)) := by unfold jointE; rw [H1.out, t1, t2, if_neg t3]; rfl
          have t3' : (j.fs.length : Int) ≤ 12 := by omega
          clear t3
          go_enter Tryz.func20, Tryz.ntmps20
          go_wp2_with (first | (go_at_call 41; refine (bIsName_any _ _ hs).mono ?_; rw [H1.out]; rintro e w1 ⟨rfl, rfl⟩) | (go_at_call 42; refine (bWithin_any _ _ _ _).mono ?_; rintro e w1 ⟨rfl, rfl⟩))
          have b1 := Blk.new w 24 (joC j A c)
          have hBB : Below w.heap.size w (w.alloc (.cells (joC j A c) 24)) := (Below.refl _ _).alloc (Nat.le_refl _) _
          go_loopw [4] (fun i wr => ∃ k : Nat, k ≤ j.fs.length ∧ i = .int .i64 k ∧ Hid (jointE j = facesE j.thick k (j.fs.take k) (j.fs.drop k)) ∧ Blk wr w.heap.size 24 (joC j A c) ∧ Below w.heap.size w wr) (fun i _ => j.fs.length - (intOf i).toNat)
          case atStart => exact ⟨0, Nat.zero_le _, rfl, HE, b1, hBB⟩
          case round =>
            clear b1 hBB HE
            obtain ⟨k, hk, rfl, HI, b1, hBB⟩ := hrel
            obtain ⟨q0, q1, q2, q3⟩ := jo_cells b1
            have hsr := Below.size hBB
            have lb := b1.lt
            by_cases hlt : k < j.fs.length
            · obtain ⟨g, o, hA, hg, c0, c1, c2, c3, c4⟩ := faceCells (hR.below hBB hB) hlt
              subst hA
              have hsz : j.fs[k].1.size ≤ 1000000000000 := hfs _ (List.getElem_mem hlt)
              have lg : g < wr.heap.size := by omega
              have hkc : k ≤ c := by omega
              have hkc1 : (k : Int) ≤ (c : Int) := by omega
              have hkc0 : (0 : Int) ≤ (k : Int) := by omega
              have HS := Lib.hid (HI.out.trans (facesE_step (thick := j.thick) hlt))
              have HAN : Hid (∀ m (h : m < k), sameB (j.fs[m]'(by omega)).1 j.fs[k].1 = true → (j.fs.take k).any (fun p => sameB p.1 j.fs[k].1) = true) := Lib.hid fun m h hh => by
                rw [List.any_eq_true]
                exact ⟨j.fs[m]'(by omega), by rw [List.mem_take_iff_getElem]; exact ⟨m, by omega, rfl⟩, hh⟩
              have HK1 : Hid (j.fs[k] = (j.fs[k].1, j.fs[k].2)) := Lib.hid rfl
              cases hN : nameB j.fs[k].1
              · have HN := Lib.hid hN; clear hN
                have HJ : Hid (jointE j = ((k : Int), 4)) := by
                  have hf : faceE (j.fs.take k) j.fs[k].1 j.fs[k].2 j.thick = 4 := by unfold faceE; rw [HN.out]; rfl
                  exact Lib.hid (by rw [HS.out, if_neg (by rw [hf]; omega), hf])
                go_wp2_with fail
                refine (bIsName_any _ _ hsz).mono ?_
                rw [HN.out]
                rintro e w1 ⟨rfl, rfl⟩
                go_wp2
                go_ret2
                exact ⟨by rw [HJ.out]; rfl, (by repeat (first | (with_reducible exact Below.refl _ _) | (with_reducible assumption) | ((with_reducible refine Below.setCell ?_ ?_ _); rotate_left; · (first | exact Nat.le_refl _ | (simp; done) | (simp; omega) | omega)) | ((with_reducible refine Below.alloc ?_ ?_ _); rotate_left; · (first | exact Nat.le_refl _ | (simp; done) | (simp; omega) | omega)) | (with_reducible apply Below.drew) | (with_reducible apply below_drewN') | (refine Below.trans ?_ (Below.mono (by assumption) (by first | exact Nat.le_refl _ | (simp; done) | (simp; omega) | omega))) | exact Below.refl _ _ | assumption))⟩
              · have HN := Lib.hid hN; clear hN
                go_wp2_with fail
                refine (bIsName_any _ _ hsz).mono ?_
                rw [HN.out]
                rintro e w1 ⟨rfl, rfl⟩
                have bf : Blk _ wr.heap.size 100 (fcC j.fs[k].1 j.fs[k].2) := Blk.new wr 100 #[.string j.fs[k].1, .int .i64 j.fs[k].2.fx, .int .i64 j.fs[k].2.fz, .int .i64 j.fs[k].2.tx, .int .i64 j.fs[k].2.tz]
                have bj := b1.alloc (.cells #[.string j.fs[k].1, .int .i64 j.fs[k].2.fx, .int .i64 j.fs[k].2.fz, .int .i64 j.fs[k].2.tx, .int .i64 j.fs[k].2.tz] 100 (0, 0))
                have hB2 := hBB.alloc hsr (.cells #[.string j.fs[k].1, .int .i64 j.fs[k].2.fx, .int .i64 j.fs[k].2.fz, .int .i64 j.fs[k].2.tx, .int .i64 j.fs[k].2.tz] 100 (0, 0))
                generalize wr.alloc (.cells #[.string j.fs[k].1, .int .i64 j.fs[k].2.fx, .int .i64 j.fs[k].2.fz, .int .i64 j.fs[k].2.tx, .int .i64 j.fs[k].2.tz] 100 (0, 0)) = w1 at *
                have hs2 := Below.size hB2
                have lf := bf.lt
                clear c0 c1 c2 c3 c4 q0 q1 q2 q3 b1 hBB
                go_wp2
                go_loopw [6] (fun n wx => ∃ m : Nat, m ≤ k ∧ n = .int .i64 m ∧ Hid ((j.fs.take m).any (fun p => sameB p.1 j.fs[k].1) = false) ∧ Below w1.heap.size w1 wx) (fun n _ => k - (intOf n).toNat)
                case atStart => exact ⟨0, Nat.zero_le _, rfl, rfl, Below.refl _ _⟩
                case round =>
                  obtain ⟨m, hm, rfl, HM, hBx⟩ := hrel
                  have bfx := bf.below hBx lf
                  have bjx := bj.below hBx bj.lt
                  have hB3 := hB2.trans (hBx.mono hs2)
                  have hs3 := Below.size hB3
                  have lfx := bfx.lt
                  have ljx := bjx.lt
                  obtain ⟨q0, q1, q2, q3⟩ := jo_cells bjx
                  obtain ⟨d0, d1, d2, d3, d4⟩ := fc_cells bfx
                  by_cases hlm : m < k
                  · have hmf : m < j.fs.length := by omega
                    obtain ⟨g', o', hA', hg', e0, _⟩ := faceCells (hR.below hB3 hB) hmf
                    cases hA'
                    have lgx : g < wr.heap.size := by omega
                    have k0 : (0 : Int) ≤ (m : Int) := by omega
                    have k1 : (m : Int) < (j.fs.length : Int) := by omega
                    have k2 : (m : Int) < (k : Int) := by omega
                    have HT := Lib.hid (any_take_snoc j.fs m hmf (fun p => sameB p.1 j.fs[k].1))
                    have HAM := Lib.hid (HAN.out m hlm)
                    cases hq : sameB j.fs[m].1 j.fs[k].1
                    · have HQ := Lib.hid hq
                      unfold sameB at hq
                      go_wp2_with fail
                      refine wp_region_b 9 (by kernel_rfl) (by kernel_rfl) ?_; simp only [List.take, List.drop]
                      repeat (first
                        | (apply StepsD.run
                           · go_simp
                             done
                           · intro w' hS K hK
                             have hc := (bcell hS).1
                             have hf := (bcell hS).2
                             have hz := hS.size
                             try simp at hz
                             go_simp
                             try go_bits
                             first
                               | exact hK _ hS
                               | exact hK _ (by repeat (first | (with_reducible exact Below.refl _ _) | (with_reducible assumption) | ((with_reducible refine Below.setCell ?_ ?_ _); rotate_left; · (first | exact Nat.le_refl _ | (simp; done) | (simp; omega) | omega)) | ((with_reducible refine Below.alloc ?_ ?_ _); rotate_left; · (first | exact Nat.le_refl _ | (simp; done) | (simp; omega) | omega)) | (with_reducible apply Below.drew) | (with_reducible apply below_drewN') | (refine Below.trans ?_ (Below.mono (by assumption) (by first | exact Nat.le_refl _ | (simp; done) | (simp; omega) | omega))) | exact Below.refl _ _ | assumption))
                           · simp [Act.put]
                             done)
                        | (apply StepsD.pass
                           · first | (go_simp; done) | rfl
                           · simp only [Act.put, List.setIfInBounds_toArray, List.set_cons_succ, List.set_cons_zero]
                             rfl))
                      refine StepsD.done ?_
                      intro w4 hS
                      go_wp2
                      go_roundw
                      case rel => exact ⟨m + 1, by omega, by go_num, Lib.hid (by rw [HT.out, HM.out, HQ.out]; rfl), hBx.trans (hS.mono (Below.size hBx))⟩
                      case measure => simp [intOf]; omega
                    · have HQ := Lib.hid hq
                      have HJ : Hid (jointE j = ((k : Int), 5)) := by
                        have hf : faceE (j.fs.take k) j.fs[k].1 j.fs[k].2 j.thick = 5 := by unfold faceE; rw [HN.out, HAM.out HQ.out]; rfl
                        exact Lib.hid (by rw [HS.out, if_neg (by rw [hf]; omega), hf])
                      unfold sameB at hq
                      go_wp2_with fail
                      refine wp_region_b 9 (by kernel_rfl) (by kernel_rfl) ?_; simp only [List.take, List.drop]
                      repeat (first
                        | (apply StepsD.run
                           · go_simp
                             done
                           · intro w' hS K hK
                             have hc := (bcell hS).1
                             have hf := (bcell hS).2
                             have hz := hS.size
                             try simp at hz
                             go_simp
                             try go_bits
                             first
                               | exact hK _ hS
                               | exact hK _ (by repeat (first | (with_reducible exact Below.refl _ _) | (with_reducible assumption) | ((with_reducible refine Below.setCell ?_ ?_ _); rotate_left; · (first | exact Nat.le_refl _ | (simp; done) | (simp; omega) | omega)) | ((with_reducible refine Below.alloc ?_ ?_ _); rotate_left; · (first | exact Nat.le_refl _ | (simp; done) | (simp; omega) | omega)) | (with_reducible apply Below.drew) | (with_reducible apply below_drewN') | (refine Below.trans ?_ (Below.mono (by assumption) (by first | exact Nat.le_refl _ | (simp; done) | (simp; omega) | omega))) | exact Below.refl _ _ | assumption))
                           · simp [Act.put]
                             done)
                        | (apply StepsD.pass
                           · first | (go_simp; done) | rfl
                           · simp only [Act.put, List.setIfInBounds_toArray, List.set_cons_succ, List.set_cons_zero]
                             rfl))
                      refine StepsD.done ?_
                      intro w4 hS
                      go_wp2
                      go_ret2
                      exact ⟨by rw [HJ.out]; rfl, hB3.trans (hS.mono hs3)⟩
                  · obtain rfl : m = k := by omega
                    have HF := Lib.hid (faceE_ref (j.fs.take m) j.fs[m].1 j.fs[m].2 j.thick HN.out HM.out)
                    have HFV := HF
                    cases p1 : (wi j.fs[m].2.fx (-20000) 20000 && wi j.fs[m].2.fz 0 j.thick)
                    · have P1 := Lib.hid p1
                      have HJ : Hid (jointE j = ((m : Int), 2)) := by
                        have hf : faceE (j.fs.take m) j.fs[m].1 j.fs[m].2 j.thick = 2 := by rw [HF.out, P1.out]; rfl
                        exact Lib.hid (by rw [HS.out, if_neg (by rw [hf]; omega), hf])
                      clear p1
                      go_wp2_with fail
                      refine (rIsPlace_any _ _ _ _).mono ?_
                      rw [P1.out]
                      rintro e w5 ⟨rfl, hB5⟩
                      go_wp2
                      go_ret2
                      exact ⟨by rw [HJ.out]; rfl, hB3.trans (hB5.mono hs3)⟩
                    · have P1 := Lib.hid p1
                      cases p2 : (wi j.fs[m].2.tx (-20000) 20000 && wi j.fs[m].2.tz 0 j.thick)
                      · have P2 := Lib.hid p2
                        have HJ : Hid (jointE j = ((m : Int), 2)) := by
                          have hf : faceE (j.fs.take m) j.fs[m].1 j.fs[m].2 j.thick = 2 := by rw [HF.out, P1.out, P2.out]; rfl
                          exact Lib.hid (by rw [HS.out, if_neg (by rw [hf]; omega), hf])
                        clear p1 p2
                        go_wp2_with fail
                        refine (rIsPlace_any _ _ _ _).mono ?_
                        rw [P1.out]
                        rintro e w5 ⟨rfl, hB5⟩
                        have bf5 := bfx.below hB5 lfx
                        have bj5 := bjx.below hB5 ljx
                        have hB7 := hB3.trans (hB5.mono hs3)
                        have hs7 := Below.size hB7
                        have lf5 := bf5.lt
                        have lj5 := bj5.lt
                        clear q0 q1 q2 q3 d0 d1 d2 d3 d4 hB3 hB5 bfx bjx hs3 lfx ljx
                        obtain ⟨q0, q1, q2, q3⟩ := jo_cells bj5
                        obtain ⟨d0, d1, d2, d3, d4⟩ := fc_cells bf5
                        go_wp2_with fail
                        refine (rIsPlace_any _ _ _ _).mono ?_
                        rw [P2.out]
                        rintro e w6 ⟨rfl, hB6⟩
                        go_wp2
                        go_ret2
                        exact ⟨by rw [HJ.out]; rfl, hB7.trans (hB6.mono hs7)⟩
                      · have P2 := Lib.hid p2
                        have HF2 : Hid (faceE (j.fs.take m) j.fs[m].1 j.fs[m].2 j.thick = if j.fs[m].2.fx = j.fs[m].2.tx ∧ j.fs[m].2.fz = j.fs[m].2.tz then 11 else 0) := Lib.hid (by rw [HF.out, P1.out, P2.out]; rfl)
                        clear p1 p2
                        by_cases e1 : j.fs[m].2.fx = j.fs[m].2.tx
                        · by_cases e2 : j.fs[m].2.fz = j.fs[m].2.tz
                          · have g1 : (j.fs[m].2.fx == j.fs[m].2.tx) = true := by simpa using e1
                            have g2 : (j.fs[m].2.fz == j.fs[m].2.tz) = true := by simpa using e2
                            have HJ : Hid (jointE j = ((m : Int), 11)) := by
                              have hf : faceE (j.fs.take m) j.fs[m].1 j.fs[m].2 j.thick = 11 := by rw [HF2.out, if_pos ⟨e1, e2⟩]
                              exact Lib.hid (by rw [HS.out, if_neg (by rw [hf]; omega), hf])
                            clear e1 e2
                            go_wp2_with fail
                            refine (rIsPlace_any _ _ _ _).mono ?_
                            rw [P1.out]
                            rintro e w5 ⟨rfl, hB5⟩
                            have bf5 := bfx.below hB5 lfx
                            have bj5 := bjx.below hB5 ljx
                            have hB7 := hB3.trans (hB5.mono hs3)
                            have hs7 := Below.size hB7
                            have lf5 := bf5.lt
                            have lj5 := bj5.lt
                            clear q0 q1 q2 q3 d0 d1 d2 d3 d4 hB3 hB5 bfx bjx hs3 lfx ljx
                            obtain ⟨q0, q1, q2, q3⟩ := jo_cells bj5
                            obtain ⟨d0, d1, d2, d3, d4⟩ := fc_cells bf5
                            go_wp2_with fail
                            refine (rIsPlace_any _ _ _ _).mono ?_
                            rw [P2.out]
                            rintro e w6 ⟨rfl, hB6⟩
                            have bf6 := bf5.below hB6 lf5
                            have bj6 := bj5.below hB6 lj5
                            have hB8 := hB7.trans (hB6.mono hs7)
                            have lf6 := bf6.lt
                            clear q0 q1 q2 q3 d0 d1 d2 d3 d4 hB6 hB7 bf5 bj5
                            obtain ⟨d0, d1, d2, d3, d4⟩ := fc_cells bf6
                            go_wp2
                            go_ret2
                            exact ⟨by rw [HJ.out]; rfl, hB8⟩
                          · have g1 : (j.fs[m].2.fx == j.fs[m].2.tx) = true := by simpa using e1
                            have g2 : (j.fs[m].2.fz == j.fs[m].2.tz) = false := by simpa using e2
                            have HJ : Hid (jointE j = facesE j.thick (m + 1) (j.fs.take (m + 1)) (j.fs.drop (m + 1))) := by
                              have hf : faceE (j.fs.take m) j.fs[m].1 j.fs[m].2 j.thick = 0 := by rw [HF2.out, if_neg (fun h => e2 h.2)]
                              exact Lib.hid (by rw [HS.out, if_pos hf])
                            clear e1 e2
                            go_wp2_with fail
                            refine (rIsPlace_any _ _ _ _).mono ?_
                            rw [P1.out]
                            rintro e w5 ⟨rfl, hB5⟩
                            have bf5 := bfx.below hB5 lfx
                            have bj5 := bjx.below hB5 ljx
                            have hB7 := hB3.trans (hB5.mono hs3)
                            have hs7 := Below.size hB7
                            have lf5 := bf5.lt
                            have lj5 := bj5.lt
                            clear q0 q1 q2 q3 d0 d1 d2 d3 d4 hB3 hB5 bfx bjx hs3 lfx ljx
                            obtain ⟨q0, q1, q2, q3⟩ := jo_cells bj5
                            obtain ⟨d0, d1, d2, d3, d4⟩ := fc_cells bf5
                            go_wp2_with fail
                            refine (rIsPlace_any _ _ _ _).mono ?_
                            rw [P2.out]
                            rintro e w6 ⟨rfl, hB6⟩
                            have bf6 := bf5.below hB6 lf5
                            have bj6 := bj5.below hB6 lj5
                            have hB8 := hB7.trans (hB6.mono hs7)
                            have lf6 := bf6.lt
                            clear q0 q1 q2 q3 d0 d1 d2 d3 d4 hB6 hB7 bf5 bj5
                            obtain ⟨d0, d1, d2, d3, d4⟩ := fc_cells bf6
                            go_wp2
                            go_roundw
                            case rel => exact ⟨m + 1, by omega, by go_num, HJ, bj6, hB8⟩
                            case measure => simp [intOf]; omega
                        · have g1 : (j.fs[m].2.fx == j.fs[m].2.tx) = false := by simpa using e1
                          have HJ : Hid (jointE j = facesE j.thick (m + 1) (j.fs.take (m + 1)) (j.fs.drop (m + 1))) := by
                            have hf : faceE (j.fs.take m) j.fs[m].1 j.fs[m].2 j.thick = 0 := by rw [HF2.out, if_neg (fun h => e1 h.1)]
                            exact Lib.hid (by rw [HS.out, if_pos hf])
                          clear e1
                          go_wp2_with fail
                          refine (rIsPlace_any _ _ _ _).mono ?_
                          rw [P1.out]
                          rintro e w5 ⟨rfl, hB5⟩
                          have bf5 := bfx.below hB5 lfx
                          have bj5 := bjx.below hB5 ljx
                          have hB7 := hB3.trans (hB5.mono hs3)
                          have hs7 := Below.size hB7
                          have lf5 := bf5.lt
                          have lj5 := bj5.lt
                          clear q0 q1 q2 q3 d0 d1 d2 d3 d4 hB3 hB5 bfx bjx hs3 lfx ljx
                          obtain ⟨q0, q1, q2, q3⟩ := jo_cells bj5
                          obtain ⟨d0, d1, d2, d3, d4⟩ := fc_cells bf5
                          go_wp2_with fail
                          refine (rIsPlace_any _ _ _ _).mono ?_
                          rw [P2.out]
                          rintro e w6 ⟨rfl, hB6⟩
                          have bf6 := bf5.below hB6 lf5
                          have bj6 := bj5.below hB6 lj5
                          have hB8 := hB7.trans (hB6.mono hs7)
                          have lf6 := bf6.lt
                          clear q0 q1 q2 q3 d0 d1 d2 d3 d4 hB6 hB7 bf5 bj5
                          obtain ⟨d0, d1, d2, d3, d4⟩ := fc_cells bf6
                          go_wp2
                          go_roundw
                          case rel => exact ⟨m + 1, by omega, by go_num, HJ, bj6, hB8⟩
                          case measure => simp [intOf]; omega
            · obtain rfl : k = j.fs.length := by omega
              have HF : Hid (jointE j = (0, 0)) := Lib.hid (by rw [HI.out, List.drop_length]; rfl)
              go_wp2
              go_ret2
              exact ⟨by rw [HF.out]; rfl, hBB⟩
end Go.Proofs.YtlnkgjkjdllckaaGreatDoor
