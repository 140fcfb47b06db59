/- Contract: the set-up with a text (cover.ParseSetup). -/
import Derived.Test.YtkbggcencmjgfaaGreatDoorCkB
namespace Go.Proofs.YtkbggcencmjgfaaGreatDoor
open Go.RowKit Go.Lib

theorem blkX {w : World} {g t : Nat} {v0 v1 v2 v3 v4 v5 v6 v7 v8 v9 : Value} (h : Blk w g t #[v0, v1, v2, v3, v4, v5, v6, v7, v8, v9]) :
    w.cell? ⟨g, 0, none⟩ = some v0 ∧ w.cell? ⟨g, 1, none⟩ = some v1 ∧ w.cell? ⟨g, 2, none⟩ = some v2 ∧ w.cell? ⟨g, 3, none⟩ = some v3 ∧ w.cell? ⟨g, 4, none⟩ = some v4 ∧ w.cell? ⟨g, 5, none⟩ = some v5 ∧ w.cell? ⟨g, 6, none⟩ = some v6 ∧ w.cell? ⟨g, 7, none⟩ = some v7 ∧ w.cell? ⟨g, 8, none⟩ = some v8 ∧ w.cell? ⟨g, 9, none⟩ = some v9 ∧ ∀ i, w.frozen? ⟨g, i, none⟩ = false :=
  ⟨h.cell 0, h.cell 1, h.cell 2, h.cell 3, h.cell 4, h.cell 5, h.cell 6, h.cell 7, h.cell 8, h.cell 9, h.frozen⟩
theorem blk_putX {w : World} {g t : Nat} {v0 v1 v2 v3 v4 v5 v6 v7 v8 v9 : Value} (h : Blk w g t #[v0, v1, v2, v3, v4, v5, v6, v7, v8, v9]) (u0 u1 u2 u3 u4 u5 u6 u7 u8 u9 : Value) :
    Blk ((((((((((w.setCell ⟨g, 0, none⟩ u0).setCell ⟨g, 1, none⟩ u1).setCell ⟨g, 2, none⟩ u2).setCell ⟨g, 3, none⟩ u3).setCell ⟨g, 4, none⟩ u4).setCell ⟨g, 5, none⟩ u5).setCell ⟨g, 6, none⟩ u6).setCell ⟨g, 7, none⟩ u7).setCell ⟨g, 8, none⟩ u8).setCell ⟨g, 9, none⟩ u9) g t #[u0, u1, u2, u3, u4, u5, u6, u7, u8, u9] := by
  have e := (((((((((h.set_ 0 u0).set_ 1 u1).set_ 2 u2).set_ 3 u3).set_ 4 u4).set_ 5 u5).set_ 6 u6).set_ 7 u7).set_ 8 u8).set_ 9 u9
  simp only [List.setIfInBounds_toArray, List.set_cons_zero, List.set_cons_succ] at e
  exact e
theorem setX_below {B : Nat} {a w : World} {g : Nat} (h : Below B a w) (hg : B ≤ g) (u0 u1 u2 u3 u4 u5 u6 u7 u8 u9 : Value) :
    Below B a ((((((((((w.setCell ⟨g, 0, none⟩ u0).setCell ⟨g, 1, none⟩ u1).setCell ⟨g, 2, none⟩ u2).setCell ⟨g, 3, none⟩ u3).setCell ⟨g, 4, none⟩ u4).setCell ⟨g, 5, none⟩ u5).setCell ⟨g, 6, none⟩ u6).setCell ⟨g, 7, none⟩ u7).setCell ⟨g, 8, none⟩ u8).setCell ⟨g, 9, none⟩ u9) :=
  (((((((((h.setCell (by simpa using hg) u0).setCell (by simpa using hg) u1).setCell (by simpa using hg) u2).setCell (by simpa using hg) u3).setCell (by simpa using hg) u4).setCell (by simpa using hg) u5).setCell (by simpa using hg) u6).setCell (by simpa using hg) u7).setCell (by simpa using hg) u8).setCell (by simpa using hg) u9
theorem cutB_at (s : ByteArray) (c : UInt8) {j : Nat} (h : j < (cutL c s.data.toList).length) : (strsC (cutB c s)).toArray[j]? = some (.string (strB (cutL c s.data.toList)[j])) := by
  rw [List.getElem?_toArray, strsC, List.getElem?_map, cutB_eq, List.getElem?_map, List.getElem?_eq_getElem h]
  rfl
theorem cutB_len (s : ByteArray) (c : UInt8) : (cutB c s).length = (cutL c s.data.toList).length := by rw [cutB_eq, List.length_map]
theorem nmOf_at (s : ByteArray) : ∃ h : 0 < (cutL 32 s.data.toList).length, strB (cutL 32 s.data.toList)[0] = nmOf s := by
  have hne := cutL_ne 32 s.data.toList
  unfold nmOf
  cases hc : cutL 32 s.data.toList with
  | nil => exact absurd hc hne
  | cons x xs => exact ⟨by simp, rfl⟩

set_option maxRecDepth 100000 in
set_option maxHeartbeats 8000000 in
theorem parseSetup_any (s : ByteArray) (hs : s.size ≤ 1000) (w : World) (hL : LibW w) : Calls Tryz.prog 7 #[.string s] w fun e w' => e = .returned (.tuple #[.agg (suC (suP s).1.1 (suP s).1.2), .int .i64 (suP s).2]) ∧ Below w.heap.size w w' := by
  have HL := Lib.hid hL; clear hL
  obtain ⟨hn0, hnm⟩ := nmOf_at s
  have hnms := nmOf_size s
  have HLEN : Hid (∀ h : (cutL 32 s.data.toList).length ≠ 10, suP s = ((⟨#[]⟩, suZ), 7)) := Lib.hid fun h => suP_len h
  have HLINE : Hid (∀ h : (10 : UInt8) ∈ (nmOf s).data.toList, suP s = ((⟨#[]⟩, suZ), 7)) := Lib.hid fun h => suP_line h
  obtain ⟨q, hq⟩ : ∃ q, suP s = q := ⟨_, rfl⟩
  rw [hq] at HLEN HLINE ⊢
  have HQ := Lib.hid hq; clear hq
  have HN := Lib.hid hnm; clear hnm
  have hwl := cutB_len s 32
  have HWL := Lib.hid hwl
  rw [← hwl] at hn0
  clear hwl
  have b0 := Blk.new w 25 (suC ⟨#[]⟩ suZ)
  have hB0 : Below w.heap.size w (w.alloc (.cells (suC ⟨#[]⟩ suZ) 25)) := (by repeat (first | (with_reducible exact Below.refl _ _) | (with_reducible assumption) | ((with_reducible refine Below.setCell ?_ ?_ _); rotate_left; · (first | exact Nat.le_refl _ | (simp; done) | (simp; omega) | omega)) | ((with_reducible refine Below.alloc ?_ ?_ _); rotate_left; · (first | exact Nat.le_refl _ | (simp; done) | (simp; omega) | omega)) | (with_reducible apply Below.drew) | (with_reducible apply below_drewN') | (refine Below.trans ?_ (Below.mono (by assumption) (by first | exact Nat.le_refl _ | (simp; done) | (simp; omega) | omega))) | exact Below.refl _ _ | assumption))
  have HL0 := Lib.hid (HL.out.below hB0 (Nat.le_refl _))
  go_enter Tryz.func7, Tryz.ntmps7
  go_wp2_with fail
  refine (split_any s 32 (by omega) _ HL0.out).mono ?_
  rintro e w1 ⟨rfl, hw1⟩
  have b1 := Blk.new (w.alloc (.cells (suC ⟨#[]⟩ suZ) 25)) 9 (strsC (cutB 32 s)).toArray
  replace b0 := b0.alloc (.cells (strsC (cutB 32 s)).toArray 9)
  have hBB : Below w.heap.size w ((w.alloc (.cells (suC ⟨#[]⟩ suZ) 25)).alloc (.cells (strsC (cutB 32 s)).toArray 9)) := (by repeat (first | (with_reducible exact Below.refl _ _) | (with_reducible assumption) | ((with_reducible refine Below.setCell ?_ ?_ _); rotate_left; · (first | exact Nat.le_refl _ | (simp; done) | (simp; omega) | omega)) | ((with_reducible refine Below.alloc ?_ ?_ _); rotate_left; · (first | exact Nat.le_refl _ | (simp; done) | (simp; omega) | omega)) | (with_reducible apply Below.drew) | (with_reducible apply below_drewN') | (refine Below.trans ?_ (Below.mono (by assumption) (by first | exact Nat.le_refl _ | (simp; done) | (simp; omega) | omega))) | exact Below.refl _ _ | assumption))
  have hz1 : w1.heap.size = w.heap.size + 2 := by rw [hw1]; simp
  have hw1' : (w.alloc (.cells (suC ⟨#[]⟩ suZ) 25)).alloc (.cells (strsC (cutB 32 s)).toArray 9) = w1 := hw1.symm
  rw [hw1'] at b0 b1 hBB
  simp only [World.size_alloc] at b1 ⊢
  clear hw1 hw1' hB0 HL0
  have n0 : w1.cell? ⟨w.heap.size + 1, 0, none⟩ = some (.string (nmOf s)) := by
    rw [b1.cell 0, cutB_at s 32 (by rw [← HWL.out]; exact hn0), HN.out]
  have f1 := b1.frozen
  have b2 := Blk.new w1 25 (suC (nmOf s) (suOf []))
  rw [hz1] at b2
  go_wp2_with fail
  refine (numbersOf_any _ _).mono ?_
  rintro e w2 ⟨g3, rfl, b3, hg3, hB2⟩
  have hz2 := Below.size hB2
  simp only [World.size_alloc, hz1] at hz2 hg3
  have lt0 := b0.lt
  have lt1 := b1.lt
  replace b0 := (b0.alloc (.cells (suC (nmOf s) (suOf [])) 25)).below hB2 (by simp; omega)
  replace b1 := (b1.alloc (.cells (suC (nmOf s) (suOf [])) 25)).below hB2 (by simp; omega)
  replace b2 := b2.below hB2 (by simp; omega)
  replace hBB := (hBB.alloc (by omega) (.cells (suC (nmOf s) (suOf [])) 25)).trans (hB2.mono (by simp; omega))
  clear hB2 n0 f1 hz1 lt0 lt1
  by_cases h6 : (cutB 32 s).length = 10
  · have h6' : (((cutB 32 s).length : Int) != 10) = false := by rw [h6]; rfl
    have h6L : (cutL 32 s.data.toList).length = 10 := by rw [← HWL.out]; exact h6
    have H6L := Lib.hid h6L; clear h6L
    have n0 : w2.cell? ⟨w.heap.size + 2, 0, none⟩ = some (.string (nmOf s)) := b2.cell 0
    have lt2 := b2.lt
    have HLW := Lib.hid (HL.out.below hBB (Nat.le_refl _))
    have hcn := contains_one_any (nmOf s) 10 (by omega) _ HLW.out
    by_cases hl : (10 : UInt8) ∈ (nmOf s).data.toList
    · have HE := Lib.hid (HLINE.out hl)
      rw [decide_eq_true hl] at hcn
      have HCN := Lib.hid hcn; clear hcn hl b1 b3
      have f0 := b0.frozen
      obtain ⟨c0, c1, c2, c3, c4, c5, c6, c7, c8, c9, _⟩ := blkX b0
      have lt0 := b0.lt
      go_wp2_with (go_at_call 33; refine HCN.out.mono ?_; rintro e w3 ⟨rfl, rfl⟩)
      have z0 := blk_putX b0 (.string ⟨#[]⟩) (.int .i64 0) (.int .i64 0) (.int .i64 0) (.int .i64 0) (.int .i64 0) (.int .i64 0) (.int .i64 0) (.int .i64 0) (.int .i64 0)
      obtain ⟨u0, u1, u2, u3, u4, u5, u6, u7, u8, u9, _⟩ := blkX z0
      have below_ := setX_below hBB (g := w.heap.size) (Nat.le_refl _) (.string ⟨#[]⟩) (.int .i64 0) (.int .i64 0) (.int .i64 0) (.int .i64 0) (.int .i64 0) (.int .i64 0) (.int .i64 0) (.int .i64 0) (.int .i64 0)
      exact bodyPost_ret (v := .tuple #[.agg #[.string ⟨#[]⟩, .int .i64 0, .int .i64 0, .int .i64 0, .int .i64 0, .int .i64 0, .int .i64 0, .int .i64 0, .int .i64 0, .int .i64 0], .int .i64 7]) (by simp [results, Tryz.results7, go_sem, u0, u1, u2, u3, u4, u5, u6, u7, u8, u9]) rfl ⟨by rw [HE.out]; rfl, by first | exact below_ | exact below_.drew | exact (by repeat (first | (with_reducible exact Below.refl _ _) | (with_reducible assumption) | ((with_reducible refine Below.setCell ?_ ?_ _); rotate_left; · (first | exact Nat.le_refl _ | (simp; done) | (simp; omega) | omega)) | ((with_reducible refine Below.alloc ?_ ?_ _); rotate_left; · (first | exact Nat.le_refl _ | (simp; done) | (simp; omega) | omega)) | (with_reducible apply Below.drew) | (with_reducible apply below_drewN') | (refine Below.trans ?_ (Below.mono (by assumption) (by first | exact Nat.le_refl _ | (simp; done) | (simp; omega) | omega))) | exact Below.refl _ _ | assumption))⟩
    · rw [decide_eq_false hl] at hcn
      have HCN := Lib.hid hcn; clear hcn
      go_wp2_with (go_at_call 33; refine HCN.out.mono ?_; rintro e w3 ⟨rfl, rfl⟩)
      clear n0 lt2 HCN HLW h6'
      have HNL := Lib.hid hl; clear hl
      go_loopw [33] (fun s33 wr => ∃ (k : Nat) (ns : List Int), s33 = .int .i64 k ∧ k ≤ 9 ∧ Hid (ParS s k ns) ∧ Blk wr w.heap.size 25 (suC ⟨#[]⟩ suZ) ∧ Blk wr (w.heap.size + 1) 9 (strsC (cutB 32 s)).toArray ∧ Blk wr (w.heap.size + 2) 25 (suC (nmOf s) (suOf ns)) ∧ Blk wr g3 88 (ptrs (w.heap.size + 2)) ∧ Below w.heap.size w wr) (fun s33 _ => 9 - (RowKit.intOf s33).toNat)
      case atStart => exact ⟨0, [], rfl, by omega, Lib.hid (ParS.start s), b0, b1, b2, b3, hBB⟩
      case round =>
        clear b0 b1 b2 b3 hBB hz2
        obtain ⟨k, ns, rfl, hk, HP, b0, b1, b2, b3, hBB⟩ := hrel
        have hzB := Below.size hBB
        by_cases hlt : k < 9
        · have hlI : (k : Int) < 9 := by omega
          have cpt := ptrs_at b3 hlt
          have lt3 := b3.lt
          have hkl : k + 1 < (cutL 32 s.data.toList).length := by rw [H6L.out]; omega
          have cx := b1.cell (k + 1)
          rw [cutB_at s 32 hkl] at cx
          have HX0 : Hid (numL 9 (cutL 32 s.data.toList)[k + 1] = none → q = ((⟨#[]⟩, suZ), 7)) := Lib.hid fun h => by rw [← HQ.out]; exact suP_bad hkl h
          have HX1 : Hid (∀ v, numL 9 (cutL 32 s.data.toList)[k + 1] = some v → ParS s (k + 1) (ns ++ [v])) := Lib.hid fun v h => HP.out.next hkl h
          have hxs : (cutL 32 s.data.toList)[k + 1].length ≤ 1000 := Nat.le_trans (cutL_size 32 _ _ (List.getElem_mem hkl)) (by rw [size_list]; exact hs)
          generalize (cutL 32 s.data.toList)[k + 1] = x at *
          have hxb : (strB x).size ≤ 100000 := by rw [strB_size]; omega
          have lt1 := b1.lt
          have lt2 := b2.lt
          have lt0 := b0.lt
          have HLW := Lib.hid (HL.out.below hBB (Nat.le_refl _))
          have hrn := readNumber_any (strB x) hxb wr HLW.out
          rw [strB_data] at hrn
          have HRN := Lib.hid hrn; clear hrn
          cases hnum : numL 9 x with
          | none =>
            rw [hnum] at HRN
            have HE := Lib.hid (HX0.out hnum)
            clear hnum HX0 HX1
            go_wp2_with (go_at_call 34; refine HRN.out.mono ?_; rintro e w4 ⟨n, b, rfl, hbb, hnn, hB4⟩; clear hnn; obtain rfl : b = false := hbb; have b0' := b0.below hB4 lt0; have f0 := b0'.frozen; obtain ⟨c0, c1, c2, c3, c4, c5, c6, c7, c8, c9, _⟩ := blkX b0'; have hBB' := hBB.trans (hB4.mono hzB); have lt0' := b0'.lt; clear b0 b1 b2 b3 hBB lt0 lt1 lt2 lt3 cx cpt)
            have z0 := blk_putX b0' (.string ⟨#[]⟩) (.int .i64 0) (.int .i64 0) (.int .i64 0) (.int .i64 0) (.int .i64 0) (.int .i64 0) (.int .i64 0) (.int .i64 0) (.int .i64 0)
            obtain ⟨u0, u1, u2, u3, u4, u5, u6, u7, u8, u9, _⟩ := blkX z0
            have below_ := setX_below hBB' (g := w.heap.size) (Nat.le_refl _) (.string ⟨#[]⟩) (.int .i64 0) (.int .i64 0) (.int .i64 0) (.int .i64 0) (.int .i64 0) (.int .i64 0) (.int .i64 0) (.int .i64 0) (.int .i64 0)
            exact bodyPost_ret (v := .tuple #[.agg #[.string ⟨#[]⟩, .int .i64 0, .int .i64 0, .int .i64 0, .int .i64 0, .int .i64 0, .int .i64 0, .int .i64 0, .int .i64 0, .int .i64 0], .int .i64 7]) (by simp [results, Tryz.results7, go_sem, u0, u1, u2, u3, u4, u5, u6, u7, u8, u9]) rfl ⟨by rw [HE.out]; rfl, by first | exact below_ | exact below_.drew | exact (by repeat (first | (with_reducible exact Below.refl _ _) | (with_reducible assumption) | ((with_reducible refine Below.setCell ?_ ?_ _); rotate_left; · (first | exact Nat.le_refl _ | (simp; done) | (simp; omega) | omega)) | ((with_reducible refine Below.alloc ?_ ?_ _); rotate_left; · (first | exact Nat.le_refl _ | (simp; done) | (simp; omega) | omega)) | (with_reducible apply Below.drew) | (with_reducible apply below_drewN') | (refine Below.trans ?_ (Below.mono (by assumption) (by first | exact Nat.le_refl _ | (simp; done) | (simp; omega) | omega))) | exact Below.refl _ _ | assumption))⟩
          | some v =>
            rw [hnum] at HRN
            have HN2 := Lib.hid (HX1.out v hnum)
            clear hnum HX0 HX1
            have HFR : Hid (∀ w4, Below wr.heap.size wr w4 → w4.frozen? ⟨w.heap.size + 2, k + 1, none⟩ = false ∧ (∃ u, w4.cell? ⟨w.heap.size + 2, k + 1, none⟩ = some u) ∧ Blk (w4.setCell ⟨w.heap.size + 2, k + 1, none⟩ (.int .i64 v)) w.heap.size 25 (suC ⟨#[]⟩ suZ) ∧ Blk (w4.setCell ⟨w.heap.size + 2, k + 1, none⟩ (.int .i64 v)) (w.heap.size + 1) 9 (strsC (cutB 32 s)).toArray ∧ Blk (w4.setCell ⟨w.heap.size + 2, k + 1, none⟩ (.int .i64 v)) (w.heap.size + 2) 25 (suC (nmOf s) (suOf (ns ++ [v]))) ∧ Blk (w4.setCell ⟨w.heap.size + 2, k + 1, none⟩ (.int .i64 v)) g3 88 (ptrs (w.heap.size + 2)) ∧ Below w.heap.size w (w4.setCell ⟨w.heap.size + 2, k + 1, none⟩ (.int .i64 v))) := Lib.hid fun w4 hB4 => by
              have d0 := b0.below hB4 lt0
              have d1 := b1.below hB4 lt1
              have d2 := b2.below hB4 lt2
              have d3 := b3.below hB4 lt3
              have hset := d2.set_ (k + 1) (.int .i64 v)
              rw [suOf_set (nmOf s) HP.out.1 hlt v] at hset
              refine ⟨d2.frozen _, ?_, d0.far (p := ⟨w.heap.size + 2, k + 1, none⟩) (by simp) _, d1.far (p := ⟨w.heap.size + 2, k + 1, none⟩) (by simp) _, hset, d3.far (p := ⟨w.heap.size + 2, k + 1, none⟩) (by simp; omega) _, (hBB.trans (hB4.mono hzB)).setCell (by simp) _⟩
              rw [d2.cell (k + 1)]
              exact ⟨_, Array.getElem?_eq_getElem (by show k + 1 < 10; omega)⟩
            have HLT : Hid (∀ w4, Below wr.heap.size wr w4 → w.heap.size + 2 < w4.heap.size) := Lib.hid fun w4 hB4 => by have := Below.size hB4; omega
            clear b0 b1 b2 b3
            go_wp2_with (go_at_call 34; refine HRN.out.mono ?_; rintro e w4 ⟨n, b, rfl, hbb, hnn, hB4⟩; obtain rfl : b = true := hbb; obtain rfl : n = v := hnn v rfl; obtain ⟨f2, ⟨u2, e2⟩, r0, r1, r2, r3, rB⟩ := HFR.out w4 hB4; have R0 := Lib.hid r0; have R1 := Lib.hid r1; have R2 := Lib.hid r2; have R3 := Lib.hid r3; have RB := Lib.hid rB; have lt2' := HLT.out w4 hB4; clear r0 r1 r2 r3 rB; clear hnn)
            exact ⟨⟨k + 1, _, by go_num, by omega, HN2, R0.out, R1.out, R2.out, R3.out, RB.out⟩, by simp [RowKit.intOf]; omega⟩
        · obtain rfl : k = 9 := by omega
          obtain ⟨S, hS⟩ : ∃ S, suOf ns = S := ⟨_, rfl⟩
          have hwf : S.wf := by rw [← hS]; exact HP.out.wf
          have HM : Hid (q = if setupE (nmOf s) S = 0 then ((nmOf s, S), 0) else ((⟨#[]⟩, suZ), setupE (nmOf s) S)) := Lib.hid (by rw [← HQ.out, suP_done H6L.out HNL.out HP.out, hS])
          rw [hS] at b2
          have hnb : (nmOf s).size ≤ 1000000000000 := by omega
          obtain ⟨nm, hnm⟩ : ∃ nm, nmOf s = nm := ⟨_, rfl⟩
          rw [hnm] at HM b2 hnb
          obtain ⟨ev, hev⟩ : ∃ ev, setupE nm S = ev := ⟨_, rfl⟩
          have HME : Hid (∀ W', Calls Tryz.prog 10 #[.agg (suC nm S)] W' fun e w' => e = .returned (.int .i64 ev) ∧ Below W'.heap.size W' w') := Lib.hid fun W' => by rw [← hev]; exact checkSetup_any nm S W' hnb hwf
          rw [hev] at HM
          clear hS hev hwf hnb hnm b1 b3
          have lt0 := b0.lt
          have lt2 := b2.lt
          have HB2 := Lib.hid b2
          obtain ⟨d0, d1, d2, d3, d4, d5, d6, d7, d8, d9, _⟩ := blkX b2
          clear b2
          by_cases hE0 : ev = 0
          · subst hE0
            have HQM : Hid (q = ((nm, S), 0)) := Lib.hid (by rw [HM.out, if_pos rfl])
            go_wp2_with (go_at_call 10; refine (HME.out _).mono ?_; rintro e w4 ⟨rfl, hB4⟩; have b0' := b0.below hB4 lt0; have b2' := HB2.out.below hB4 lt2; have f0 := b0'.frozen; have hBB' := hBB.trans (hB4.mono hzB); have lt0' := b0'.lt; have lt2' := b2'.lt; clear d0 d1 d2 d3 d4 d5 d6 d7 d8 d9 lt0 lt2 b0 hBB hB4; obtain ⟨c0, c1, c2, c3, c4, c5, c6, c7, c8, c9, _⟩ := blkX b0'; obtain ⟨d0, d1, d2, d3, d4, d5, d6, d7, d8, d9, _⟩ := blkX b2')
            have z0 := blk_putX b0' (.string nm) (.int .i64 S.at_) (.int .i64 S.side) (.int .i64 S.legs) (.int .i64 S.ln) (.int .i64 S.ld) (.int .i64 S.mn) (.int .i64 S.md) (.int .i64 S.tn) (.int .i64 S.td)
            obtain ⟨u0, u1, u2, u3, u4, u5, u6, u7, u8, u9, _⟩ := blkX z0
            have below_ := setX_below hBB' (g := w.heap.size) (Nat.le_refl _) (.string nm) (.int .i64 S.at_) (.int .i64 S.side) (.int .i64 S.legs) (.int .i64 S.ln) (.int .i64 S.ld) (.int .i64 S.mn) (.int .i64 S.md) (.int .i64 S.tn) (.int .i64 S.td)
            exact bodyPost_ret (v := .tuple #[.agg #[.string nm, .int .i64 S.at_, .int .i64 S.side, .int .i64 S.legs, .int .i64 S.ln, .int .i64 S.ld, .int .i64 S.mn, .int .i64 S.md, .int .i64 S.tn, .int .i64 S.td], .int .i64 0]) (by simp [results, Tryz.results7, go_sem, u0, u1, u2, u3, u4, u5, u6, u7, u8, u9]) rfl ⟨by rw [HQM.out]; rfl, by first | exact below_ | exact below_.drew | exact (by repeat (first | (with_reducible exact Below.refl _ _) | (with_reducible assumption) | ((with_reducible refine Below.setCell ?_ ?_ _); rotate_left; · (first | exact Nat.le_refl _ | (simp; done) | (simp; omega) | omega)) | ((with_reducible refine Below.alloc ?_ ?_ _); rotate_left; · (first | exact Nat.le_refl _ | (simp; done) | (simp; omega) | omega)) | (with_reducible apply Below.drew) | (with_reducible apply below_drewN') | (refine Below.trans ?_ (Below.mono (by assumption) (by first | exact Nat.le_refl _ | (simp; done) | (simp; omega) | omega))) | exact Below.refl _ _ | assumption))⟩
          · have HQM : Hid (q = ((⟨#[]⟩, suZ), ev)) := Lib.hid (by rw [HM.out, if_neg hE0])
            have hEn : (ev != 0) = true := by rw [bne_iff_ne]; exact hE0
            have hEz : (ev == 0) = false := beq_eq_false_iff_ne.2 hE0
            clear hE0
            go_wp2_with (go_at_call 10; refine (HME.out _).mono ?_; rintro e w4 ⟨rfl, hB4⟩; have b0' := b0.below hB4 lt0; have f0 := b0'.frozen; have hBB' := hBB.trans (hB4.mono hzB); have lt0' := b0'.lt; clear d0 d1 d2 d3 d4 d5 d6 d7 d8 d9 lt0 lt2 b0 hBB hB4; obtain ⟨c0, c1, c2, c3, c4, c5, c6, c7, c8, c9, _⟩ := blkX b0')
            have z0 := blk_putX b0' (.string ⟨#[]⟩) (.int .i64 0) (.int .i64 0) (.int .i64 0) (.int .i64 0) (.int .i64 0) (.int .i64 0) (.int .i64 0) (.int .i64 0) (.int .i64 0)
            obtain ⟨u0, u1, u2, u3, u4, u5, u6, u7, u8, u9, _⟩ := blkX z0
            have below_ := setX_below hBB' (g := w.heap.size) (Nat.le_refl _) (.string ⟨#[]⟩) (.int .i64 0) (.int .i64 0) (.int .i64 0) (.int .i64 0) (.int .i64 0) (.int .i64 0) (.int .i64 0) (.int .i64 0) (.int .i64 0)
            exact bodyPost_ret (v := .tuple #[.agg #[.string ⟨#[]⟩, .int .i64 0, .int .i64 0, .int .i64 0, .int .i64 0, .int .i64 0, .int .i64 0, .int .i64 0, .int .i64 0, .int .i64 0], .int .i64 ev]) (by simp [results, Tryz.results7, go_sem, u0, u1, u2, u3, u4, u5, u6, u7, u8, u9]) rfl ⟨by rw [HQM.out]; rfl, by first | exact below_ | exact below_.drew | exact (by repeat (first | (with_reducible exact Below.refl _ _) | (with_reducible assumption) | ((with_reducible refine Below.setCell ?_ ?_ _); rotate_left; · (first | exact Nat.le_refl _ | (simp; done) | (simp; omega) | omega)) | ((with_reducible refine Below.alloc ?_ ?_ _); rotate_left; · (first | exact Nat.le_refl _ | (simp; done) | (simp; omega) | omega)) | (with_reducible apply Below.drew) | (with_reducible apply below_drewN') | (refine Below.trans ?_ (Below.mono (by assumption) (by first | exact Nat.le_refl _ | (simp; done) | (simp; omega) | omega))) | exact Below.refl _ _ | assumption))⟩
  · have HE := Lib.hid (HLEN.out (by rw [← HWL.out]; exact h6))
    have h6' : (((cutB 32 s).length : Int) != 10) = true := by rw [bne_iff_ne]; omega
    have f0 := b0.frozen
    obtain ⟨c0, c1, c2, c3, c4, c5, c6, c7, c8, c9, _⟩ := blkX b0
    have lt0 := b0.lt
    clear b1 b3
    go_wp2
    have z0 := blk_putX b0 (.string ⟨#[]⟩) (.int .i64 0) (.int .i64 0) (.int .i64 0) (.int .i64 0) (.int .i64 0) (.int .i64 0) (.int .i64 0) (.int .i64 0) (.int .i64 0)
    obtain ⟨u0, u1, u2, u3, u4, u5, u6, u7, u8, u9, _⟩ := blkX z0
    have below_ := setX_below hBB (g := w.heap.size) (Nat.le_refl _) (.string ⟨#[]⟩) (.int .i64 0) (.int .i64 0) (.int .i64 0) (.int .i64 0) (.int .i64 0) (.int .i64 0) (.int .i64 0) (.int .i64 0) (.int .i64 0)
    exact bodyPost_ret (v := .tuple #[.agg #[.string ⟨#[]⟩, .int .i64 0, .int .i64 0, .int .i64 0, .int .i64 0, .int .i64 0, .int .i64 0, .int .i64 0, .int .i64 0, .int .i64 0], .int .i64 7]) (by simp [results, Tryz.results7, go_sem, u0, u1, u2, u3, u4, u5, u6, u7, u8, u9]) rfl ⟨by rw [HE.out]; rfl, by first | exact below_ | exact below_.drew | exact (by repeat (first | (with_reducible exact Below.refl _ _) | (with_reducible assumption) | ((with_reducible refine Below.setCell ?_ ?_ _); rotate_left; · (first | exact Nat.le_refl _ | (simp; done) | (simp; omega) | omega)) | ((with_reducible refine Below.alloc ?_ ?_ _); rotate_left; · (first | exact Nat.le_refl _ | (simp; done) | (simp; omega) | omega)) | (with_reducible apply Below.drew) | (with_reducible apply below_drewN') | (refine Below.trans ?_ (Below.mono (by assumption) (by first | exact Nat.le_refl _ | (simp; done) | (simp; omega) | omega))) | exact Below.refl _ _ | assumption))⟩
end Go.Proofs.YtkbggcencmjgfaaGreatDoor
