/- Contract: whether a set-up meets a point. -/
import Derived.Test.YtfbnpfhnffahdaaGreatDoorCvI
namespace Go.Proofs.YtfbnpfhnffahdaaGreatDoor
open Go.RowKit

theorem metW_ok {wv wz dx az : Int} {s : Su} (bwv : -60000 ≤ wv ∧ wv ≤ 60000) (bwz : -60000 ≤ wz ∧ wz ≤ 60000) (bdx : -60000 ≤ dx ∧ dx ≤ 60000) (baz : -60000 ≤ az ∧ az ≤ 60000) (h1 : -1 ≤ s.side ∧ s.side ≤ 1)
    (h2 : 0 ≤ s.ln ∧ s.ln ≤ 100) (h3 : 0 ≤ s.ld ∧ s.ld ≤ 100) (h4 : 0 ≤ s.mn ∧ s.mn ≤ 100) (h5 : 0 ≤ s.md ∧ s.md ≤ 100) (h6 : 0 ≤ s.tn ∧ s.tn ≤ 100) (h7 : 0 ≤ s.td ∧ s.td ≤ 100) : (metW wv wz dx az s).ok := by
  by_cases hk : wv * az - wz * dx = 0
  · have : metW wv wz dx az s = ⟨0, 1, 1, 1, true, false⟩ := if_pos hk
    rw [this]
    exact ⟨by simp [NN], by simp [NN], by simp [NN], by simp [NN]⟩
  · rw [metW_no hk]
    have v1 := mul_bd s.side dx 1 60000 (by omega) bdx
    have v2 := mul_bd s.side wv 1 60000 (by omega) bwv
    generalize s.side * dx = X at *
    generalize s.side * wv = Y at *
    have b1 := mul_bd X s.ld 60000 100 (by omega) (by omega)
    have b2 := mul_bd Y s.ld 60000 100 (by omega) (by omega)
    have b3 := mul_bd az s.ln 60000 100 (by omega) (by omega)
    have b4 := mul_bd wz s.ln 60000 100 (by omega) (by omega)
    have c1 := mul_bd X s.md 60000 100 (by omega) (by omega)
    have c2 := mul_bd Y s.md 60000 100 (by omega) (by omega)
    have c3 := mul_bd az s.mn 60000 100 (by omega) (by omega)
    have c4 := mul_bd wz s.mn 60000 100 (by omega) (by omega)
    have d1 := mul_bd wv az 60000 60000 (by omega) (by omega)
    have d2 := mul_bd wz dx 60000 60000 (by omega) (by omega)
    have d3 := mul_bd (max (wv * az - wz * dx) (-(wv * az - wz * dx))) s.tn 7200000000 100 (by omega) (by omega)
    have e1 := mul_bd wv dx 60000 60000 (by omega) (by omega)
    have e2 := mul_bd wz az 60000 60000 (by omega) (by omega)
    have e3 := mul_bd (wv * dx + wz * az) s.td 7200000000 100 (by omega) (by omega)
    have e4 := mul_bd (-(wv * dx + wz * az)) s.td 7200000000 100 (by omega) (by omega)
    have f1 := mul_bd wv wv 60000 60000 (by omega) (by omega)
    have f2 := mul_bd wz wz 60000 60000 (by omega) (by omega)
    have f3 := mul_bd (wv * wv + wz * wz) s.td 7200000000 100 (by omega) (by omega)
    have f4 := mul_bd (-(wv * wv + wz * wz)) s.td 7200000000 100 (by omega) (by omega)
    refine PV.cut_ok (PV.cut_ok (PV.cut_ok (PV.cut_ok ⟨by simp [NN], by simp [NN], by simp [NN], by simp [NN]⟩ ?_ ?_) ?_ ?_) ?_ ?_) ?_ ?_
    all_goals omega
theorem metV_ok {thick : Int} {f : Fc} {s : Su} (L : Lim thick f s) : (metV thick f s).ok := by
  obtain ⟨k1, k2, k3, k4, k5, k6, k7, k8, k9, k10, k11, k12, k13⟩ := L
  unfold metV
  split
  · exact metW_ok (by omega) (by omega) (by omega) (by omega) k7 k8 k9 k10 k11 k12 k13
  · exact metW_ok (by omega) (by omega) (by omega) (by omega) k7 k8 k9 k10 k11 k12 k13

theorem ptE_zero {n d : Int} (h : ptE n d = 0) : 0 ≤ n ∧ n ≤ d ∧ 0 < d ∧ d ≤ 1000000000000 ∧ Int.gcd n d = 1 := by
  unfold ptE lowB at h
  split at h
  · rename_i h1
    split at h
    · rename_i h2
      simp at h1
      simp [wi] at h2
      exact ⟨by omega, by omega, by omega, by omega, h1.2⟩
    · simp at h
  · simp at h

/-- Whether a point is met, or the error. -/
def isMetR (j : Jo) (face : Int) (sn : ByteArray) (s : Su) (n d : Int) : Bool × Int :=
  if askE j face sn s = 0 then (if ptE n d = 0 then ((metV j.thick (faceAt j face) s).has n d, 0) else (false, ptE n d)) else (false, askE j face sn s)

set_option maxRecDepth 100000 in
set_option maxHeartbeats 1000000 in
theorem isMet_any (j : Jo) (face : Int) (sn : ByteArray) (s : Su) (n d : Int) (A : Option Addr) (c B : Nat) (w : World) (hj : JoOk j A c B w) (hE : Ends w) (hsn : sn.size ≤ 1000000000000) (hw : s.wf) (hn : I64 n) (hd : I64 d) :
    Calls Tryz.prog 34 #[.agg (joC j A c), .agg (asC face sn s), .agg #[.int .i64 n, .int .i64 d]] w fun e w' => e = .returned (.tuple #[.bool (isMetR j face sn s n d).1, .int .i64 (isMetR j face sn s n d).2]) ∧ Below w.heap.size w w' := by
  obtain ⟨k1, k2, k3, k4, hR, hB⟩ := hj
  have hE1 := Lib.hid hE; clear hE
  unfold joC asC
  by_cases h0 : askE j face sn s = 0
  · have h1 : (askE j face sn s != 0) = false := by simpa using h0
    have L := lim_of h0
    obtain ⟨k, rfl, hk, hfa⟩ := (openFaceE_zero (askE_zero h0).1).2
    have HE : Hid (isMetR j k sn s n d = if ptE n d = 0 then ((metV j.thick (faceAt j k) s).has n d, 0) else (false, ptE n d)) := by unfold isMetR; rw [if_pos h0]; rfl
    have H0 := Lib.hid h0; have HF := Lib.hid hfa; clear h0 hfa
    by_cases p0 : ptE n d = 0
    · have p1 : (ptE n d != 0) = false := by simpa using p0
      have HP : Hid (isMetR j k sn s n d = ((metV j.thick (faceAt j k) s).has n d, 0)) := by rw [HE.out, if_pos p0]; rfl
      have hok := metV_ok L
      obtain ⟨z1, z2, z3, z4, _⟩ := ptE_zero p0
      clear p0
      go_enter Tryz.func34, Tryz.ntmps34
      go_wp2_with fail
      refine (openAsk_any j k sn s A c B _ k1 k2 k3 k4 (((hR.alloc hB _).alloc (by simp; omega) _).alloc (by simp; omega) _) (by simp; omega) hsn hw).mono ?_
      rintro e w1 ⟨rfl, hB1⟩; obtain ⟨hc1, hf1⟩ := bcell hB1; have hz1 := hB1.size; (try simp at hz1)
      obtain ⟨g, o, hA, hg, c0, c1, c2, c3, c4⟩ := faceCells ((((hR.alloc hB _).alloc (by simp; omega) _).alloc (by simp; omega) _).below hB1 (by simp; omega)) hk
      subst hA
      have b3 : Blk w1 w.heap.size 24 (joC j (some ⟨g, o, none⟩) c) := by refine Blk.below ?_ hB1 (by first | (simp; done) | (simp; omega)); exact (by repeat (first | assumption | apply Blk.drew | (refine Blk.new' _ _ _ ?_; first | rfl | (simp; done) | (simp; omega)) | (refine Blk.alloc ?_ _)))
      have b4 : Blk w1 (w.heap.size + 1) 46 (asC k sn s) := by refine Blk.below ?_ hB1 (by first | (simp; done) | (simp; omega)); exact (by repeat (first | assumption | apply Blk.drew | (refine Blk.new' _ _ _ ?_; first | rfl | (simp; done) | (simp; omega)) | (refine Blk.alloc ?_ _)))
      have b5 : Blk w1 (w.heap.size + 1 + 1) 49 #[.int .i64 n, .int .i64 d] := by refine Blk.below ?_ hB1 (by first | (simp; done) | (simp; omega)); exact (by repeat (first | assumption | apply Blk.drew | (refine Blk.new' _ _ _ ?_; first | rfl | (simp; done) | (simp; omega)) | (refine Blk.alloc ?_ _)))
      have hBB : Below w.heap.size w w1 := (by repeat (first | (with_reducible exact Below.refl _ _) | (with_reducible assumption) | ((with_reducible refine Below.setCell ?_ ?_ _); rotate_left; · (first | exact Nat.le_refl _ | (simp; done) | (simp; omega) | omega)) | ((with_reducible refine Below.alloc ?_ ?_ _); rotate_left; · (first | exact Nat.le_refl _ | (simp; done) | (simp; omega) | omega)) | (with_reducible apply Below.drew) | (with_reducible apply below_drewN') | (refine Below.trans ?_ (Below.mono (by assumption) (by first | exact Nat.le_refl _ | (simp; done) | (simp; omega) | omega))) | exact Below.refl _ _ | assumption))
      clear hc1 hf1 hB1
      have b50 := b5.cell 0; have b51 := b5.cell 1
      simp at b50 b51
      go_wp2_with fail
      refine (pointErr_any n d hn hd _).mono ?_
      rintro e w2 ⟨rfl, hB2⟩
      have e3 := b3.below hB2 b3.lt
      have e4 := b4.below hB2 b4.lt
      have e5 := b5.below hB2 b5.lt
      have hz2 := hB2.size
      have lg : g < w2.heap.size := by omega
      have eB : Below w.heap.size w w2 := Below.trans hBB (hB2.mono (Below.size hBB))
      have x0 := (hB2.cell (p := ⟨g, o + k * 5, none⟩) (by simp; omega)).trans c0
      have x1 := (hB2.cell (p := ⟨g, o + k * 5 + 1, none⟩) (by simp; omega)).trans c1
      have x2 := (hB2.cell (p := ⟨g, o + k * 5 + 2, none⟩) (by simp; omega)).trans c2
      have x3 := (hB2.cell (p := ⟨g, o + k * 5 + 3, none⟩) (by simp; omega)).trans c3
      have x4 := (hB2.cell (p := ⟨g, o + k * 5 + 4, none⟩) (by simp; omega)).trans c4
      have hEw : Hid (Ends w2) := hE1.out.below eB
      obtain ⟨q0, q1, q2, q3⟩ := jo_cells e3
      obtain ⟨r0, r1, r2, r3, r4, r5, r6, r7, r8, r9, r10⟩ := as_cells e4
      have e50 : w2.cell? ⟨w.heap.size + 1 + 1, 0, none⟩ = some (.int .i64 n) := e5.cell 0
      have e51 : w2.cell? ⟨w.heap.size + 1 + 1, 1, none⟩ = some (.int .i64 d) := e5.cell 1
      have l3 := e3.lt; have l4 := e4.lt; have l5 := e5.lt
      clear b3 b4 b5 b50 b51 c0 c1 c2 c3 c4 hBB hB2 hE1 k1 k2 hR
      have hkc1 : (k : Int) < (j.fs.length : Int) := by omega
      have hkc0 : (0 : Int) ≤ (k : Int) := by omega
      go_wp2_with fail
      refine wp_region_b 13 (by kernel_rfl) (by kernel_rfl) ?_; simp only [List.take, List.drop]
      repeat (first
        | (apply StepsD.run
           · go_simp
             done
           · intro w' hS K hK
             have hc := (bcell hS).1
             have hf := (bcell hS).2
             have hz := hS.size
             try simp at hz
             go_simp
             try go_bits
             first
               | exact hK _ hS
               | (go_at_call 65; refine (met_any j.thick j.fs[k].2 s j.fs[k].1 sn _ (hEw.out.below (hS.mono (Nat.le_refl _))) (by rw [← HF.out]; exact L)).mono ?_; rintro e w1 ⟨rfl, hB1⟩; obtain ⟨hc1, hf1⟩ := bcell hB1; have hz1 := hB1.size; (try simp at hz1); exact hK _ (Below.trans hS (Below.mono hB1 (by first | exact Nat.le_refl _ | (simp; done) | (simp; omega) | omega))))
               | (go_at_call 71; refine (has_any _ (by rw [← HF.out]; exact hok) n d ⟨by omega, by omega⟩ ⟨by omega, by omega⟩ _).mono ?_; rintro e w1 ⟨rfl, hB1⟩; obtain ⟨hc1, hf1⟩ := bcell hB1; have hz1 := hB1.size; (try simp at hz1); exact hK _ (Below.trans hS (Below.mono hB1 (by first | exact Nat.le_refl _ | (simp; done) | (simp; omega) | omega))))
               | exact hK _ (by repeat (first | (with_reducible exact Below.refl _ _) | (with_reducible assumption) | ((with_reducible refine Below.setCell ?_ ?_ _); rotate_left; · (first | exact Nat.le_refl _ | (simp; done) | (simp; omega) | omega)) | ((with_reducible refine Below.alloc ?_ ?_ _); rotate_left; · (first | exact Nat.le_refl _ | (simp; done) | (simp; omega) | omega)) | (with_reducible apply Below.drew) | (with_reducible apply below_drewN') | (refine Below.trans ?_ (Below.mono (by assumption) (by first | exact Nat.le_refl _ | (simp; done) | (simp; omega) | omega))) | exact Below.refl _ _ | assumption))
           · simp [Act.put]
             done)
        | (apply StepsD.pass
           · go_simp
             done
           · simp only [Act.put, List.setIfInBounds_toArray, List.set_cons_succ, List.set_cons_zero]
             rfl))
      refine StepsD.done ?_
      intro w' hS; have hc := (bcell hS).1; have hf := (bcell hS).2; have hz := hS.size; (try simp at hz)
      clear hc hf
      go_wp2
      go_ret2
      exact ⟨by rw [HP.out, HF.out]; rfl, Below.trans eB (hS.mono (Below.size eB))⟩
    · have p1 : (ptE n d != 0) = true := by simpa using p0
      have HP : Hid (isMetR j k sn s n d = (false, ptE n d)) := by rw [HE.out, if_neg p0]; rfl
      clear p0
      go_enter Tryz.func34, Tryz.ntmps34
      go_wp2_with fail
      refine (openAsk_any j k sn s A c B _ k1 k2 k3 k4 (((hR.alloc hB _).alloc (by simp; omega) _).alloc (by simp; omega) _) (by simp; omega) hsn hw).mono ?_
      rintro e w1 ⟨rfl, hB1⟩; obtain ⟨hc1, hf1⟩ := bcell hB1; have hz1 := hB1.size; (try simp at hz1)
      go_wp2_with fail
      refine (pointErr_any n d hn hd _).mono ?_
      rintro e w2 ⟨rfl, hB2⟩
      have eB : Below w.heap.size w w1 := (by repeat (first | (with_reducible exact Below.refl _ _) | (with_reducible assumption) | ((with_reducible refine Below.setCell ?_ ?_ _); rotate_left; · (first | exact Nat.le_refl _ | (simp; done) | (simp; omega) | omega)) | ((with_reducible refine Below.alloc ?_ ?_ _); rotate_left; · (first | exact Nat.le_refl _ | (simp; done) | (simp; omega) | omega)) | (with_reducible apply Below.drew) | (with_reducible apply below_drewN') | (refine Below.trans ?_ (Below.mono (by assumption) (by first | exact Nat.le_refl _ | (simp; done) | (simp; omega) | omega))) | exact Below.refl _ _ | assumption))
      go_wp2
      go_ret2
      exact ⟨by rw [HP.out]; rfl, Below.trans eB (hB2.mono (Below.size eB))⟩
  · have h1 : (askE j face sn s != 0) = true := by simpa using h0
    have HE : Hid (isMetR j face sn s n d = (false, askE j face sn s)) := by unfold isMetR; rw [if_neg h0]; rfl
    have H0 := Lib.hid h0; clear h0
    go_enter Tryz.func34, Tryz.ntmps34
    go_wp2_with fail
    refine (openAsk_any j face sn s A c B _ k1 k2 k3 k4 (((hR.alloc hB _).alloc (by simp; omega) _).alloc (by simp; omega) _) (by simp; omega) hsn hw).mono ?_
    rintro e w1 ⟨rfl, hB1⟩; obtain ⟨hc1, hf1⟩ := bcell hB1; have hz1 := hB1.size; (try simp at hz1)
    go_wp2
    go_ret2
    exact ⟨by rw [HE.out]; rfl, (by repeat (first | (with_reducible exact Below.refl _ _) | (with_reducible assumption) | ((with_reducible refine Below.setCell ?_ ?_ _); rotate_left; · (first | exact Nat.le_refl _ | (simp; done) | (simp; omega) | omega)) | ((with_reducible refine Below.alloc ?_ ?_ _); rotate_left; · (first | exact Nat.le_refl _ | (simp; done) | (simp; omega) | omega)) | (with_reducible apply Below.drew) | (with_reducible apply below_drewN') | (refine Below.trans ?_ (Below.mono (by assumption) (by first | exact Nat.le_refl _ | (simp; done) | (simp; omega) | omega))) | exact Below.refl _ _ | assumption))⟩
end Go.Proofs.YtfbnpfhnffahdaaGreatDoor
