/- Contracts: the part of a face that a set-up meets; whether it meets a point. Contract: whether a set-up meets a point. Contract: the sure part of a face (where nothing is wrong). -/
import Derived.Test.YtaekcfancfoccaaGreatDoorZmZkCvH
namespace Go.Proofs.YtaekcfancfoccaaGreatDoor
open Go.RowKit

theorem facesE_zero {thick : Int} : ∀ (l before : List (ByteArray × Fc)) (i : Nat), (facesE thick i before l).2 = 0 → ∀ k (h : k < l.length), faceE (before ++ l.take k) l[k].1 l[k].2 thick = 0
  | [], before, i, _, k, h => by simp at h
  | p :: l, before, i, h0, k, h => by
    unfold facesE at h0
    split at h0
    · rename_i hz
      cases k with
      | zero => simpa using hz
      | succ k =>
        have := facesE_zero l (before ++ [p]) (i + 1) h0 k (by simpa using h)
        simpa using this
    · rename_i hz
      exact absurd h0 hz
theorem jointE_zero {j : Jo} (h : (jointE j).2 = 0) : 1 ≤ j.thick ∧ j.thick ≤ 20000 ∧ 0 ≤ j.zone ∧ j.zone ≤ 20000 ∧ j.fs.length ≤ 12 ∧ ∀ k (hk : k < j.fs.length), faceE (j.fs.take k) j.fs[k].1 j.fs[k].2 j.thick = 0 := by
  unfold jointE at h
  split at h
  · simp at h
  · split at h
    · simp at h
    · split at h
      · simp at h
      · rename_i h1 h2 h3
        have hz := facesE_zero _ _ _ h
        simp only [List.nil_append] at hz
        simp [wi] at h2
        exact ⟨h2.1.1, h2.1.2, h2.2.1, h2.2.2, by omega, hz⟩
theorem faceE_zero {before : List (ByteArray × Fc)} {nm : ByteArray} {f : Fc} {thick : Int} (h : faceE before nm f thick = 0) :
    -20000 ≤ f.fx ∧ f.fx ≤ 20000 ∧ -20000 ≤ f.tx ∧ f.tx ≤ 20000 ∧ 0 ≤ f.fz ∧ f.fz ≤ thick ∧ 0 ≤ f.tz ∧ f.tz ≤ thick ∧ ¬ (f.fx = f.tx ∧ f.fz = f.tz) := by
  unfold faceE at h
  split at h
  · simp at h
  · split at h
    · simp at h
    · split at h
      · simp at h
      · rename_i h1 h2 h3
        split at h
        · simp at h
        · rename_i h4
          simp [wi] at h3
          exact ⟨by omega, by omega, by omega, by omega, by omega, by omega, by omega, by omega, h4⟩
theorem setupE_zero {nm : ByteArray} {s : Su} (h : setupE nm s = 0) : -20000 ≤ s.at_ ∧ s.at_ ≤ 20000 ∧ (s.side = 1 ∨ s.side = -1) ∧ (s.legs = 1 ∨ s.legs = 2) ∧ tanE s.ln s.ld = 0 ∧ tanE s.mn s.md = 0 ∧ tanE s.tn s.td = 0 ∧ s.ln * s.md ≤ s.mn * s.ld := by
  unfold setupE at h
  split at h
  · simp at h
  · split at h
    · simp at h
    · split at h
      · simp at h
      · rename_i h1 h2 h3
        split at h
        · exact absurd h ‹_›
        · split at h
          · exact absurd h ‹_›
          · split at h
            · exact absurd h ‹_›
            · split at h
              · simp at h
              · rename_i h4 h5 h6 h7
                simp [wi] at h2
                simp [kindB, wi] at h3
                simp only [ne_eq, Decidable.not_not] at h4 h5 h6
                exact ⟨by omega, by omega, by omega, by omega, h4, h5, h6, by omega⟩
def faceAt (j : Jo) (face : Int) : Fc := ((j.fs[face.toNat]?).map (·.2)).getD ⟨0, 0, 0, 0⟩
theorem openFaceE_zero {j : Jo} {face : Int} (h : openFaceE j face = 0) : (jointE j).2 = 0 ∧ ∃ k : Nat, face = k ∧ ∃ hk : k < j.fs.length, faceAt j face = j.fs[k].2 := by
  unfold openFaceE at h
  split at h
  · rename_i h0
    refine ⟨h0, face.toNat, ?_⟩
    simp [wi] at h
    refine ⟨by omega, by omega, ?_⟩
    unfold faceAt
    rw [List.getElem?_eq_getElem (by omega)]
    rfl
  · exact absurd h ‹_›
theorem askE_zero {j : Jo} {face : Int} {sn : ByteArray} {s : Su} (h : askE j face sn s = 0) : openFaceE j face = 0 ∧ setupE sn s = 0 := by
  unfold askE at h
  split at h
  · exact ⟨‹_›, h⟩
  · exact absurd h ‹_›

theorem lim_of {j : Jo} {face : Int} {sn : ByteArray} {s : Su} (h : askE j face sn s = 0) : Lim j.thick (faceAt j face) s := by
  obtain ⟨h1, h2⟩ := askE_zero h
  obtain ⟨h3, k, rfl, hk, he⟩ := openFaceE_zero h1
  obtain ⟨a1, a2, a3, a4, a5, a6⟩ := jointE_zero h3
  obtain ⟨b1, b2, b3, b4, b5, b6, b7, b8, b9⟩ := faceE_zero (a6 k hk)
  obtain ⟨c1, c2, c3, c4, c5, c6, c7, c8⟩ := setupE_zero h2
  have d1 := tanE_zero c5
  have d2 := tanE_zero c6
  have d3 := tanE_zero c7
  rw [he]
  exact ⟨by omega, by omega, by omega, by omega, by omega, by omega, by omega, by omega, by omega, by omega, by omega, by omega, by omega⟩

theorem as_cells {w : World} {g : Nat} {face : Int} {sn : ByteArray} {s : Su} (h : Blk w g 62 (asC face sn s)) :
    w.cell? ⟨g, 0, none⟩ = some (.int .i64 face) ∧ w.cell? ⟨g, 1, none⟩ = some (.string sn) ∧ w.cell? ⟨g, 2, none⟩ = some (.int .i64 s.at_) ∧ w.cell? ⟨g, 3, none⟩ = some (.int .i64 s.side) ∧ w.cell? ⟨g, 4, none⟩ = some (.int .i64 s.legs) ∧
    w.cell? ⟨g, 5, none⟩ = some (.int .i64 s.ln) ∧ w.cell? ⟨g, 6, none⟩ = some (.int .i64 s.ld) ∧ w.cell? ⟨g, 7, none⟩ = some (.int .i64 s.mn) ∧ w.cell? ⟨g, 8, none⟩ = some (.int .i64 s.md) ∧
    w.cell? ⟨g, 9, none⟩ = some (.int .i64 s.tn) ∧ w.cell? ⟨g, 10, none⟩ = some (.int .i64 s.td) :=
  ⟨h.cell 0, h.cell 1, h.cell 2, h.cell 3, h.cell 4, h.cell 5, h.cell 6, h.cell 7, h.cell 8, h.cell 9, h.cell 10⟩

theorem blk4 {w : World} {g t : Nat} {v0 v1 v2 v3 : Value} (h : Blk w g t #[v0, v1, v2, v3]) :
    w.cell? ⟨g, 0, none⟩ = some v0 ∧ w.cell? ⟨g, 1, none⟩ = some v1 ∧ w.cell? ⟨g, 2, none⟩ = some v2 ∧ w.cell? ⟨g, 3, none⟩ = some v3 ∧ ∀ i, w.frozen? ⟨g, i, none⟩ = false :=
  ⟨h.cell 0, h.cell 1, h.cell 2, h.cell 3, h.frozen⟩
theorem Below.set4 {n g : Nat} {a b : World} {u0 u1 u2 u3 : Value} (h : Below n a b) (hg : n ≤ g) :
    Below n a ((((b.setCell ⟨g, 0, none⟩ u0).setCell ⟨g, 1, none⟩ u1).setCell ⟨g, 2, none⟩ u2).setCell ⟨g, 3, none⟩ u3) :=
  (((h.setCell hg _).setCell hg _).setCell hg _).setCell hg _
theorem Blk.set4 {g : Nat} {b : World} {t : TypeId} {v0 v1 v2 v3 : Value} (h : Blk b g t #[v0, v1, v2, v3]) (u0 u1 u2 u3 : Value) :
    Blk ((((b.setCell ⟨g, 0, none⟩ u0).setCell ⟨g, 1, none⟩ u1).setCell ⟨g, 2, none⟩ u2).setCell ⟨g, 3, none⟩ u3) g t #[u0, u1, u2, u3] :=
  (((h.set_ 0 u0).set_ 1 u1).set_ 2 u2).set_ 3 u3

structure PR where
  a : Int
  b : Int
  c : Int
  d : Int
  e : Int
deriving DecidableEq
def prC (r : PR) : Value := .tuple #[.agg #[.int .i64 r.a, .int .i64 r.b, .int .i64 r.c, .int .i64 r.d], .int .i64 r.e]
def toldR (p : PV) : PR := if p.none then ⟨0, 0, 0, 0, 12⟩ else ⟨p.a, p.b, p.c, p.d, 0⟩
theorem told_r (p : PV) (w : World) : Calls Tryz.prog 63 #[.agg (ptP p)] w fun e w' => e = .returned (prC (toldR p)) ∧ Below w.heap.size w w' := by
  refine (told_any p w).mono ?_
  rintro e w' ⟨he, hB⟩
  refine ⟨?_, hB⟩
  rw [he]
  unfold toldR
  split <;> rfl
def partOfR (j : Jo) (face : Int) (sn : ByteArray) (s : Su) : PR := if askE j face sn s = 0 then toldR (metV j.thick (faceAt j face) s) else ⟨0, 0, 0, 0, askE j face sn s⟩

set_option maxRecDepth 100000 in
set_option maxHeartbeats 1000000 in
theorem partOf_any (j : Jo) (face : Int) (sn : ByteArray) (s : Su) (A : Option Addr) (c B : Nat) (w : World) (hj : JoOk j A c B w) (hE : Ends w) (hsn : sn.size ≤ 1000000000000) (hw : s.wf) :
    Calls Tryz.prog 20 #[.agg (joC j A c), .agg (asC face sn s)] w fun e w' => e = .returned (prC (partOfR j face sn s)) ∧ Below w.heap.size w w' := by
  obtain ⟨k1, k2, k3, k4, hR, hB⟩ := hj
  have hE1 := Lib.hid hE; clear hE
  unfold joC asC
  by_cases h0 : askE j face sn s = 0
  · have h1 : (askE j face sn s != 0) = false := by simpa using h0
    have HE : Hid (partOfR j face sn s = toldR (metV j.thick (faceAt j face) s)) := by unfold partOfR; rw [if_pos h0]; rfl
    have L := lim_of h0
    obtain ⟨k, rfl, hk, hfa⟩ := (openFaceE_zero (askE_zero h0).1).2
    have H0 := Lib.hid h0; have HF := Lib.hid hfa; clear h0 hfa
    go_enter Tryz.func20, Tryz.ntmps20
    go_wp2_with fail
    refine (openAsk_any j k sn s A c B _ k1 k2 k3 k4 (((hR.alloc hB _).alloc (by simp; omega) _).alloc (by simp; omega) _) (by simp; omega) hsn hw).mono ?_
    rintro e w1 ⟨rfl, hB1⟩; obtain ⟨hc1, hf1⟩ := bcell hB1; have hz1 := hB1.size; (try simp at hz1)
    obtain ⟨g, o, hA, hg, c0, c1, c2, c3, c4⟩ := faceCells ((((hR.alloc hB _).alloc (by simp; omega) _).alloc (by simp; omega) _).below hB1 (by simp; omega)) hk
    subst hA
    have b3 : Blk w1 w.heap.size 24 (joC j (some ⟨g, o, none⟩) c) := by refine Blk.below ?_ hB1 (by first | (simp; done) | (simp; omega)); exact (by repeat (first | assumption | apply Blk.drew | (refine Blk.new' _ _ _ ?_; first | rfl | (simp; done) | (simp; omega)) | (refine Blk.alloc ?_ _)))
    have b4 : Blk w1 (w.heap.size + 1) 62 (asC k sn s) := by refine Blk.below ?_ hB1 (by first | (simp; done) | (simp; omega)); exact (by repeat (first | assumption | apply Blk.drew | (refine Blk.new' _ _ _ ?_; first | rfl | (simp; done) | (simp; omega)) | (refine Blk.alloc ?_ _)))
    have b5 : Blk w1 (w.heap.size + 1 + 1) 56 #[.int .i64 0, .int .i64 0, .int .i64 0, .int .i64 0] := by refine Blk.below ?_ hB1 (by first | (simp; done) | (simp; omega)); exact (by repeat (first | assumption | apply Blk.drew | (refine Blk.new' _ _ _ ?_; first | rfl | (simp; done) | (simp; omega)) | (refine Blk.alloc ?_ _)))
    have hBB : Below w.heap.size w w1 := (by repeat first | (with_reducible first | exact Below.refl _ _ | assumption) | ((with_reducible first | refine Below.setCell ?_ ?_ _ | refine Below.alloc ?_ ?_ _); rotate_left; · first | exact Nat.le_refl _ | (simp; done) | (simp; omega) | omega) | (with_reducible first | apply Below.drew | apply below_drewN') | refine Below.trans ?_ (Below.mono (by assumption) (by first | exact Nat.le_refl _ | (simp; done) | (simp; omega) | omega)) | exact Below.refl _ _ | assumption)
    have hEw : Hid (Ends w1) := hE1.out.below hBB
    obtain ⟨q0, q1, q2, q3⟩ := jo_cells b3
    obtain ⟨r0, r1, r2, r3, r4, r5, r6, r7, r8, r9, r10⟩ := as_cells b4
    have l3 := b3.lt; have l4 := b4.lt; have l5 := b5.lt
    have lg : g < w1.heap.size := by omega
    clear hc1 hf1 hB1 hE1 k1 k2 hR
    have hkc1 : (k : Int) < (j.fs.length : Int) := by omega
    have hkc0 : (0 : Int) ≤ (k : Int) := by omega
    go_wp2_with fail
    refine wp_region_b 14 (by kernel_rfl) (by kernel_rfl) ?_; simp only [List.take, List.drop]
    repeat (first
      | (apply StepsD.run
         · go_simp
           done
         · intro w' hS K hK
           have hc := (bcell hS).1; have hf := (bcell hS).2; have hz := hS.size; (try simp at hz); go_simp; (try go_bits)
           first
             | exact hK _ hS
             | (go_at_call 62; refine (met_any j.thick j.fs[k].2 s j.fs[k].1 sn _ (hEw.out.below (hS.mono (Nat.le_refl _))) (by rw [← HF.out]; exact L)).mono ?_; rintro e w1 ⟨rfl, hB1⟩; obtain ⟨hc1, hf1⟩ := bcell hB1; have hz1 := hB1.size; (try simp at hz1); exact hK _ (Below.trans hS (Below.mono hB1 (by first | exact Nat.le_refl _ | (simp; done) | (simp; omega) | omega))))
             | (go_at_call 63; refine (told_r _ _).mono ?_; rintro e w1 ⟨rfl, hB1⟩; obtain ⟨hc1, hf1⟩ := bcell hB1; have hz1 := hB1.size; (try simp at hz1); exact hK _ (Below.trans hS (Below.mono hB1 (by first | exact Nat.le_refl _ | (simp; done) | (simp; omega) | omega))))
             | exact hK _ (by repeat first | (with_reducible first | exact Below.refl _ _ | assumption) | ((with_reducible first | refine Below.setCell ?_ ?_ _ | refine Below.alloc ?_ ?_ _); rotate_left; · first | exact Nat.le_refl _ | (simp; done) | (simp; omega) | omega) | (with_reducible first | apply Below.drew | apply below_drewN') | refine Below.trans ?_ (Below.mono (by assumption) (by first | exact Nat.le_refl _ | (simp; done) | (simp; omega) | omega)) | exact Below.refl _ _ | assumption)
         · simp [Act.put]
           done)
      | (apply StepsD.pass
         · first | (go_simp; done) | rfl
         · simp only [Act.put, List.setIfInBounds_toArray, List.set_cons_succ, List.set_cons_zero]
           rfl))
    refine StepsD.done ?_
    intro w' hS; have hc := (bcell hS).1; have hf := (bcell hS).2; have hz := hS.size; (try simp at hz)
    have b6 := b5.below hS l5
    obtain ⟨d0, d1, d2, d3, df⟩ := blk4 b6
    have e6 := Blk.set4 b6 (.int .i64 (toldR (metV j.thick j.fs[k].2 s)).a) (.int .i64 (toldR (metV j.thick j.fs[k].2 s)).b) (.int .i64 (toldR (metV j.thick j.fs[k].2 s)).c) (.int .i64 (toldR (metV j.thick j.fs[k].2 s)).d)
    obtain ⟨y0, y1, y2, y3, _⟩ := blk4 e6
    have hBw : Below w.heap.size w w' := Below.trans hBB (hS.mono (Below.size hBB))
    clear hc hf
    go_wp2
    refine bodyPost_ret (v := prC (toldR (metV j.thick j.fs[k].2 s))) ?_ rfl ⟨by rw [HE.out, HF.out], Below.set4 hBw (by omega)⟩
    simp [results, Tryz.results20, go_sem, y0, y1, y2, y3, prC]
  · have h1 : (askE j face sn s != 0) = true := by simpa using h0
    have HE : Hid (partOfR j face sn s = ⟨0, 0, 0, 0, askE j face sn s⟩) := by unfold partOfR; rw [if_neg h0]; rfl
    have H0 := Lib.hid h0; clear h0
    go_enter Tryz.func20, Tryz.ntmps20
    go_wp2_with fail
    refine (openAsk_any j face sn s A c B _ k1 k2 k3 k4 (((hR.alloc hB _).alloc (by simp; omega) _).alloc (by simp; omega) _) (by simp; omega) hsn hw).mono ?_
    rintro e w1 ⟨rfl, hB1⟩; obtain ⟨hc1, hf1⟩ := bcell hB1; have hz1 := hB1.size; (try simp at hz1)
    go_wp2
    refine bodyPost_ret (v := prC ⟨0, 0, 0, 0, askE j face sn s⟩) ?_ rfl ⟨by rw [HE.out], (by repeat first | (with_reducible first | exact Below.refl _ _ | assumption) | ((with_reducible first | refine Below.setCell ?_ ?_ _ | refine Below.alloc ?_ ?_ _); rotate_left; · first | exact Nat.le_refl _ | (simp; done) | (simp; omega) | omega) | (with_reducible first | apply Below.drew | apply below_drewN') | refine Below.trans ?_ (Below.mono (by assumption) (by first | exact Nat.le_refl _ | (simp; done) | (simp; omega) | omega)) | exact Below.refl _ _ | assumption)⟩
    simp [results, Tryz.results20, go_sem, hc1, prC]
end Go.Proofs.YtaekcfancfoccaaGreatDoor

namespace Go.Proofs.YtaekcfancfoccaaGreatDoor
open Go.RowKit

theorem metW_ok {wv wz dx az : Int} {s : Su} (bwv : -60000 ≤ wv ∧ wv ≤ 60000) (bwz : -60000 ≤ wz ∧ wz ≤ 60000) (bdx : -60000 ≤ dx ∧ dx ≤ 60000) (baz : -60000 ≤ az ∧ az ≤ 60000) (h1 : -1 ≤ s.side ∧ s.side ≤ 1)
    (h2 : 0 ≤ s.ln ∧ s.ln ≤ 100) (h3 : 0 ≤ s.ld ∧ s.ld ≤ 100) (h4 : 0 ≤ s.mn ∧ s.mn ≤ 100) (h5 : 0 ≤ s.md ∧ s.md ≤ 100) (h6 : 0 ≤ s.tn ∧ s.tn ≤ 100) (h7 : 0 ≤ s.td ∧ s.td ≤ 100) : (metW wv wz dx az s).ok := by
  by_cases hk : wv * az - wz * dx = 0
  · have : metW wv wz dx az s = ⟨0, 1, 1, 1, true, false⟩ := if_pos hk
    rw [this]
    exact ⟨by simp [NN], by simp [NN], by simp [NN], by simp [NN]⟩
  · rw [metW_no hk]
    have v1 := mul_bd s.side dx 1 60000 (by omega) bdx
    have v2 := mul_bd s.side wv 1 60000 (by omega) bwv
    generalize s.side * dx = X at *
    generalize s.side * wv = Y at *
    have b1 := mul_bd X s.ld 60000 100 (by omega) (by omega)
    have b2 := mul_bd Y s.ld 60000 100 (by omega) (by omega)
    have b3 := mul_bd az s.ln 60000 100 (by omega) (by omega)
    have b4 := mul_bd wz s.ln 60000 100 (by omega) (by omega)
    have c1 := mul_bd X s.md 60000 100 (by omega) (by omega)
    have c2 := mul_bd Y s.md 60000 100 (by omega) (by omega)
    have c3 := mul_bd az s.mn 60000 100 (by omega) (by omega)
    have c4 := mul_bd wz s.mn 60000 100 (by omega) (by omega)
    have d1 := mul_bd wv az 60000 60000 (by omega) (by omega)
    have d2 := mul_bd wz dx 60000 60000 (by omega) (by omega)
    have d3 := mul_bd (max (wv * az - wz * dx) (-(wv * az - wz * dx))) s.tn 7200000000 100 (by omega) (by omega)
    have e1 := mul_bd wv dx 60000 60000 (by omega) (by omega)
    have e2 := mul_bd wz az 60000 60000 (by omega) (by omega)
    have e3 := mul_bd (wv * dx + wz * az) s.td 7200000000 100 (by omega) (by omega)
    have e4 := mul_bd (-(wv * dx + wz * az)) s.td 7200000000 100 (by omega) (by omega)
    have f1 := mul_bd wv wv 60000 60000 (by omega) (by omega)
    have f2 := mul_bd wz wz 60000 60000 (by omega) (by omega)
    have f3 := mul_bd (wv * wv + wz * wz) s.td 7200000000 100 (by omega) (by omega)
    have f4 := mul_bd (-(wv * wv + wz * wz)) s.td 7200000000 100 (by omega) (by omega)
    refine PV.cut_ok (PV.cut_ok (PV.cut_ok (PV.cut_ok ⟨by simp [NN], by simp [NN], by simp [NN], by simp [NN]⟩ ?_ ?_) ?_ ?_) ?_ ?_) ?_ ?_
    all_goals omega
theorem metV_ok {thick : Int} {f : Fc} {s : Su} (L : Lim thick f s) : (metV thick f s).ok := by
  obtain ⟨k1, k2, k3, k4, k5, k6, k7, k8, k9, k10, k11, k12, k13⟩ := L
  unfold metV
  split
  · exact metW_ok (by omega) (by omega) (by omega) (by omega) k7 k8 k9 k10 k11 k12 k13
  · exact metW_ok (by omega) (by omega) (by omega) (by omega) k7 k8 k9 k10 k11 k12 k13

end Go.Proofs.YtaekcfancfoccaaGreatDoor

namespace Go.Proofs.YtaekcfancfoccaaGreatDoor
open Go.RowKit

theorem Below.set10 {n g : Nat} {a b : World} {u0 u1 u2 u3 u4 u5 u6 u7 u8 u9 : Value} (h : Below n a b) (hg : n ≤ g) :
    Below n a ((((((((((b.setCell ⟨g, 0, none⟩ u0).setCell ⟨g, 1, none⟩ u1).setCell ⟨g, 2, none⟩ u2).setCell ⟨g, 3, none⟩ u3).setCell ⟨g, 4, none⟩ u4).setCell ⟨g, 5, none⟩ u5).setCell ⟨g, 6, none⟩ u6).setCell ⟨g, 7, none⟩ u7).setCell ⟨g, 8, none⟩ u8).setCell ⟨g, 9, none⟩ u9) :=
  (((((((((h.setCell hg _).setCell hg _).setCell hg _).setCell hg _).setCell hg _).setCell hg _).setCell hg _).setCell hg _).setCell hg _).setCell hg _
theorem Blk.set10 {g : Nat} {b : World} {t : TypeId} {v0 v1 v2 v3 v4 v5 v6 v7 v8 v9 : Value} (h : Blk b g t #[v0, v1, v2, v3, v4, v5, v6, v7, v8, v9]) (u0 u1 u2 u3 u4 u5 u6 u7 u8 u9 : Value) :
    Blk ((((((((((b.setCell ⟨g, 0, none⟩ u0).setCell ⟨g, 1, none⟩ u1).setCell ⟨g, 2, none⟩ u2).setCell ⟨g, 3, none⟩ u3).setCell ⟨g, 4, none⟩ u4).setCell ⟨g, 5, none⟩ u5).setCell ⟨g, 6, none⟩ u6).setCell ⟨g, 7, none⟩ u7).setCell ⟨g, 8, none⟩ u8).setCell ⟨g, 9, none⟩ u9) g t #[u0, u1, u2, u3, u4, u5, u6, u7, u8, u9] := by
  have e := (((((((((h.set_ 0 u0).set_ 1 u1).set_ 2 u2).set_ 3 u3).set_ 4 u4).set_ 5 u5).set_ 6 u6).set_ 7 u7).set_ 8 u8).set_ 9 u9
  simp only [List.setIfInBounds_toArray, List.set_cons_zero, List.set_cons_succ] at e
  exact e
theorem Blk.far10 {g p : Nat} {b : World} {t : TypeId} {cs : Array Value} (h : Blk b g t cs) (hp : g ≠ p) (u0 u1 u2 u3 u4 u5 u6 u7 u8 u9 : Value) :
    Blk ((((((((((b.setCell ⟨p, 0, none⟩ u0).setCell ⟨p, 1, none⟩ u1).setCell ⟨p, 2, none⟩ u2).setCell ⟨p, 3, none⟩ u3).setCell ⟨p, 4, none⟩ u4).setCell ⟨p, 5, none⟩ u5).setCell ⟨p, 6, none⟩ u6).setCell ⟨p, 7, none⟩ u7).setCell ⟨p, 8, none⟩ u8).setCell ⟨p, 9, none⟩ u9) g t cs :=
  (((((((((h.far (p := ⟨p, 0, none⟩) hp _).far (p := ⟨p, 1, none⟩) hp _).far (p := ⟨p, 2, none⟩) hp _).far (p := ⟨p, 3, none⟩) hp _).far (p := ⟨p, 4, none⟩) hp _).far (p := ⟨p, 5, none⟩) hp _).far (p := ⟨p, 6, none⟩) hp _).far (p := ⟨p, 7, none⟩) hp _).far (p := ⟨p, 8, none⟩) hp _).far (p := ⟨p, 9, none⟩) hp _
theorem Blk.far6 {g p : Nat} {b : World} {t : TypeId} {cs : Array Value} (h : Blk b g t cs) (hp : g ≠ p) (u0 u1 u2 u3 u4 u5 : Value) :
    Blk ((((((b.setCell ⟨p, 0, none⟩ u0).setCell ⟨p, 1, none⟩ u1).setCell ⟨p, 2, none⟩ u2).setCell ⟨p, 3, none⟩ u3).setCell ⟨p, 4, none⟩ u4).setCell ⟨p, 5, none⟩ u5) g t cs :=
  (((((h.far (p := ⟨p, 0, none⟩) hp _).far (p := ⟨p, 1, none⟩) hp _).far (p := ⟨p, 2, none⟩) hp _).far (p := ⟨p, 3, none⟩) hp _).far (p := ⟨p, 4, none⟩) hp _).far (p := ⟨p, 5, none⟩) hp _

theorem two_set10 {w3 w4 w5 : World} {p q : Nat} {t t' : TypeId} {v0 v1 v2 v3 v4 v5 v6 v7 v8 v9 u0 u1 u2 u3 u4 u5 u6 u7 u8 u9 x0 x1 x2 x3 x4 x5 x6 x7 x8 x9 y0 y1 y2 y3 y4 y5 y6 y7 y8 y9 : Value} (hp : Blk w3 p t #[v0, v1, v2, v3, v4, v5, v6, v7, v8, v9]) (hq : Blk w3 q t' #[u0, u1, u2, u3, u4, u5, u6, u7, u8, u9]) (hpq : p ≠ q)
    (h4 : Gr ((((((((((w3.setCell ⟨p, 0, none⟩ x0).setCell ⟨p, 1, none⟩ x1).setCell ⟨p, 2, none⟩ x2).setCell ⟨p, 3, none⟩ x3).setCell ⟨p, 4, none⟩ x4).setCell ⟨p, 5, none⟩ x5).setCell ⟨p, 6, none⟩ x6).setCell ⟨p, 7, none⟩ x7).setCell ⟨p, 8, none⟩ x8).setCell ⟨p, 9, none⟩ x9) w4) (h5 : Gr ((((((((((w4.setCell ⟨q, 0, none⟩ y0).setCell ⟨q, 1, none⟩ y1).setCell ⟨q, 2, none⟩ y2).setCell ⟨q, 3, none⟩ y3).setCell ⟨q, 4, none⟩ y4).setCell ⟨q, 5, none⟩ y5).setCell ⟨q, 6, none⟩ y6).setCell ⟨q, 7, none⟩ y7).setCell ⟨q, 8, none⟩ y8).setCell ⟨q, 9, none⟩ y9) w5) : Blk w5 p t #[x0, x1, x2, x3, x4, x5, x6, x7, x8, x9] ∧ Blk w5 q t' #[y0, y1, y2, y3, y4, y5, y6, y7, y8, y9] := by
  have p4 : Blk w4 p t #[x0, x1, x2, x3, x4, x5, x6, x7, x8, x9] := Blk.gr (hp.set10 x0 x1 x2 x3 x4 x5 x6 x7 x8 x9) h4
  have q4 : Blk w4 q t' #[u0, u1, u2, u3, u4, u5, u6, u7, u8, u9] := Blk.gr (hq.far10 (Ne.symm hpq) x0 x1 x2 x3 x4 x5 x6 x7 x8 x9) h4
  exact ⟨Blk.gr (p4.far10 hpq y0 y1 y2 y3 y4 y5 y6 y7 y8 y9) h5, Blk.gr (q4.set10 y0 y1 y2 y3 y4 y5 y6 y7 y8 y9) h5⟩
theorem two_set6 {w3 w4 w5 : World} {p q : Nat} {t t' : TypeId} {v0 v1 v2 v3 v4 v5 u0 u1 u2 u3 u4 u5 x0 x1 x2 x3 x4 x5 y0 y1 y2 y3 y4 y5 : Value} (hp : Blk w3 p t #[v0, v1, v2, v3, v4, v5]) (hq : Blk w3 q t' #[u0, u1, u2, u3, u4, u5]) (hpq : p ≠ q)
    (h4 : Gr ((((((w3.setCell ⟨p, 0, none⟩ x0).setCell ⟨p, 1, none⟩ x1).setCell ⟨p, 2, none⟩ x2).setCell ⟨p, 3, none⟩ x3).setCell ⟨p, 4, none⟩ x4).setCell ⟨p, 5, none⟩ x5) w4) (h5 : Gr ((((((w4.setCell ⟨q, 0, none⟩ y0).setCell ⟨q, 1, none⟩ y1).setCell ⟨q, 2, none⟩ y2).setCell ⟨q, 3, none⟩ y3).setCell ⟨q, 4, none⟩ y4).setCell ⟨q, 5, none⟩ y5) w5) : Blk w5 p t #[x0, x1, x2, x3, x4, x5] ∧ Blk w5 q t' #[y0, y1, y2, y3, y4, y5] := by
  have p4 : Blk w4 p t #[x0, x1, x2, x3, x4, x5] := Blk.gr (hp.set6 x0 x1 x2 x3 x4 x5) h4
  have q4 : Blk w4 q t' #[u0, u1, u2, u3, u4, u5] := Blk.gr (hq.far6 (Ne.symm hpq) x0 x1 x2 x3 x4 x5) h4
  exact ⟨Blk.gr (p4.far6 hpq y0 y1 y2 y3 y4 y5) h5, Blk.gr (q4.set6 y0 y1 y2 y3 y4 y5) h5⟩

def Su.moved (s : Su) (x : Int) : Su := { s with at_ := x }
def PV.both (p q : PV) : PV :=
  if (p.none || q.none || (p.up != q.up)) = true then { p with none := true } else (({ p with none := false } : PV).frm q.a q.b).to q.c q.d

theorem su_all {w : World} {g : Nat} {sn : ByteArray} {s : Su} (h : Blk w g 45 (suC sn s)) :
    w.cell? ⟨g, 0, none⟩ = some (.string sn) ∧ w.cell? ⟨g, 1, none⟩ = some (.int .i64 s.at_) ∧ w.cell? ⟨g, 2, none⟩ = some (.int .i64 s.side) ∧ w.cell? ⟨g, 3, none⟩ = some (.int .i64 s.legs) ∧
    w.cell? ⟨g, 4, none⟩ = some (.int .i64 s.ln) ∧ w.cell? ⟨g, 5, none⟩ = some (.int .i64 s.ld) ∧ w.cell? ⟨g, 6, none⟩ = some (.int .i64 s.mn) ∧ w.cell? ⟨g, 7, none⟩ = some (.int .i64 s.md) ∧
    w.cell? ⟨g, 8, none⟩ = some (.int .i64 s.tn) ∧ w.cell? ⟨g, 9, none⟩ = some (.int .i64 s.td) ∧ ∀ i, w.frozen? ⟨g, i, none⟩ = false :=
  ⟨h.cell 0, h.cell 1, h.cell 2, h.cell 3, h.cell 4, h.cell 5, h.cell 6, h.cell 7, h.cell 8, h.cell 9, h.frozen⟩

theorem met_cells (thick : Int) (nm : ByteArray) (fx fz tx tz : Int) (sn : ByteArray) (at_ side legs ln ld mn md tn td : Int) (w : World) (hE : Ends w) (L : Lim thick ⟨fx, fz, tx, tz⟩ ⟨at_, side, legs, ln, ld, mn, md, tn, td⟩) :
    Calls Tryz.prog 62 #[.int .i64 thick, .agg #[.string nm, .int .i64 fx, .int .i64 fz, .int .i64 tx, .int .i64 tz], .agg #[.string sn, .int .i64 at_, .int .i64 side, .int .i64 legs, .int .i64 ln, .int .i64 ld, .int .i64 mn, .int .i64 md, .int .i64 tn, .int .i64 td]] w
      fun e w' => e = .returned (.agg #[.int .i64 (metV thick ⟨fx, fz, tx, tz⟩ ⟨at_, side, legs, ln, ld, mn, md, tn, td⟩).a, .int .i64 (metV thick ⟨fx, fz, tx, tz⟩ ⟨at_, side, legs, ln, ld, mn, md, tn, td⟩).b, .int .i64 (metV thick ⟨fx, fz, tx, tz⟩ ⟨at_, side, legs, ln, ld, mn, md, tn, td⟩).c,
        .int .i64 (metV thick ⟨fx, fz, tx, tz⟩ ⟨at_, side, legs, ln, ld, mn, md, tn, td⟩).d, .bool (metV thick ⟨fx, fz, tx, tz⟩ ⟨at_, side, legs, ln, ld, mn, md, tn, td⟩).none, .bool (metV thick ⟨fx, fz, tx, tz⟩ ⟨at_, side, legs, ln, ld, mn, md, tn, td⟩).up]) ∧ Below w.heap.size w w' :=
  met_any thick ⟨fx, fz, tx, tz⟩ ⟨at_, side, legs, ln, ld, mn, md, tn, td⟩ nm sn w hE L

set_option maxRecDepth 100000 in
set_option maxHeartbeats 4000000 in
theorem surePart_ok (j : Jo) (k : Nat) (sn : ByteArray) (s : Su) (sh : Int) (A : Option Addr) (c B : Nat) (w : World) (hj : JoOk j A c B w) (hE : Ends w) (hsn : sn.size ≤ 1000000000000) (hw : s.wf) (h0 : askE j k sn s = 0)
    (hsh : 0 ≤ sh ∧ sh ≤ 5000) (hlo : -20000 ≤ s.at_ - sh) (hhi : s.at_ + sh ≤ 20000) :
    Calls Tryz.prog 23 #[.agg (joC j A c), .agg (asC k sn s), .int .i64 sh] w fun e w' => e = .returned (prC (toldR ((metV j.thick (faceAt j k) (s.moved (s.at_ - sh))).both (metV j.thick (faceAt j k) (s.moved (s.at_ + sh)))))) ∧ Below w.heap.size w w' := by
  obtain ⟨k1, k2, k3, k4, hR, hB⟩ := hj
  have hE1 := Lib.hid hE; clear hE
  have h1 : (askE j k sn s != 0) = false := by simpa using h0
  have L := lim_of h0
  have LN : Lim j.thick (faceAt j k) (s.moved (s.at_ - sh)) := ⟨L.thick, L.fx, L.fz, L.tx, L.tz, by show -30000 ≤ s.at_ - sh ∧ s.at_ - sh ≤ 30000; omega, L.side, L.ln, L.ld, L.mn, L.md, L.tn, L.td⟩
  have LF : Lim j.thick (faceAt j k) (s.moved (s.at_ + sh)) := ⟨L.thick, L.fx, L.fz, L.tx, L.tz, by show -30000 ≤ s.at_ + sh ∧ s.at_ + sh ≤ 30000; omega, L.side, L.ln, L.ld, L.mn, L.md, L.tn, L.td⟩
  obtain ⟨k', hkk, hk, hfa⟩ := (openFaceE_zero (askE_zero h0).1).2
  obtain rfl : k = k' := by omega
  have H0 := Lib.hid h0; have HF := Lib.hid hfa; clear h0 hfa hkk
  unfold joC asC
  have t1 : wi sh 0 5000 = true := by simp [wi]; omega
  have t2 : wi (s.at_ - sh) (-20000) 20000 = true := by simp [wi]; omega
  have t3 : wi (s.at_ + sh) (-20000) 20000 = true := by simp [wi]; omega
  go_enter Tryz.func23, Tryz.ntmps23
  go_wp2_with fail
  refine (openAsk_any j k sn s A c B _ k1 k2 k3 k4 (((hR.alloc hB _).alloc (by simp; omega) _).alloc (by simp; omega) _) (by simp; omega) hsn hw).mono ?_
  rintro e w1 ⟨rfl, hB1⟩; obtain ⟨hc1, hf1⟩ := bcell hB1; have hz1 := hB1.size; (try simp at hz1)
  obtain ⟨g, o, hA, hg, c0, c1, c2, c3, c4⟩ := faceCells ((((hR.alloc hB _).alloc (by simp; omega) _).alloc (by simp; omega) _).below hB1 (by simp; omega)) hk
  subst hA
  have b3 : Blk w1 w.heap.size 24 (joC j (some ⟨g, o, none⟩) c) := by refine Blk.below ?_ hB1 (by first | (simp; done) | (simp; omega)); exact (by repeat (first | assumption | apply Blk.drew | (refine Blk.new' _ _ _ ?_; first | rfl | (simp; done) | (simp; omega)) | (refine Blk.alloc ?_ _)))
  have b4 : Blk w1 (w.heap.size + 1) 62 (asC k sn s) := by refine Blk.below ?_ hB1 (by first | (simp; done) | (simp; omega)); exact (by repeat (first | assumption | apply Blk.drew | (refine Blk.new' _ _ _ ?_; first | rfl | (simp; done) | (simp; omega)) | (refine Blk.alloc ?_ _)))
  have b5 : Blk w1 (w.heap.size + 1 + 1) 56 #[.int .i64 0, .int .i64 0, .int .i64 0, .int .i64 0] := by refine Blk.below ?_ hB1 (by first | (simp; done) | (simp; omega)); exact (by repeat (first | assumption | apply Blk.drew | (refine Blk.new' _ _ _ ?_; first | rfl | (simp; done) | (simp; omega)) | (refine Blk.alloc ?_ _)))
  have hBB : Below w.heap.size w w1 := (by repeat first | (with_reducible first | exact Below.refl _ _ | assumption) | ((with_reducible first | refine Below.setCell ?_ ?_ _ | refine Below.alloc ?_ ?_ _); rotate_left; · first | exact Nat.le_refl _ | (simp; done) | (simp; omega) | omega) | (with_reducible first | apply Below.drew | apply below_drewN') | refine Below.trans ?_ (Below.mono (by assumption) (by first | exact Nat.le_refl _ | (simp; done) | (simp; omega) | omega)) | exact Below.refl _ _ | assumption)
  clear hc1 hf1 hB1 k1 k2 hR
  obtain ⟨r0, r1, r2, r3, r4, r5, r6, r7, r8, r9, r10⟩ := as_cells b4
  have l3 := b3.lt; have l4 := b4.lt; have l5 := b5.lt
  go_upto_region 7 with (first | (go_at_call 58; refine (within_any _ _ _ _).mono ?_; rintro e w1 ⟨rfl, rfl⟩) | (go_at_call 57; refine (small_any _ _ (by omega) (by omega) _).mono ?_; rintro e w1 ⟨rfl, rfl⟩) | fail)
  have bS : Blk (w1.alloc (.cells (suC sn s) 45)) w1.heap.size 45 (suC sn s) := Blk.new _ _ _
  have d3 := b3.alloc (.cells (suC sn s) 45)
  have d4 := b4.alloc (.cells (suC sn s) 45)
  have d5 := b5.alloc (.cells (suC sn s) 45)
  have dB := Below.alloc hBB (Below.size hBB) (.cells (suC sn s) 45)
  have dg : g < (w1.alloc (.cells (suC sn s) 45)).heap.size := by simp; omega
  have x0 := (World.cell?_alloc_lt w1 (.cells (suC sn s) 45) ⟨g, o + k * 5, none⟩ (by simp; omega)).trans c0
  have x1 := (World.cell?_alloc_lt w1 (.cells (suC sn s) 45) ⟨g, o + k * 5 + 1, none⟩ (by simp; omega)).trans c1
  have x2 := (World.cell?_alloc_lt w1 (.cells (suC sn s) 45) ⟨g, o + k * 5 + 2, none⟩ (by simp; omega)).trans c2
  have x3 := (World.cell?_alloc_lt w1 (.cells (suC sn s) 45) ⟨g, o + k * 5 + 3, none⟩ (by simp; omega)).trans c3
  have x4 := (World.cell?_alloc_lt w1 (.cells (suC sn s) 45) ⟨g, o + k * 5 + 4, none⟩ (by simp; omega)).trans c4
  have lS : w.heap.size + 1 + 1 < w1.heap.size := l5
  have hgB : g < w.heap.size := by omega
  unfold suC at *
  clear b3 b4 b5 c0 c1 c2 c3 c4 hBB r0 r1 r2 r3 r4 r5 r6 r7 r8 r9 r10 hz1
  generalize w1.alloc (.cells #[.string sn, .int .i64 s.at_, .int .i64 s.side, .int .i64 s.legs, .int .i64 s.ln, .int .i64 s.ld, .int .i64 s.mn, .int .i64 s.md, .int .i64 s.tn, .int .i64 s.td] 45) = W at *
  generalize w1.heap.size = S at *
  obtain ⟨r0, r1, r2, r3, r4, r5, r6, r7, r8, r9, rf⟩ := su_all bS
  have lW : S < W.heap.size := bS.lt
  go_cut [10, 11] (fun s10 s11 wx => ∃ p q : Nat, s10 = .pointer (some ⟨p, 0, none⟩) ∧ s11 = .pointer (some ⟨q, 0, none⟩) ∧ Blk wx p 45 (suC sn s) ∧ Blk wx q 45 (suC sn s) ∧ p ≠ q ∧ W.heap.size ≤ p ∧ W.heap.size ≤ q ∧
    Below W.heap.size W wx)
  case first =>
    refine wp_region_w (Gr _) (by kernel_rfl) (Below.refl _ _).drew ?_
    refine wpW_det (t' := ?ct0R3) 0 (by rfl) (by kernel_rfl) (NQ_free _) (by kernel_rfl) ?cw0R3 ?ch0R3 ?ca0R3 (Eq.refl _) ?cH0R3
    case cw0R3 => (go_simp; done)
    case ch0R3 =>
      intro ds w' hS K hK
      have hc := (bcell hS).1; have hf := (bcell hS).2; have hz := hS.size; (try simp at hz); go_simp; (try go_bits)
      first
        | exact hK _ hS (Gr.refl _)
        | fail
        | exact hK _ (hS.alloc hS.size _) ((Below.refl _ _).alloc (Nat.le_refl _) _)
    case ca0R3 => (first | (simp [Act.put]; done) | (simp [Act.put, *]; done))
    try dsimp only
    refine wpW_det (t' := ?ct1R3) 1 (by rfl) (by kernel_rfl) (NQ_free _) (by kernel_rfl) ?cw1R3 ?ch1R3 ?ca1R3 (Eq.refl _) ?cH1R3
    case cw1R3 => (go_simp; done)
    case ch1R3 =>
      intro ds w' hS K hK
      have hc := (bcell hS).1; have hf := (bcell hS).2; have hz := hS.size; (try simp at hz); go_simp; (try go_bits)
      first
        | exact hK _ hS (Gr.refl _)
        | fail
        | exact hK _ (hS.alloc hS.size _) ((Below.refl _ _).alloc (Nat.le_refl _) _)
    case ca1R3 => (first | (simp [Act.put]; done) | (simp [Act.put, *]; done))
    try dsimp only
    refine wpW_branch [2, 3] (by kernel_rfl) (by simp) ?_
    intro w1 hg1 hS1
    have hc1 := (bcell hg1).1
    have hf1 := (bcell hg1).2
    have hz1 := hg1.size
    try simp at hz1
    refine each_cons ?_ (each_cons ?_ (each_nil))
    · refine wpOp_go (by rfl) (Eq.refl _) (by go_simp; done) ?_
      intro K hK
      go_simp
      try simp only [Act.put]
      refine hK _ _ (by repeat first | (with_reducible assumption) | ((with_reducible first | refine Below.setCell ?_ ?_ _ | refine Below.alloc ?_ ?_ _); rotate_left; · first | exact Nat.le_refl _ | (simp; done) | (simp; omega) | omega)) ?_
      clear hK K
      refine wpW_branch [3] (by kernel_rfl) (by simp) ?_
      intro w2 hg2 hS2
      have hc2 := (bcell hg2).1
      have hf2 := (bcell hg2).2
      have hz2 := hg2.size
      try simp at hz2
      have hl1_2 : w1.heap.size ≤ w2.heap.size := by omega
      try have hm1_2 : w1.heap.size < w2.heap.size := by omega
      refine each_cons ?_ (each_nil)
      refine wpOp_go (by rfl) (Eq.refl _) (by go_simp; done) ?_
      intro K hK
      go_simp
      try simp only [Act.put]
      refine hK _ _ (by repeat first | (with_reducible assumption) | ((with_reducible first | refine Below.setCell ?_ ?_ _ | refine Below.alloc ?_ ?_ _); rotate_left; · first | exact Nat.le_refl _ | (simp; done) | (simp; omega) | omega)) ?_
      clear hK K
      refine wpW_branch [4] (by kernel_rfl) (by simp) ?_
      intro w3 hg3 hS3
      have hc3 := (bcell hg3).1
      have hf3 := (bcell hg3).2
      have hz3 := hg3.size
      try simp at hz3
      have hl1_3 : w1.heap.size ≤ w3.heap.size := by omega
      try have hm1_3 : w1.heap.size < w3.heap.size := by omega
      have hl2_3 : w2.heap.size ≤ w3.heap.size := by omega
      try have hm2_3 : w2.heap.size < w3.heap.size := by omega
      refine each_cons ?_ (each_nil)
      refine wpOp_go (by rfl) (Eq.refl _) (by go_simp; done) ?_
      intro K hK
      go_simp
      try simp only [Act.put]
      refine hK _ _ (by repeat first | (with_reducible assumption) | ((with_reducible first | refine Below.setCell ?_ ?_ _ | refine Below.alloc ?_ ?_ _); rotate_left; · first | exact Nat.le_refl _ | (simp; done) | (simp; omega) | omega)) ?_
      clear hK K
      refine wpW_branch [5] (by kernel_rfl) (by simp) ?_
      intro w4 hg4 hS4
      have hc4 := (bcell hg4).1
      have hf4 := (bcell hg4).2
      have hz4 := hg4.size
      try simp at hz4
      have hl1_4 : w1.heap.size ≤ w4.heap.size := by omega
      try have hm1_4 : w1.heap.size < w4.heap.size := by omega
      have hl2_4 : w2.heap.size ≤ w4.heap.size := by omega
      try have hm2_4 : w2.heap.size < w4.heap.size := by omega
      have hl3_4 : w3.heap.size ≤ w4.heap.size := by omega
      try have hm3_4 : w3.heap.size < w4.heap.size := by omega
      refine each_cons ?_ (each_nil)
      refine wpOp_go (by rfl) (Eq.refl _) (by go_simp; done) ?_
      intro K hK
      go_simp
      try simp only [Act.put]
      refine hK _ _ (by repeat first | (with_reducible assumption) | ((with_reducible first | refine Below.setCell ?_ ?_ _ | refine Below.alloc ?_ ?_ _); rotate_left; · first | exact Nat.le_refl _ | (simp; done) | (simp; omega) | omega)) ?_
      clear hK K
      refine wpW_end (by kernel_rfl) ?_
      intro w5 hg5 hS5
      have hc5 := (bcell hg5).1
      have hf5 := (bcell hg5).2
      have hz5 := hg5.size
      try simp at hz5
      have hl1_5 : w1.heap.size ≤ w5.heap.size := by omega
      try have hm1_5 : w1.heap.size < w5.heap.size := by omega
      have hl2_5 : w2.heap.size ≤ w5.heap.size := by omega
      try have hm2_5 : w2.heap.size < w5.heap.size := by omega
      have hl3_5 : w3.heap.size ≤ w5.heap.size := by omega
      try have hm3_5 : w3.heap.size < w5.heap.size := by omega
      have hl4_5 : w4.heap.size ≤ w5.heap.size := by omega
      try have hm4_5 : w4.heap.size < w5.heap.size := by omega
      unfold NQ
      dsimp only
      go_wp2_with fail
      go_meet
      first
        | (obtain ⟨g1, g2, g3, g4, g5⟩ := two_new hS1 hg2 hg3; (with_reducible have g67 := two_set10 g1 g2 g3 hg4 hg5); obtain ⟨g6, g7⟩ := g67; exact ⟨_, _, rfl, rfl, g6, g7, g3, g4, g5, hS5⟩)
        | (obtain ⟨g1, g2, g3, g4, g5⟩ := two_new hS1 hg2 hg3; (with_reducible have g67 := two_set10 g2 g1 (Ne.symm g3) hg4 hg5); obtain ⟨g6, g7⟩ := g67; exact ⟨_, _, rfl, rfl, g6, g7, Ne.symm g3, g5, g4, hS5⟩)
    · refine wpOp_go (by rfl) (Eq.refl _) (by go_simp; done) ?_
      intro K hK
      go_simp
      try simp only [Act.put]
      refine hK _ _ (by repeat first | (with_reducible assumption) | ((with_reducible first | refine Below.setCell ?_ ?_ _ | refine Below.alloc ?_ ?_ _); rotate_left; · first | exact Nat.le_refl _ | (simp; done) | (simp; omega) | omega)) ?_
      clear hK K
      refine wpW_branch [2] (by kernel_rfl) (by simp) ?_
      intro w2 hg2 hS2
      have hc2 := (bcell hg2).1
      have hf2 := (bcell hg2).2
      have hz2 := hg2.size
      try simp at hz2
      have hl1_2 : w1.heap.size ≤ w2.heap.size := by omega
      try have hm1_2 : w1.heap.size < w2.heap.size := by omega
      refine each_cons ?_ (each_nil)
      refine wpOp_go (by rfl) (Eq.refl _) (by go_simp; done) ?_
      intro K hK
      go_simp
      try simp only [Act.put]
      refine hK _ _ (by repeat first | (with_reducible assumption) | ((with_reducible first | refine Below.setCell ?_ ?_ _ | refine Below.alloc ?_ ?_ _); rotate_left; · first | exact Nat.le_refl _ | (simp; done) | (simp; omega) | omega)) ?_
      clear hK K
      refine wpW_branch [4] (by kernel_rfl) (by simp) ?_
      intro w3 hg3 hS3
      have hc3 := (bcell hg3).1
      have hf3 := (bcell hg3).2
      have hz3 := hg3.size
      try simp at hz3
      have hl1_3 : w1.heap.size ≤ w3.heap.size := by omega
      try have hm1_3 : w1.heap.size < w3.heap.size := by omega
      have hl2_3 : w2.heap.size ≤ w3.heap.size := by omega
      try have hm2_3 : w2.heap.size < w3.heap.size := by omega
      refine each_cons ?_ (each_nil)
      refine wpOp_go (by rfl) (Eq.refl _) (by go_simp; done) ?_
      intro K hK
      go_simp
      try simp only [Act.put]
      refine hK _ _ (by repeat first | (with_reducible assumption) | ((with_reducible first | refine Below.setCell ?_ ?_ _ | refine Below.alloc ?_ ?_ _); rotate_left; · first | exact Nat.le_refl _ | (simp; done) | (simp; omega) | omega)) ?_
      clear hK K
      refine wpW_branch [5] (by kernel_rfl) (by simp) ?_
      intro w4 hg4 hS4
      have hc4 := (bcell hg4).1
      have hf4 := (bcell hg4).2
      have hz4 := hg4.size
      try simp at hz4
      have hl1_4 : w1.heap.size ≤ w4.heap.size := by omega
      try have hm1_4 : w1.heap.size < w4.heap.size := by omega
      have hl2_4 : w2.heap.size ≤ w4.heap.size := by omega
      try have hm2_4 : w2.heap.size < w4.heap.size := by omega
      have hl3_4 : w3.heap.size ≤ w4.heap.size := by omega
      try have hm3_4 : w3.heap.size < w4.heap.size := by omega
      refine each_cons ?_ (each_nil)
      refine wpOp_go (by rfl) (Eq.refl _) (by go_simp; done) ?_
      intro K hK
      go_simp
      try simp only [Act.put]
      refine hK _ _ (by repeat first | (with_reducible assumption) | ((with_reducible first | refine Below.setCell ?_ ?_ _ | refine Below.alloc ?_ ?_ _); rotate_left; · first | exact Nat.le_refl _ | (simp; done) | (simp; omega) | omega)) ?_
      clear hK K
      refine wpW_end (by kernel_rfl) ?_
      intro w5 hg5 hS5
      have hc5 := (bcell hg5).1
      have hf5 := (bcell hg5).2
      have hz5 := hg5.size
      try simp at hz5
      have hl1_5 : w1.heap.size ≤ w5.heap.size := by omega
      try have hm1_5 : w1.heap.size < w5.heap.size := by omega
      have hl2_5 : w2.heap.size ≤ w5.heap.size := by omega
      try have hm2_5 : w2.heap.size < w5.heap.size := by omega
      have hl3_5 : w3.heap.size ≤ w5.heap.size := by omega
      try have hm3_5 : w3.heap.size < w5.heap.size := by omega
      have hl4_5 : w4.heap.size ≤ w5.heap.size := by omega
      try have hm4_5 : w4.heap.size < w5.heap.size := by omega
      unfold NQ
      dsimp only
      go_wp2_with fail
      go_meet
      first
        | (obtain ⟨g1, g2, g3, g4, g5⟩ := two_new hS1 hg2 hg3; (with_reducible have g67 := two_set10 g1 g2 g3 hg4 hg5); obtain ⟨g6, g7⟩ := g67; exact ⟨_, _, rfl, rfl, g6, g7, g3, g4, g5, hS5⟩)
        | (obtain ⟨g1, g2, g3, g4, g5⟩ := two_new hS1 hg2 hg3; (with_reducible have g67 := two_set10 g2 g1 (Ne.symm g3) hg4 hg5); obtain ⟨g6, g7⟩ := g67; exact ⟨_, _, rfl, rfl, g6, g7, Ne.symm g3, g5, g4, hS5⟩)
  case rest =>
    obtain ⟨p, q, rfl, rfl, hp, hq, hpq, hpl, hql, hB2⟩ := hcut
    have eS := bS.below hB2 lW
    have e3 := d3.below hB2 d3.lt
    have e4 := d4.below hB2 d4.lt
    have e5 := d5.below hB2 d5.lt
    have eB := Below.trans dB (hB2.mono (Below.size dB))
    have dBs := Lib.hid dB
    have y0 := (hB2.cell (p := ⟨g, o + k * 5, none⟩) dg).trans x0
    have y1 := (hB2.cell (p := ⟨g, o + k * 5 + 1, none⟩) dg).trans x1
    have y2 := (hB2.cell (p := ⟨g, o + k * 5 + 2, none⟩) dg).trans x2
    have y3 := (hB2.cell (p := ⟨g, o + k * 5 + 3, none⟩) dg).trans x3
    have y4 := (hB2.cell (p := ⟨g, o + k * 5 + 4, none⟩) dg).trans x4
    have l3 := e3.lt; have l4 := e4.lt; have l5 := e5.lt; have l6 := eS.lt; have l7 := hp.lt; have l8 := hq.lt
    clear r0 r1 r2 r3 r4 r5 r6 r7 r8 r9 rf bS d3 d4 d5 dB x0 x1 x2 x3 x4
    have r1 : wc.cell? ⟨S, 1, none⟩ = some (.int .i64 s.at_) := eS.cell 1
    have p1 : wc.cell? ⟨p, 1, none⟩ = some (.int .i64 s.at_) := hp.cell 1
    have q1 : wc.cell? ⟨q, 1, none⟩ = some (.int .i64 s.at_) := hq.cell 1
    have fp := hp.frozen 1
    have fq := hq.frozen 1
    have hat := L.at_
    go_upto_region 8 with fail
    go_cut [10] (fun s10 wx => s10 = .pointer (some ⟨p, 0, none⟩) ∧ Blk wx p 45 (suC sn (s.moved (s.at_ - sh))) ∧ Blk wx q 45 (suC sn (s.moved (s.at_ + sh))) ∧
      Below W.heap.size wc wx)
    case first =>
      go_region
      all_goals go_wp2_with fail
      all_goals go_meet
      exact ⟨rfl, ((hp.set_ 1 _).far (p := ⟨q, 1, none⟩) hpq _).drew, ((hq.far (p := ⟨p, 1, none⟩) (Ne.symm hpq) _).set_ 1 _).drew, (((Below.refl _ _).setCell hpl _).setCell hql _).drew⟩
    case rest =>
      clear hp hq
      obtain ⟨rfl, hp, hq, hB3⟩ := hcut
      have f3 := e3.below hB3 (by omega)
      have f4 := e4.below hB3 (by omega)
      have f5 := e5.below hB3 (by omega)
      have fB := Below.trans eB (hB3.mono (Below.size dBs.out))
      have z0 := (hB3.cell (p := ⟨g, o + k * 5, none⟩) dg).trans y0
      have z1 := (hB3.cell (p := ⟨g, o + k * 5 + 1, none⟩) dg).trans y1
      have z2 := (hB3.cell (p := ⟨g, o + k * 5 + 2, none⟩) dg).trans y2
      have z3 := (hB3.cell (p := ⟨g, o + k * 5 + 3, none⟩) dg).trans y3
      have z4 := (hB3.cell (p := ⟨g, o + k * 5 + 4, none⟩) dg).trans y4
      have m3 := f3.lt; have m4 := f4.lt; have m5 := f5.lt; have m7 := hp.lt; have m8 := hq.lt
      have mg : g < wc.heap.size := by omega
      clear y0 y1 y2 y3 y4 e3 e4 e5 eS eB r1 p1 q1 fp fq l3 l4 l5 l6 l7 l8 hB2 hB3
      have hEw : Hid (Ends wc) := hE1.out.below fB
      obtain ⟨q0, q1, q2, q3⟩ := jo_cells f3
      have r0 : wc.cell? ⟨w.heap.size + 1, 0, none⟩ = some (.int .i64 k) := f4.cell 0
      obtain ⟨s0, s1, s2, s3, s4, s5, s6, s7, s8, s9, _⟩ := su_all hp
      obtain ⟨t0, t1, t2, t3, t4, t5, t6, t7, t8, t9, _⟩ := su_all hq
      simp only [Su.moved] at s0 s1 s2 s3 s4 s5 s6 s7 s8 s9 t0 t1 t2 t3 t4 t5 t6 t7 t8 t9
      have hkc1 : (k : Int) < (j.fs.length : Int) := by omega
      have hkc0 : (0 : Int) ≤ (k : Int) := by omega
      rw [HF.out] at LN LF
      go_upto_region 9 with fail
      go_cut [12, 13] (fun s12 s13 wx => ∃ x y : Nat, s12 = .pointer (some ⟨x, 0, none⟩) ∧ s13 = .pointer (some ⟨y, 0, none⟩) ∧ Blk wx x 137 (ptP (metV j.thick j.fs[k].2 (s.moved (s.at_ - sh)))) ∧ Blk wx y 137 (ptP (metV j.thick j.fs[k].2 (s.moved (s.at_ + sh)))) ∧
        x ≠ y ∧ wc.heap.size ≤ x ∧ wc.heap.size ≤ y ∧ Below wc.heap.size wc wx)
      case first =>
        refine wp_region_w (Gr _) (by kernel_rfl) (Below.refl _ _).drew ?_
        refine wpW_det (t' := ?ct0R4) 0 (by rfl) (by kernel_rfl) (NQ_free _) (by kernel_rfl) ?cw0R4 ?ch0R4 ?ca0R4 (Eq.refl _) ?cH0R4
        case cw0R4 => (go_simp; done)
        case ch0R4 =>
          intro ds w' hS K hK
          have hc := (bcell hS).1; have hf := (bcell hS).2; have hz := hS.size; (try simp at hz); go_simp; (try go_bits)
          first
            | exact hK _ hS (Gr.refl _)
            | (go_at_call 62; (with_reducible refine (met_cells _ _ _ _ _ _ _ _ _ _ _ _ _ _ _ _ _ (hEw.out.below hS) ?_).mono ?_); (first | exact LN | exact LF); rintro e w1 ⟨rfl, hB1⟩; exact hK _ (Below.trans hS (Below.mono hB1 hS.size)) hB1)
            | exact hK _ (hS.alloc hS.size _) ((Below.refl _ _).alloc (Nat.le_refl _) _)
        case ca0R4 => (first | (simp [Act.put]; done) | (simp [Act.put, *]; done))
        try dsimp only
        refine wpW_det (t' := ?ct1R4) 1 (by rfl) (by kernel_rfl) (NQ_free _) (by kernel_rfl) ?cw1R4 ?ch1R4 ?ca1R4 (Eq.refl _) ?cH1R4
        case cw1R4 => (go_simp; done)
        case ch1R4 =>
          intro ds w' hS K hK
          have hc := (bcell hS).1; have hf := (bcell hS).2; have hz := hS.size; (try simp at hz); go_simp; (try go_bits)
          first
            | exact hK _ hS (Gr.refl _)
            | (go_at_call 62; (with_reducible refine (met_cells _ _ _ _ _ _ _ _ _ _ _ _ _ _ _ _ _ (hEw.out.below hS) ?_).mono ?_); (first | exact LN | exact LF); rintro e w1 ⟨rfl, hB1⟩; exact hK _ (Below.trans hS (Below.mono hB1 hS.size)) hB1)
            | exact hK _ (hS.alloc hS.size _) ((Below.refl _ _).alloc (Nat.le_refl _) _)
        case ca1R4 => (first | (simp [Act.put]; done) | (simp [Act.put, *]; done))
        try dsimp only
        refine wpW_det (t' := ?ct2R4) 2 (by rfl) (by kernel_rfl) (NQ_free _) (by kernel_rfl) ?cw2R4 ?ch2R4 ?ca2R4 (Eq.refl _) ?cH2R4
        case cw2R4 => (go_simp; done)
        case ch2R4 =>
          intro ds w' hS K hK
          have hc := (bcell hS).1; have hf := (bcell hS).2; have hz := hS.size; (try simp at hz); go_simp; (try go_bits)
          first
            | exact hK _ hS (Gr.refl _)
            | (go_at_call 62; (with_reducible refine (met_cells _ _ _ _ _ _ _ _ _ _ _ _ _ _ _ _ _ (hEw.out.below hS) ?_).mono ?_); (first | exact LN | exact LF); rintro e w1 ⟨rfl, hB1⟩; exact hK _ (Below.trans hS (Below.mono hB1 hS.size)) hB1)
            | exact hK _ (hS.alloc hS.size _) ((Below.refl _ _).alloc (Nat.le_refl _) _)
        case ca2R4 => (first | (simp [Act.put]; done) | (simp [Act.put, *]; done))
        try dsimp only
        refine wpW_det (t' := ?ct3R4) 3 (by rfl) (by kernel_rfl) (NQ_free _) (by kernel_rfl) ?cw3R4 ?ch3R4 ?ca3R4 (Eq.refl _) ?cH3R4
        case cw3R4 => (go_simp; done)
        case ch3R4 =>
          intro ds w' hS K hK
          have hc := (bcell hS).1; have hf := (bcell hS).2; have hz := hS.size; (try simp at hz); go_simp; (try go_bits)
          first
            | exact hK _ hS (Gr.refl _)
            | (go_at_call 62; (with_reducible refine (met_cells _ _ _ _ _ _ _ _ _ _ _ _ _ _ _ _ _ (hEw.out.below hS) ?_).mono ?_); (first | exact LN | exact LF); rintro e w1 ⟨rfl, hB1⟩; exact hK _ (Below.trans hS (Below.mono hB1 hS.size)) hB1)
            | exact hK _ (hS.alloc hS.size _) ((Below.refl _ _).alloc (Nat.le_refl _) _)
        case ca3R4 => (first | (simp [Act.put]; done) | (simp [Act.put, *]; done))
        try dsimp only
        refine wpW_det (t' := ?ct4R4) 4 (by rfl) (by kernel_rfl) (NQ_free _) (by kernel_rfl) ?cw4R4 ?ch4R4 ?ca4R4 (Eq.refl _) ?cH4R4
        case cw4R4 => (go_simp; done)
        case ch4R4 =>
          intro ds w' hS K hK
          have hc := (bcell hS).1; have hf := (bcell hS).2; have hz := hS.size; (try simp at hz); go_simp; (try go_bits)
          first
            | exact hK _ hS (Gr.refl _)
            | (go_at_call 62; (with_reducible refine (met_cells _ _ _ _ _ _ _ _ _ _ _ _ _ _ _ _ _ (hEw.out.below hS) ?_).mono ?_); (first | exact LN | exact LF); rintro e w1 ⟨rfl, hB1⟩; exact hK _ (Below.trans hS (Below.mono hB1 hS.size)) hB1)
            | exact hK _ (hS.alloc hS.size _) ((Below.refl _ _).alloc (Nat.le_refl _) _)
        case ca4R4 => (first | (simp [Act.put]; done) | (simp [Act.put, *]; done))
        try dsimp only
        refine wpW_det (t' := ?ct5R4) 5 (by rfl) (by kernel_rfl) (NQ_free _) (by kernel_rfl) ?cw5R4 ?ch5R4 ?ca5R4 (Eq.refl _) ?cH5R4
        case cw5R4 => (go_simp; done)
        case ch5R4 =>
          intro ds w' hS K hK
          have hc := (bcell hS).1; have hf := (bcell hS).2; have hz := hS.size; (try simp at hz); go_simp; (try go_bits)
          first
            | exact hK _ hS (Gr.refl _)
            | (go_at_call 62; (with_reducible refine (met_cells _ _ _ _ _ _ _ _ _ _ _ _ _ _ _ _ _ (hEw.out.below hS) ?_).mono ?_); (first | exact LN | exact LF); rintro e w1 ⟨rfl, hB1⟩; exact hK _ (Below.trans hS (Below.mono hB1 hS.size)) hB1)
            | exact hK _ (hS.alloc hS.size _) ((Below.refl _ _).alloc (Nat.le_refl _) _)
        case ca5R4 => (first | (simp [Act.put]; done) | (simp [Act.put, *]; done))
        try dsimp only
        refine wpW_det (t' := ?ct6R4) 6 (by rfl) (by kernel_rfl) (NQ_free _) (by kernel_rfl) ?cw6R4 ?ch6R4 ?ca6R4 (Eq.refl _) ?cH6R4
        case cw6R4 => (go_simp; done)
        case ch6R4 =>
          intro ds w' hS K hK
          have hc := (bcell hS).1; have hf := (bcell hS).2; have hz := hS.size; (try simp at hz); go_simp; (try go_bits)
          first
            | exact hK _ hS (Gr.refl _)
            | (go_at_call 62; (with_reducible refine (met_cells _ _ _ _ _ _ _ _ _ _ _ _ _ _ _ _ _ (hEw.out.below hS) ?_).mono ?_); (first | exact LN | exact LF); rintro e w1 ⟨rfl, hB1⟩; exact hK _ (Below.trans hS (Below.mono hB1 hS.size)) hB1)
            | exact hK _ (hS.alloc hS.size _) ((Below.refl _ _).alloc (Nat.le_refl _) _)
        case ca6R4 => (first | (simp [Act.put]; done) | (simp [Act.put, *]; done))
        try dsimp only
        refine wpW_det (t' := ?ct7R4) 7 (by rfl) (by kernel_rfl) (NQ_free _) (by kernel_rfl) ?cw7R4 ?ch7R4 ?ca7R4 (Eq.refl _) ?cH7R4
        case cw7R4 => (go_simp; done)
        case ch7R4 =>
          intro ds w' hS K hK
          have hc := (bcell hS).1; have hf := (bcell hS).2; have hz := hS.size; (try simp at hz); go_simp; (try go_bits)
          first
            | exact hK _ hS (Gr.refl _)
            | (go_at_call 62; (with_reducible refine (met_cells _ _ _ _ _ _ _ _ _ _ _ _ _ _ _ _ _ (hEw.out.below hS) ?_).mono ?_); (first | exact LN | exact LF); rintro e w1 ⟨rfl, hB1⟩; exact hK _ (Below.trans hS (Below.mono hB1 hS.size)) hB1)
            | exact hK _ (hS.alloc hS.size _) ((Below.refl _ _).alloc (Nat.le_refl _) _)
        case ca7R4 => (first | (simp [Act.put]; done) | (simp [Act.put, *]; done))
        try dsimp only
        refine wpW_det (t' := ?ct8R4) 8 (by rfl) (by kernel_rfl) (NQ_free _) (by kernel_rfl) ?cw8R4 ?ch8R4 ?ca8R4 (Eq.refl _) ?cH8R4
        case cw8R4 => (go_simp; done)
        case ch8R4 =>
          intro ds w' hS K hK
          have hc := (bcell hS).1; have hf := (bcell hS).2; have hz := hS.size; (try simp at hz); go_simp; (try go_bits)
          first
            | exact hK _ hS (Gr.refl _)
            | (go_at_call 62; (with_reducible refine (met_cells _ _ _ _ _ _ _ _ _ _ _ _ _ _ _ _ _ (hEw.out.below hS) ?_).mono ?_); (first | exact LN | exact LF); rintro e w1 ⟨rfl, hB1⟩; exact hK _ (Below.trans hS (Below.mono hB1 hS.size)) hB1)
            | exact hK _ (hS.alloc hS.size _) ((Below.refl _ _).alloc (Nat.le_refl _) _)
        case ca8R4 => (first | (simp [Act.put]; done) | (simp [Act.put, *]; done))
        try dsimp only
        refine wpW_det (t' := ?ct9R4) 9 (by rfl) (by kernel_rfl) (NQ_free _) (by kernel_rfl) ?cw9R4 ?ch9R4 ?ca9R4 (Eq.refl _) ?cH9R4
        case cw9R4 => (go_simp; done)
        case ch9R4 =>
          intro ds w' hS K hK
          have hc := (bcell hS).1; have hf := (bcell hS).2; have hz := hS.size; (try simp at hz); go_simp; (try go_bits)
          first
            | exact hK _ hS (Gr.refl _)
            | (go_at_call 62; (with_reducible refine (met_cells _ _ _ _ _ _ _ _ _ _ _ _ _ _ _ _ _ (hEw.out.below hS) ?_).mono ?_); (first | exact LN | exact LF); rintro e w1 ⟨rfl, hB1⟩; exact hK _ (Below.trans hS (Below.mono hB1 hS.size)) hB1)
            | exact hK _ (hS.alloc hS.size _) ((Below.refl _ _).alloc (Nat.le_refl _) _)
        case ca9R4 => (first | (simp [Act.put]; done) | (simp [Act.put, *]; done))
        try dsimp only
        refine wpW_det (t' := ?ct10R4) 10 (by rfl) (by kernel_rfl) (NQ_free _) (by kernel_rfl) ?cw10R4 ?ch10R4 ?ca10R4 (Eq.refl _) ?cH10R4
        case cw10R4 => (go_simp; done)
        case ch10R4 =>
          intro ds w' hS K hK
          have hc := (bcell hS).1; have hf := (bcell hS).2; have hz := hS.size; (try simp at hz); go_simp; (try go_bits)
          first
            | exact hK _ hS (Gr.refl _)
            | (go_at_call 62; (with_reducible refine (met_cells _ _ _ _ _ _ _ _ _ _ _ _ _ _ _ _ _ (hEw.out.below hS) ?_).mono ?_); (first | exact LN | exact LF); rintro e w1 ⟨rfl, hB1⟩; exact hK _ (Below.trans hS (Below.mono hB1 hS.size)) hB1)
            | exact hK _ (hS.alloc hS.size _) ((Below.refl _ _).alloc (Nat.le_refl _) _)
        case ca10R4 => (first | (simp [Act.put]; done) | (simp [Act.put, *]; done))
        try dsimp only
        refine wpW_det (t' := ?ct11R4) 11 (by rfl) (by kernel_rfl) (NQ_free _) (by kernel_rfl) ?cw11R4 ?ch11R4 ?ca11R4 (Eq.refl _) ?cH11R4
        case cw11R4 => (go_simp; done)
        case ch11R4 =>
          intro ds w' hS K hK
          have hc := (bcell hS).1; have hf := (bcell hS).2; have hz := hS.size; (try simp at hz); go_simp; (try go_bits)
          first
            | exact hK _ hS (Gr.refl _)
            | (go_at_call 62; (with_reducible refine (met_cells _ _ _ _ _ _ _ _ _ _ _ _ _ _ _ _ _ (hEw.out.below hS) ?_).mono ?_); (first | exact LN | exact LF); rintro e w1 ⟨rfl, hB1⟩; exact hK _ (Below.trans hS (Below.mono hB1 hS.size)) hB1)
            | exact hK _ (hS.alloc hS.size _) ((Below.refl _ _).alloc (Nat.le_refl _) _)
        case ca11R4 => (first | (simp [Act.put]; done) | (simp [Act.put, *]; done))
        try dsimp only
        refine wpW_det (t' := ?ct12R4) 12 (by rfl) (by kernel_rfl) (NQ_free _) (by kernel_rfl) ?cw12R4 ?ch12R4 ?ca12R4 (Eq.refl _) ?cH12R4
        case cw12R4 => (go_simp; done)
        case ch12R4 =>
          intro ds w' hS K hK
          have hc := (bcell hS).1; have hf := (bcell hS).2; have hz := hS.size; (try simp at hz); go_simp; (try go_bits)
          first
            | exact hK _ hS (Gr.refl _)
            | (go_at_call 62; (with_reducible refine (met_cells _ _ _ _ _ _ _ _ _ _ _ _ _ _ _ _ _ (hEw.out.below hS) ?_).mono ?_); (first | exact LN | exact LF); rintro e w1 ⟨rfl, hB1⟩; exact hK _ (Below.trans hS (Below.mono hB1 hS.size)) hB1)
            | exact hK _ (hS.alloc hS.size _) ((Below.refl _ _).alloc (Nat.le_refl _) _)
        case ca12R4 => (first | (simp [Act.put]; done) | (simp [Act.put, *]; done))
        try dsimp only
        refine wpW_det (t' := ?ct13R4) 13 (by rfl) (by kernel_rfl) (NQ_free _) (by kernel_rfl) ?cw13R4 ?ch13R4 ?ca13R4 (Eq.refl _) ?cH13R4
        case cw13R4 => (go_simp; done)
        case ch13R4 =>
          intro ds w' hS K hK
          have hc := (bcell hS).1; have hf := (bcell hS).2; have hz := hS.size; (try simp at hz); go_simp; (try go_bits)
          first
            | exact hK _ hS (Gr.refl _)
            | (go_at_call 62; (with_reducible refine (met_cells _ _ _ _ _ _ _ _ _ _ _ _ _ _ _ _ _ (hEw.out.below hS) ?_).mono ?_); (first | exact LN | exact LF); rintro e w1 ⟨rfl, hB1⟩; exact hK _ (Below.trans hS (Below.mono hB1 hS.size)) hB1)
            | exact hK _ (hS.alloc hS.size _) ((Below.refl _ _).alloc (Nat.le_refl _) _)
        case ca13R4 => (first | (simp [Act.put]; done) | (simp [Act.put, *]; done))
        try dsimp only
        refine wpW_det (t' := ?ct14R4) 14 (by rfl) (by kernel_rfl) (NQ_free _) (by kernel_rfl) ?cw14R4 ?ch14R4 ?ca14R4 (Eq.refl _) ?cH14R4
        case cw14R4 => (go_simp; done)
        case ch14R4 =>
          intro ds w' hS K hK
          have hc := (bcell hS).1; have hf := (bcell hS).2; have hz := hS.size; (try simp at hz); go_simp; (try go_bits)
          first
            | exact hK _ hS (Gr.refl _)
            | (go_at_call 62; (with_reducible refine (met_cells _ _ _ _ _ _ _ _ _ _ _ _ _ _ _ _ _ (hEw.out.below hS) ?_).mono ?_); (first | exact LN | exact LF); rintro e w1 ⟨rfl, hB1⟩; exact hK _ (Below.trans hS (Below.mono hB1 hS.size)) hB1)
            | exact hK _ (hS.alloc hS.size _) ((Below.refl _ _).alloc (Nat.le_refl _) _)
        case ca14R4 => (first | (simp [Act.put]; done) | (simp [Act.put, *]; done))
        try dsimp only
        refine wpW_det (t' := ?ct15R4) 15 (by rfl) (by kernel_rfl) (NQ_free _) (by kernel_rfl) ?cw15R4 ?ch15R4 ?ca15R4 (Eq.refl _) ?cH15R4
        case cw15R4 => (go_simp; done)
        case ch15R4 =>
          intro ds w' hS K hK
          have hc := (bcell hS).1; have hf := (bcell hS).2; have hz := hS.size; (try simp at hz); go_simp; (try go_bits)
          first
            | exact hK _ hS (Gr.refl _)
            | (go_at_call 62; (with_reducible refine (met_cells _ _ _ _ _ _ _ _ _ _ _ _ _ _ _ _ _ (hEw.out.below hS) ?_).mono ?_); (first | exact LN | exact LF); rintro e w1 ⟨rfl, hB1⟩; exact hK _ (Below.trans hS (Below.mono hB1 hS.size)) hB1)
            | exact hK _ (hS.alloc hS.size _) ((Below.refl _ _).alloc (Nat.le_refl _) _)
        case ca15R4 => (first | (simp [Act.put]; done) | (simp [Act.put, *]; done))
        try dsimp only
        refine wpW_det (t' := ?ct16R4) 16 (by rfl) (by kernel_rfl) (NQ_free _) (by kernel_rfl) ?cw16R4 ?ch16R4 ?ca16R4 (Eq.refl _) ?cH16R4
        case cw16R4 => (go_simp; done)
        case ch16R4 =>
          intro ds w' hS K hK
          have hc := (bcell hS).1; have hf := (bcell hS).2; have hz := hS.size; (try simp at hz); go_simp; (try go_bits)
          first
            | exact hK _ hS (Gr.refl _)
            | (go_at_call 62; (with_reducible refine (met_cells _ _ _ _ _ _ _ _ _ _ _ _ _ _ _ _ _ (hEw.out.below hS) ?_).mono ?_); (first | exact LN | exact LF); rintro e w1 ⟨rfl, hB1⟩; exact hK _ (Below.trans hS (Below.mono hB1 hS.size)) hB1)
            | exact hK _ (hS.alloc hS.size _) ((Below.refl _ _).alloc (Nat.le_refl _) _)
        case ca16R4 => (first | (simp [Act.put]; done) | (simp [Act.put, *]; done))
        try dsimp only
        refine wpW_det (t' := ?ct17R4) 17 (by rfl) (by kernel_rfl) (NQ_free _) (by kernel_rfl) ?cw17R4 ?ch17R4 ?ca17R4 (Eq.refl _) ?cH17R4
        case cw17R4 => (go_simp; done)
        case ch17R4 =>
          intro ds w' hS K hK
          have hc := (bcell hS).1; have hf := (bcell hS).2; have hz := hS.size; (try simp at hz); go_simp; (try go_bits)
          first
            | exact hK _ hS (Gr.refl _)
            | (go_at_call 62; (with_reducible refine (met_cells _ _ _ _ _ _ _ _ _ _ _ _ _ _ _ _ _ (hEw.out.below hS) ?_).mono ?_); (first | exact LN | exact LF); rintro e w1 ⟨rfl, hB1⟩; exact hK _ (Below.trans hS (Below.mono hB1 hS.size)) hB1)
            | exact hK _ (hS.alloc hS.size _) ((Below.refl _ _).alloc (Nat.le_refl _) _)
        case ca17R4 => (first | (simp [Act.put]; done) | (simp [Act.put, *]; done))
        try dsimp only
        refine wpW_det (t' := ?ct18R4) 18 (by rfl) (by kernel_rfl) (NQ_free _) (by kernel_rfl) ?cw18R4 ?ch18R4 ?ca18R4 (Eq.refl _) ?cH18R4
        case cw18R4 => (go_simp; done)
        case ch18R4 =>
          intro ds w' hS K hK
          have hc := (bcell hS).1; have hf := (bcell hS).2; have hz := hS.size; (try simp at hz); go_simp; (try go_bits)
          first
            | exact hK _ hS (Gr.refl _)
            | (go_at_call 62; (with_reducible refine (met_cells _ _ _ _ _ _ _ _ _ _ _ _ _ _ _ _ _ (hEw.out.below hS) ?_).mono ?_); (first | exact LN | exact LF); rintro e w1 ⟨rfl, hB1⟩; exact hK _ (Below.trans hS (Below.mono hB1 hS.size)) hB1)
            | exact hK _ (hS.alloc hS.size _) ((Below.refl _ _).alloc (Nat.le_refl _) _)
        case ca18R4 => (first | (simp [Act.put]; done) | (simp [Act.put, *]; done))
        try dsimp only
        refine wpW_det (t' := ?ct19R4) 19 (by rfl) (by kernel_rfl) (NQ_free _) (by kernel_rfl) ?cw19R4 ?ch19R4 ?ca19R4 (Eq.refl _) ?cH19R4
        case cw19R4 => (go_simp; done)
        case ch19R4 =>
          intro ds w' hS K hK
          have hc := (bcell hS).1; have hf := (bcell hS).2; have hz := hS.size; (try simp at hz); go_simp; (try go_bits)
          first
            | exact hK _ hS (Gr.refl _)
            | (go_at_call 62; (with_reducible refine (met_cells _ _ _ _ _ _ _ _ _ _ _ _ _ _ _ _ _ (hEw.out.below hS) ?_).mono ?_); (first | exact LN | exact LF); rintro e w1 ⟨rfl, hB1⟩; exact hK _ (Below.trans hS (Below.mono hB1 hS.size)) hB1)
            | exact hK _ (hS.alloc hS.size _) ((Below.refl _ _).alloc (Nat.le_refl _) _)
        case ca19R4 => (first | (simp [Act.put]; done) | (simp [Act.put, *]; done))
        try dsimp only
        refine wpW_branch [20, 21] (by kernel_rfl) (by simp) ?_
        intro w1 hg1 hS1
        have hc1 := (bcell hg1).1
        have hf1 := (bcell hg1).2
        have hz1 := hg1.size
        try simp at hz1
        refine each_cons ?_ (each_cons ?_ (each_nil))
        · refine wpOp_go (by rfl) (Eq.refl _) (by go_simp; done) ?_
          intro K hK
          go_simp
          try simp only [Act.put]
          refine hK _ _ (by repeat first | (with_reducible assumption) | ((with_reducible first | refine Below.setCell ?_ ?_ _ | refine Below.alloc ?_ ?_ _); rotate_left; · first | exact Nat.le_refl _ | (simp; done) | (simp; omega) | omega)) ?_
          clear hK K
          refine wpW_branch [21] (by kernel_rfl) (by simp) ?_
          intro w2 hg2 hS2
          have hc2 := (bcell hg2).1
          have hf2 := (bcell hg2).2
          have hz2 := hg2.size
          try simp at hz2
          have hl1_2 : w1.heap.size ≤ w2.heap.size := by omega
          try have hm1_2 : w1.heap.size < w2.heap.size := by omega
          refine each_cons ?_ (each_nil)
          refine wpOp_go (by rfl) (Eq.refl _) (by go_simp; done) ?_
          intro K hK
          go_simp
          try simp only [Act.put]
          refine hK _ _ (by repeat first | (with_reducible assumption) | ((with_reducible first | refine Below.setCell ?_ ?_ _ | refine Below.alloc ?_ ?_ _); rotate_left; · first | exact Nat.le_refl _ | (simp; done) | (simp; omega) | omega)) ?_
          clear hK K
          refine wpW_branch [22] (by kernel_rfl) (by simp) ?_
          intro w3 hg3 hS3
          have hc3 := (bcell hg3).1
          have hf3 := (bcell hg3).2
          have hz3 := hg3.size
          try simp at hz3
          have hl1_3 : w1.heap.size ≤ w3.heap.size := by omega
          try have hm1_3 : w1.heap.size < w3.heap.size := by omega
          have hl2_3 : w2.heap.size ≤ w3.heap.size := by omega
          try have hm2_3 : w2.heap.size < w3.heap.size := by omega
          refine each_cons ?_ (each_nil)
          refine wpOp_go (by rfl) (Eq.refl _) (by go_simp; done) ?_
          intro K hK
          go_simp
          try simp only [Act.put]
          refine hK _ _ (by repeat first | (with_reducible assumption) | ((with_reducible first | refine Below.setCell ?_ ?_ _ | refine Below.alloc ?_ ?_ _); rotate_left; · first | exact Nat.le_refl _ | (simp; done) | (simp; omega) | omega)) ?_
          clear hK K
          refine wpW_branch [23] (by kernel_rfl) (by simp) ?_
          intro w4 hg4 hS4
          have hc4 := (bcell hg4).1
          have hf4 := (bcell hg4).2
          have hz4 := hg4.size
          try simp at hz4
          have hl1_4 : w1.heap.size ≤ w4.heap.size := by omega
          try have hm1_4 : w1.heap.size < w4.heap.size := by omega
          have hl2_4 : w2.heap.size ≤ w4.heap.size := by omega
          try have hm2_4 : w2.heap.size < w4.heap.size := by omega
          have hl3_4 : w3.heap.size ≤ w4.heap.size := by omega
          try have hm3_4 : w3.heap.size < w4.heap.size := by omega
          refine each_cons ?_ (each_nil)
          refine wpOp_go (by rfl) (Eq.refl _) (by go_simp; done) ?_
          intro K hK
          go_simp
          try simp only [Act.put]
          refine hK _ _ (by repeat first | (with_reducible assumption) | ((with_reducible first | refine Below.setCell ?_ ?_ _ | refine Below.alloc ?_ ?_ _); rotate_left; · first | exact Nat.le_refl _ | (simp; done) | (simp; omega) | omega)) ?_
          clear hK K
          refine wpW_end (by kernel_rfl) ?_
          intro w5 hg5 hS5
          have hc5 := (bcell hg5).1
          have hf5 := (bcell hg5).2
          have hz5 := hg5.size
          try simp at hz5
          have hl1_5 : w1.heap.size ≤ w5.heap.size := by omega
          try have hm1_5 : w1.heap.size < w5.heap.size := by omega
          have hl2_5 : w2.heap.size ≤ w5.heap.size := by omega
          try have hm2_5 : w2.heap.size < w5.heap.size := by omega
          have hl3_5 : w3.heap.size ≤ w5.heap.size := by omega
          try have hm3_5 : w3.heap.size < w5.heap.size := by omega
          have hl4_5 : w4.heap.size ≤ w5.heap.size := by omega
          try have hm4_5 : w4.heap.size < w5.heap.size := by omega
          unfold NQ
          dsimp only
          go_wp2_with fail
          go_meet
          first
            | (obtain ⟨g1, g2, g3, g4, g5⟩ := two_new hS1 hg2 hg3; (with_reducible have g67 := two_set6 g1 g2 g3 hg4 hg5); obtain ⟨g6, g7⟩ := g67; exact ⟨_, _, rfl, rfl, g6, g7, g3, g4, g5, hS5⟩)
            | (obtain ⟨g1, g2, g3, g4, g5⟩ := two_new hS1 hg2 hg3; (with_reducible have g67 := two_set6 g2 g1 (Ne.symm g3) hg4 hg5); obtain ⟨g6, g7⟩ := g67; exact ⟨_, _, rfl, rfl, g6, g7, Ne.symm g3, g5, g4, hS5⟩)
        · refine wpOp_go (by rfl) (Eq.refl _) (by go_simp; done) ?_
          intro K hK
          go_simp
          try simp only [Act.put]
          refine hK _ _ (by repeat first | (with_reducible assumption) | ((with_reducible first | refine Below.setCell ?_ ?_ _ | refine Below.alloc ?_ ?_ _); rotate_left; · first | exact Nat.le_refl _ | (simp; done) | (simp; omega) | omega)) ?_
          clear hK K
          refine wpW_branch [20] (by kernel_rfl) (by simp) ?_
          intro w2 hg2 hS2
          have hc2 := (bcell hg2).1
          have hf2 := (bcell hg2).2
          have hz2 := hg2.size
          try simp at hz2
          have hl1_2 : w1.heap.size ≤ w2.heap.size := by omega
          try have hm1_2 : w1.heap.size < w2.heap.size := by omega
          refine each_cons ?_ (each_nil)
          refine wpOp_go (by rfl) (Eq.refl _) (by go_simp; done) ?_
          intro K hK
          go_simp
          try simp only [Act.put]
          refine hK _ _ (by repeat first | (with_reducible assumption) | ((with_reducible first | refine Below.setCell ?_ ?_ _ | refine Below.alloc ?_ ?_ _); rotate_left; · first | exact Nat.le_refl _ | (simp; done) | (simp; omega) | omega)) ?_
          clear hK K
          refine wpW_branch [22] (by kernel_rfl) (by simp) ?_
          intro w3 hg3 hS3
          have hc3 := (bcell hg3).1
          have hf3 := (bcell hg3).2
          have hz3 := hg3.size
          try simp at hz3
          have hl1_3 : w1.heap.size ≤ w3.heap.size := by omega
          try have hm1_3 : w1.heap.size < w3.heap.size := by omega
          have hl2_3 : w2.heap.size ≤ w3.heap.size := by omega
          try have hm2_3 : w2.heap.size < w3.heap.size := by omega
          refine each_cons ?_ (each_nil)
          refine wpOp_go (by rfl) (Eq.refl _) (by go_simp; done) ?_
          intro K hK
          go_simp
          try simp only [Act.put]
          refine hK _ _ (by repeat first | (with_reducible assumption) | ((with_reducible first | refine Below.setCell ?_ ?_ _ | refine Below.alloc ?_ ?_ _); rotate_left; · first | exact Nat.le_refl _ | (simp; done) | (simp; omega) | omega)) ?_
          clear hK K
          refine wpW_branch [23] (by kernel_rfl) (by simp) ?_
          intro w4 hg4 hS4
          have hc4 := (bcell hg4).1
          have hf4 := (bcell hg4).2
          have hz4 := hg4.size
          try simp at hz4
          have hl1_4 : w1.heap.size ≤ w4.heap.size := by omega
          try have hm1_4 : w1.heap.size < w4.heap.size := by omega
          have hl2_4 : w2.heap.size ≤ w4.heap.size := by omega
          try have hm2_4 : w2.heap.size < w4.heap.size := by omega
          have hl3_4 : w3.heap.size ≤ w4.heap.size := by omega
          try have hm3_4 : w3.heap.size < w4.heap.size := by omega
          refine each_cons ?_ (each_nil)
          refine wpOp_go (by rfl) (Eq.refl _) (by go_simp; done) ?_
          intro K hK
          go_simp
          try simp only [Act.put]
          refine hK _ _ (by repeat first | (with_reducible assumption) | ((with_reducible first | refine Below.setCell ?_ ?_ _ | refine Below.alloc ?_ ?_ _); rotate_left; · first | exact Nat.le_refl _ | (simp; done) | (simp; omega) | omega)) ?_
          clear hK K
          refine wpW_end (by kernel_rfl) ?_
          intro w5 hg5 hS5
          have hc5 := (bcell hg5).1
          have hf5 := (bcell hg5).2
          have hz5 := hg5.size
          try simp at hz5
          have hl1_5 : w1.heap.size ≤ w5.heap.size := by omega
          try have hm1_5 : w1.heap.size < w5.heap.size := by omega
          have hl2_5 : w2.heap.size ≤ w5.heap.size := by omega
          try have hm2_5 : w2.heap.size < w5.heap.size := by omega
          have hl3_5 : w3.heap.size ≤ w5.heap.size := by omega
          try have hm3_5 : w3.heap.size < w5.heap.size := by omega
          have hl4_5 : w4.heap.size ≤ w5.heap.size := by omega
          try have hm4_5 : w4.heap.size < w5.heap.size := by omega
          unfold NQ
          dsimp only
          go_wp2_with fail
          go_meet
          first
            | (obtain ⟨g1, g2, g3, g4, g5⟩ := two_new hS1 hg2 hg3; (with_reducible have g67 := two_set6 g1 g2 g3 hg4 hg5); obtain ⟨g6, g7⟩ := g67; exact ⟨_, _, rfl, rfl, g6, g7, g3, g4, g5, hS5⟩)
            | (obtain ⟨g1, g2, g3, g4, g5⟩ := two_new hS1 hg2 hg3; (with_reducible have g67 := two_set6 g2 g1 (Ne.symm g3) hg4 hg5); obtain ⟨g6, g7⟩ := g67; exact ⟨_, _, rfl, rfl, g6, g7, Ne.symm g3, g5, g4, hS5⟩)
      case rest =>
        obtain ⟨x, y, rfl, rfl, hx, hy, hxy, hxl, hyl, hB4⟩ := hcut
        have hP := metV_ok LN
        have hQ := metV_ok LF
        obtain ⟨P, HP⟩ : ∃ P, Hid (P = metV j.thick j.fs[k].2 (s.moved (s.at_ - sh))) := ⟨_, Lib.hid rfl⟩
        obtain ⟨Q, HQ⟩ : ∃ P, Hid (P = metV j.thick j.fs[k].2 (s.moved (s.at_ + sh))) := ⟨_, Lib.hid rfl⟩
        rw [← HP.out] at hP hx
        rw [← HQ.out] at hQ hy
        have g5 := f5.below hB4 (by omega)
        have gB := Below.trans fB (hB4.mono (Below.size fB))
        have n1 : w.heap.size + 1 + 1 < x := by omega
        have n2 : w.heap.size ≤ x := by omega
        clear f3 f4 f5 fB q0 q1 q2 q3 r0 s0 s1 s2 s3 s4 s5 s6 s7 s8 s9 t0 t1 t2 t3 t4 t5 t6 t7 t8 t9 z0 z1 z2 z3 z4 hp hq hB4 hxl hyl
        obtain ⟨a0, a1, a2, a3, a4, a5, af⟩ := blk6 hx
        obtain ⟨b0, b1, b2, b3, b4, b5, bf⟩ := blk6 hy
        have af4 := af 4
        go_upto_region 10 with fail
        go_cut [12] (fun s12 wx => s12 = .pointer (some ⟨x, 0, none⟩) ∧ Blk wx x 137 (ptP { P with none := P.none || Q.none || (P.up != Q.up) }) ∧ wc.grownBy wx (some x))
        case first =>
          obtain ⟨pa, pb, pc, pd, pn, pu⟩ := P
          obtain ⟨qa, qb, qc, qd, qn, qu⟩ := Q
          simp only at a0 a1 a2 a3 a4 a5 b0 b1 b2 b3 b4 b5
          have HX := Lib.hid hx; clear hx hy af bf
          cases pn
          · cases qn
            · go_wp2
              go_meet
              exact ⟨rfl, HX.out.set_ 4 _, only_setCell (World.grownBy.refl _ _) (.inl rfl) _⟩
            · go_wp2
              go_meet
              exact ⟨rfl, HX.out.set_ 4 _, only_setCell (World.grownBy.refl _ _) (.inl rfl) _⟩
          · go_wp2
            go_meet
            exact ⟨rfl, HX.out.set_ 4 _, only_setCell (World.grownBy.refl _ _) (.inl rfl) _⟩
        case rest =>
          obtain ⟨_, hx1, hg1⟩ := hcut
          have g6 := g5.grown hg1 (by simp; omega)
          have gC := gB.grown hg1 (Below.size gB) (fun k e => by cases e; omega)
          have hy1 := hy.grown hg1 (by simp; omega)
          have HXB := Lib.hid hx1
          clear g5 gB hy hx a0 a1 a2 a3 a4 a5 af af4 b0 b1 b2 b3 b4 b5 bf hg1
          obtain ⟨a0, a1, a2, a3, a4, a5, af⟩ := blk6 hx1
          obtain ⟨b0, b1, b2, b3, b4, b5, bf⟩ := blk6 hy1
          simp only at a0 a1 a2 a3 a4 a5
          by_cases hnn : (P.none || Q.none || (P.up != Q.up)) = true
          · have hEQ : Hid ((metV j.thick (faceAt j k) (s.moved (s.at_ - sh))).both (metV j.thick (faceAt j k) (s.moved (s.at_ + sh))) = { P with none := true }) := by
              refine Lib.hid ?_
              rw [HF.out, ← HP.out, ← HQ.out]; unfold PV.both; rw [if_pos hnn]
            rw [hnn] at hx1 a4
            clear hnn HXB
            go_wp2_with fail
            refine (told_r { P with none := true } _).mono ?_
            rintro e v5 ⟨rfl, hB6⟩
            have w5 := g6.below hB6 g6.lt
            obtain ⟨d0, d1, d2, d3, df⟩ := blk4 w5
            have e6 := Blk.set4 w5 (.int .i64 (toldR { P with none := true }).a) (.int .i64 (toldR { P with none := true }).b) (.int .i64 (toldR { P with none := true }).c) (.int .i64 (toldR { P with none := true }).d)
            obtain ⟨y0, y1, y2, y3, _⟩ := blk4 e6
            have hBw : Below w.heap.size w v5 := Below.trans gC (hB6.mono (Below.size gC))
            unfold prC
            go_wp2
            refine bodyPost_ret (v := prC (toldR { P with none := true })) ?_ rfl ⟨by rw [hEQ.out], Below.set4 hBw (by omega)⟩
            simp [results, Tryz.results23, go_sem, y0, y1, y2, y3, prC]
          · have hnf : (P.none || Q.none || (P.up != Q.up)) = false := by simpa using hnn
            have hEQ : Hid ((metV j.thick (faceAt j k) (s.moved (s.at_ - sh))).both (metV j.thick (faceAt j k) (s.moved (s.at_ + sh))) = (({ P with none := false } : PV).frm Q.a Q.b).to Q.c Q.d) := by
              refine Lib.hid ?_
              rw [HF.out, ← HP.out, ← HQ.out]; unfold PV.both; rw [if_neg hnn]
            rw [hnf] at hx1 a4
            clear hnn hnf HXB
            have hP0 : PV.ok { P with none := false } := ⟨hP.a, hP.b, hP.c, hP.d⟩
            have hP1 := PV.frm_ok hP0 hQ.a hQ.b
            have hP2 := PV.to_ok hP1 hQ.c hQ.d
            go_wp2_with fail
            refine (partFrom_any x Q.a Q.b { P with none := false } hP0 hQ.a hQ.b _ hx1).mono ?_
            rintro e w3 ⟨rfl, hx3, hg3⟩
            have g7 := g6.grown hg3 (by simp; omega)
            have gD := gC.grown hg3 (Below.size gC) (fun k e => by cases e; omega)
            have hy3 := hy1.grown hg3 (by simp; omega)
            clear hx1 hy1 hg3 a0 a1 a2 a3 a4 a5 af b0 b1 b2 b3 b4 b5 bf g6 gC
            obtain ⟨b0, b1, b2, b3, b4, b5, bf⟩ := blk6 hy3
            go_wp2_with fail
            refine (partTo_any x Q.c Q.d _ hP1 hQ.c hQ.d _ hx3).mono ?_
            rintro e w4 ⟨rfl, hx4, hg4⟩
            have g8 := g7.grown hg4 (by simp; omega)
            have gE := gD.grown hg4 (Below.size gD) (fun k e => by cases e; omega)
            clear hx3 hy3 hg4 b0 b1 b2 b3 b4 b5 bf g7 gD
            obtain ⟨R, HR⟩ : ∃ R, Hid (R = (({ P with none := false } : PV).frm Q.a Q.b).to Q.c Q.d) := ⟨_, Lib.hid rfl⟩
            rw [← HR.out] at hx4 hEQ
            obtain ⟨a0, a1, a2, a3, a4, a5, af⟩ := blk6 hx4
            go_wp2_with fail
            refine (told_r R _).mono ?_
            rintro e v5 ⟨rfl, hB6⟩
            have w5 := g8.below hB6 g8.lt
            obtain ⟨d0, d1, d2, d3, df⟩ := blk4 w5
            have e6 := Blk.set4 w5 (.int .i64 (toldR R).a) (.int .i64 (toldR R).b) (.int .i64 (toldR R).c) (.int .i64 (toldR R).d)
            obtain ⟨y0, y1, y2, y3, _⟩ := blk4 e6
            have hBw : Below w.heap.size w v5 := Below.trans gE (hB6.mono (Below.size gE))
            unfold prC
            go_wp2
            refine bodyPost_ret (v := prC (toldR R)) ?_ rfl ⟨by rw [hEQ.out], Below.set4 hBw (by omega)⟩
            simp [results, Tryz.results23, go_sem, y0, y1, y2, y3, prC]
end Go.Proofs.YtaekcfancfoccaaGreatDoor
