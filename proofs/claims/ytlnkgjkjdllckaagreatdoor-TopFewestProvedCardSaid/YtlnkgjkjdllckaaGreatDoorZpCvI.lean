/- Contracts: the part of a face that a set-up meets; whether it meets a point. -/
import Derived.Test.YtlnkgjkjdllckaaGreatDoorZpCvH
namespace Go.Proofs.YtlnkgjkjdllckaaGreatDoor
open Go.RowKit

theorem facesE_zero {thick : Int} : ∀ (l before : List (ByteArray × Fc)) (i : Nat), (facesE thick i before l).2 = 0 → ∀ k (h : k < l.length), faceE (before ++ l.take k) l[k].1 l[k].2 thick = 0
  | [], before, i, _, k, h => by simp at h
  | p :: l, before, i, h0, k, h => by
    unfold facesE at h0
    split at h0
    · rename_i hz
      cases k with
      | zero => simpa using hz
      | succ k =>
        have := facesE_zero l (before ++ [p]) (i + 1) h0 k (by simpa using h)
        simpa using this
    · rename_i hz
      exact absurd h0 hz
theorem jointE_zero {j : Jo} (h : (jointE j).2 = 0) : 1 ≤ j.thick ∧ j.thick ≤ 20000 ∧ 0 ≤ j.zone ∧ j.zone ≤ 20000 ∧ j.fs.length ≤ 12 ∧ ∀ k (hk : k < j.fs.length), faceE (j.fs.take k) j.fs[k].1 j.fs[k].2 j.thick = 0 := by
  unfold jointE at h
  split at h
  · simp at h
  · split at h
    · simp at h
    · split at h
      · simp at h
      · rename_i h1 h2 h3
        have hz := facesE_zero _ _ _ h
        simp only [List.nil_append] at hz
        simp [wi] at h2
        exact ⟨h2.1.1, h2.1.2, h2.2.1, h2.2.2, by omega, hz⟩
theorem faceE_zero {before : List (ByteArray × Fc)} {nm : ByteArray} {f : Fc} {thick : Int} (h : faceE before nm f thick = 0) :
    -20000 ≤ f.fx ∧ f.fx ≤ 20000 ∧ -20000 ≤ f.tx ∧ f.tx ≤ 20000 ∧ 0 ≤ f.fz ∧ f.fz ≤ thick ∧ 0 ≤ f.tz ∧ f.tz ≤ thick ∧ ¬ (f.fx = f.tx ∧ f.fz = f.tz) := by
  unfold faceE at h
  split at h
  · simp at h
  · split at h
    · simp at h
    · split at h
      · simp at h
      · rename_i h1 h2 h3
        split at h
        · simp at h
        · rename_i h4
          simp [wi] at h3
          exact ⟨by omega, by omega, by omega, by omega, by omega, by omega, by omega, by omega, h4⟩
theorem setupE_zero {nm : ByteArray} {s : Su} (h : setupE nm s = 0) : -20000 ≤ s.at_ ∧ s.at_ ≤ 20000 ∧ (s.side = 1 ∨ s.side = -1) ∧ (s.legs = 1 ∨ s.legs = 2) ∧ tanE s.ln s.ld = 0 ∧ tanE s.mn s.md = 0 ∧ tanE s.tn s.td = 0 ∧ s.ln * s.md ≤ s.mn * s.ld := by
  unfold setupE at h
  split at h
  · simp at h
  · split at h
    · simp at h
    · split at h
      · simp at h
      · rename_i h1 h2 h3
        split at h
        · exact absurd h ‹_›
        · split at h
          · exact absurd h ‹_›
          · split at h
            · exact absurd h ‹_›
            · split at h
              · simp at h
              · rename_i h4 h5 h6 h7
                simp [wi] at h2
                simp [kindB, wi] at h3
                simp only [ne_eq, Decidable.not_not] at h4 h5 h6
                exact ⟨by omega, by omega, by omega, by omega, h4, h5, h6, by omega⟩
/-- The places of a face. -/
def faceAt (j : Jo) (face : Int) : Fc := ((j.fs[face.toNat]?).map (·.2)).getD ⟨0, 0, 0, 0⟩
theorem openFaceE_zero {j : Jo} {face : Int} (h : openFaceE j face = 0) : (jointE j).2 = 0 ∧ ∃ k : Nat, face = k ∧ ∃ hk : k < j.fs.length, faceAt j face = j.fs[k].2 := by
  unfold openFaceE at h
  split at h
  · rename_i h0
    refine ⟨h0, face.toNat, ?_⟩
    simp [wi] at h
    refine ⟨by omega, by omega, ?_⟩
    unfold faceAt
    rw [List.getElem?_eq_getElem (by omega)]
    rfl
  · exact absurd h ‹_›
theorem askE_zero {j : Jo} {face : Int} {sn : ByteArray} {s : Su} (h : askE j face sn s = 0) : openFaceE j face = 0 ∧ setupE sn s = 0 := by
  unfold askE at h
  split at h
  · exact ⟨‹_›, h⟩
  · exact absurd h ‹_›

/-- What was found of a face in a right joint. -/
theorem lim_of {j : Jo} {face : Int} {sn : ByteArray} {s : Su} (h : askE j face sn s = 0) : Lim j.thick (faceAt j face) s := by
  obtain ⟨h1, h2⟩ := askE_zero h
  obtain ⟨h3, k, rfl, hk, he⟩ := openFaceE_zero h1
  obtain ⟨a1, a2, a3, a4, a5, a6⟩ := jointE_zero h3
  obtain ⟨b1, b2, b3, b4, b5, b6, b7, b8, b9⟩ := faceE_zero (a6 k hk)
  obtain ⟨c1, c2, c3, c4, c5, c6, c7, c8⟩ := setupE_zero h2
  have d1 := tanE_zero c5
  have d2 := tanE_zero c6
  have d3 := tanE_zero c7
  rw [he]
  exact ⟨by omega, by omega, by omega, by omega, by omega, by omega, by omega, by omega, by omega, by omega, by omega, by omega, by omega⟩

theorem as_cells {w : World} {g : Nat} {face : Int} {sn : ByteArray} {s : Su} (h : Blk w g 60 (asC face sn s)) :
    w.cell? ⟨g, 0, none⟩ = some (.int .i64 face) ∧ w.cell? ⟨g, 1, none⟩ = some (.string sn) ∧ w.cell? ⟨g, 2, none⟩ = some (.int .i64 s.at_) ∧ w.cell? ⟨g, 3, none⟩ = some (.int .i64 s.side) ∧ w.cell? ⟨g, 4, none⟩ = some (.int .i64 s.legs) ∧
    w.cell? ⟨g, 5, none⟩ = some (.int .i64 s.ln) ∧ w.cell? ⟨g, 6, none⟩ = some (.int .i64 s.ld) ∧ w.cell? ⟨g, 7, none⟩ = some (.int .i64 s.mn) ∧ w.cell? ⟨g, 8, none⟩ = some (.int .i64 s.md) ∧
    w.cell? ⟨g, 9, none⟩ = some (.int .i64 s.tn) ∧ w.cell? ⟨g, 10, none⟩ = some (.int .i64 s.td) :=
  ⟨h.cell 0, h.cell 1, h.cell 2, h.cell 3, h.cell 4, h.cell 5, h.cell 6, h.cell 7, h.cell 8, h.cell 9, h.cell 10⟩

theorem blk4 {w : World} {g t : Nat} {v0 v1 v2 v3 : Value} (h : Blk w g t #[v0, v1, v2, v3]) :
    w.cell? ⟨g, 0, none⟩ = some v0 ∧ w.cell? ⟨g, 1, none⟩ = some v1 ∧ w.cell? ⟨g, 2, none⟩ = some v2 ∧ w.cell? ⟨g, 3, none⟩ = some v3 ∧ ∀ i, w.frozen? ⟨g, i, none⟩ = false :=
  ⟨h.cell 0, h.cell 1, h.cell 2, h.cell 3, h.frozen⟩
theorem Below.set4 {n g : Nat} {a b : World} {u0 u1 u2 u3 : Value} (h : Below n a b) (hg : n ≤ g) :
    Below n a ((((b.setCell ⟨g, 0, none⟩ u0).setCell ⟨g, 1, none⟩ u1).setCell ⟨g, 2, none⟩ u2).setCell ⟨g, 3, none⟩ u3) :=
  (((h.setCell hg _).setCell hg _).setCell hg _).setCell hg _
theorem Blk.set4 {g : Nat} {b : World} {t : TypeId} {v0 v1 v2 v3 : Value} (h : Blk b g t #[v0, v1, v2, v3]) (u0 u1 u2 u3 : Value) :
    Blk ((((b.setCell ⟨g, 0, none⟩ u0).setCell ⟨g, 1, none⟩ u1).setCell ⟨g, 2, none⟩ u2).setCell ⟨g, 3, none⟩ u3) g t #[u0, u1, u2, u3] :=
  (((h.set_ 0 u0).set_ 1 u1).set_ 2 u2).set_ 3 u3

/-- A part, or the error. -/
structure PR where
  a : Int
  b : Int
  c : Int
  d : Int
  e : Int
deriving DecidableEq
def prC (r : PR) : Value := .tuple #[.agg #[.int .i64 r.a, .int .i64 r.b, .int .i64 r.c, .int .i64 r.d], .int .i64 r.e]
def toldR (p : PV) : PR := if p.none then ⟨0, 0, 0, 0, 12⟩ else ⟨p.a, p.b, p.c, p.d, 0⟩
theorem told_r (p : PV) (w : World) : Calls Tryz.prog 38 #[.agg (ptP p)] w fun e w' => e = .returned (prC (toldR p)) ∧ Below w.heap.size w w' := by
  refine (told_any p w).mono ?_
  rintro e w' ⟨he, hB⟩
  refine ⟨?_, hB⟩
  rw [he]
  unfold toldR
  split <;> rfl
def partOfR (j : Jo) (face : Int) (sn : ByteArray) (s : Su) : PR := if askE j face sn s = 0 then toldR (metV j.thick (faceAt j face) s) else ⟨0, 0, 0, 0, askE j face sn s⟩

set_option maxRecDepth 100000 in
set_option maxHeartbeats 1000000 in
theorem partOf_any (j : Jo) (face : Int) (sn : ByteArray) (s : Su) (A : Option Addr) (c B : Nat) (w : World) (hj : JoOk j A c B w) (hE : Ends w) (hsn : sn.size ≤ 1000000000000) (hw : s.wf) :
    Calls Tryz.prog 14 #[.agg (joC j A c), .agg (asC face sn s)] w fun e w' => e = .returned (prC (partOfR j face sn s)) ∧ Below w.heap.size w w' := by
  obtain ⟨k1, k2, k3, k4, hR, hB⟩ := hj
  have hE1 := Lib.hid hE; clear hE
  unfold joC asC
  by_cases h0 : askE j face sn s = 0
  · have h1 : (askE j face sn s != 0) = false := by simpa using h0
    have HE : Hid (partOfR j face sn s = toldR (metV j.thick (faceAt j face) s)) := by unfold partOfR; rw [if_pos h0]; rfl
    have L := lim_of h0
    obtain ⟨k, rfl, hk, hfa⟩ := (openFaceE_zero (askE_zero h0).1).2
    have H0 := Lib.hid h0; have HF := Lib.hid hfa; clear h0 hfa
    go_enter Tryz.func14, Tryz.ntmps14
    go_wp2_with fail
    refine (openAsk_any j k sn s A c B _ k1 k2 k3 k4 (((hR.alloc hB _).alloc (by simp; omega) _).alloc (by simp; omega) _) (by simp; omega) hsn hw).mono ?_
    rintro e w1 ⟨rfl, hB1⟩; obtain ⟨hc1, hf1⟩ := bcell hB1; have hz1 := hB1.size; (try simp at hz1)
    obtain ⟨g, o, hA, hg, c0, c1, c2, c3, c4⟩ := faceCells ((((hR.alloc hB _).alloc (by simp; omega) _).alloc (by simp; omega) _).below hB1 (by simp; omega)) hk
    subst hA
    have b3 : Blk w1 w.heap.size 24 (joC j (some ⟨g, o, none⟩) c) := by refine Blk.below ?_ hB1 (by first | (simp; done) | (simp; omega)); exact (by repeat (first | assumption | apply Blk.drew | (refine Blk.new' _ _ _ ?_; first | rfl | (simp; done) | (simp; omega)) | (refine Blk.alloc ?_ _)))
    have b4 : Blk w1 (w.heap.size + 1) 60 (asC k sn s) := by refine Blk.below ?_ hB1 (by first | (simp; done) | (simp; omega)); exact (by repeat (first | assumption | apply Blk.drew | (refine Blk.new' _ _ _ ?_; first | rfl | (simp; done) | (simp; omega)) | (refine Blk.alloc ?_ _)))
    have b5 : Blk w1 (w.heap.size + 1 + 1) 37 #[.int .i64 0, .int .i64 0, .int .i64 0, .int .i64 0] := by refine Blk.below ?_ hB1 (by first | (simp; done) | (simp; omega)); exact (by repeat (first | assumption | apply Blk.drew | (refine Blk.new' _ _ _ ?_; first | rfl | (simp; done) | (simp; omega)) | (refine Blk.alloc ?_ _)))
    have hBB : Below w.heap.size w w1 := (by repeat (first | (with_reducible exact Below.refl _ _) | (with_reducible assumption) | ((with_reducible refine Below.setCell ?_ ?_ _); rotate_left; · (first | exact Nat.le_refl _ | (simp; done) | (simp; omega) | omega)) | ((with_reducible refine Below.alloc ?_ ?_ _); rotate_left; · (first | exact Nat.le_refl _ | (simp; done) | (simp; omega) | omega)) | (with_reducible apply Below.drew) | (with_reducible apply below_drewN') | (refine Below.trans ?_ (Below.mono (by assumption) (by first | exact Nat.le_refl _ | (simp; done) | (simp; omega) | omega))) | exact Below.refl _ _ | assumption))
    have hEw : Hid (Ends w1) := hE1.out.below hBB
    obtain ⟨q0, q1, q2, q3⟩ := jo_cells b3
    obtain ⟨r0, r1, r2, r3, r4, r5, r6, r7, r8, r9, r10⟩ := as_cells b4
    have l3 := b3.lt; have l4 := b4.lt; have l5 := b5.lt
    have lg : g < w1.heap.size := by omega
    clear hc1 hf1 hB1 hE1 k1 k2 hR
    have hkc1 : (k : Int) < (j.fs.length : Int) := by omega
    have hkc0 : (0 : Int) ≤ (k : Int) := by omega
    go_wp2_with fail
    refine wp_region_b 14 (by kernel_rfl) (by kernel_rfl) ?_; simp only [List.take, List.drop]
    repeat (first
      | (apply StepsD.run
         · go_simp
           done
         · intro w' hS K hK
           have hc := (bcell hS).1
           have hf := (bcell hS).2
           have hz := hS.size
           try simp at hz
           go_simp
           try go_bits
           first
             | exact hK _ hS
             | (go_at_call 37; refine (met_any j.thick j.fs[k].2 s j.fs[k].1 sn _ (hEw.out.below (hS.mono (Nat.le_refl _))) (by rw [← HF.out]; exact L)).mono ?_; rintro e w1 ⟨rfl, hB1⟩; obtain ⟨hc1, hf1⟩ := bcell hB1; have hz1 := hB1.size; (try simp at hz1); exact hK _ (Below.trans hS (Below.mono hB1 (by first | exact Nat.le_refl _ | (simp; done) | (simp; omega) | omega))))
             | (go_at_call 38; refine (told_r _ _).mono ?_; rintro e w1 ⟨rfl, hB1⟩; obtain ⟨hc1, hf1⟩ := bcell hB1; have hz1 := hB1.size; (try simp at hz1); exact hK _ (Below.trans hS (Below.mono hB1 (by first | exact Nat.le_refl _ | (simp; done) | (simp; omega) | omega))))
             | exact hK _ (by repeat (first | (with_reducible exact Below.refl _ _) | (with_reducible assumption) | ((with_reducible refine Below.setCell ?_ ?_ _); rotate_left; · (first | exact Nat.le_refl _ | (simp; done) | (simp; omega) | omega)) | ((with_reducible refine Below.alloc ?_ ?_ _); rotate_left; · (first | exact Nat.le_refl _ | (simp; done) | (simp; omega) | omega)) | (with_reducible apply Below.drew) | (with_reducible apply below_drewN') | (refine Below.trans ?_ (Below.mono (by assumption) (by first | exact Nat.le_refl _ | (simp; done) | (simp; omega) | omega))) | exact Below.refl _ _ | assumption))
         · simp [Act.put]
           done)
      | (apply StepsD.pass
         · first | (go_simp; done) | rfl
         · simp only [Act.put, List.setIfInBounds_toArray, List.set_cons_succ, List.set_cons_zero]
           rfl))
    refine StepsD.done ?_
    intro w' hS; have hc := (bcell hS).1; have hf := (bcell hS).2; have hz := hS.size; (try simp at hz)
    have b6 := b5.below hS l5
    obtain ⟨d0, d1, d2, d3, df⟩ := blk4 b6
    have e6 := Blk.set4 b6 (.int .i64 (toldR (metV j.thick j.fs[k].2 s)).a) (.int .i64 (toldR (metV j.thick j.fs[k].2 s)).b) (.int .i64 (toldR (metV j.thick j.fs[k].2 s)).c) (.int .i64 (toldR (metV j.thick j.fs[k].2 s)).d)
    obtain ⟨y0, y1, y2, y3, _⟩ := blk4 e6
    have hBw : Below w.heap.size w w' := Below.trans hBB (hS.mono (Below.size hBB))
    clear hc hf
    go_wp2
    refine bodyPost_ret (v := prC (toldR (metV j.thick j.fs[k].2 s))) ?_ rfl ⟨by rw [HE.out, HF.out], Below.set4 hBw (by omega)⟩
    simp [results, Tryz.results14, go_sem, y0, y1, y2, y3, prC]
  · have h1 : (askE j face sn s != 0) = true := by simpa using h0
    have HE : Hid (partOfR j face sn s = ⟨0, 0, 0, 0, askE j face sn s⟩) := by unfold partOfR; rw [if_neg h0]; rfl
    have H0 := Lib.hid h0; clear h0
    go_enter Tryz.func14, Tryz.ntmps14
    go_wp2_with fail
    refine (openAsk_any j face sn s A c B _ k1 k2 k3 k4 (((hR.alloc hB _).alloc (by simp; omega) _).alloc (by simp; omega) _) (by simp; omega) hsn hw).mono ?_
    rintro e w1 ⟨rfl, hB1⟩; obtain ⟨hc1, hf1⟩ := bcell hB1; have hz1 := hB1.size; (try simp at hz1)
    go_wp2
    refine bodyPost_ret (v := prC ⟨0, 0, 0, 0, askE j face sn s⟩) ?_ rfl ⟨by rw [HE.out], (by repeat (first | (with_reducible exact Below.refl _ _) | (with_reducible assumption) | ((with_reducible refine Below.setCell ?_ ?_ _); rotate_left; · (first | exact Nat.le_refl _ | (simp; done) | (simp; omega) | omega)) | ((with_reducible refine Below.alloc ?_ ?_ _); rotate_left; · (first | exact Nat.le_refl _ | (simp; done) | (simp; omega) | omega)) | (with_reducible apply Below.drew) | (with_reducible apply below_drewN') | (refine Below.trans ?_ (Below.mono (by assumption) (by first | exact Nat.le_refl _ | (simp; done) | (simp; omega) | omega))) | exact Below.refl _ _ | assumption))⟩
    simp [results, Tryz.results14, go_sem, hc1, prC]
end Go.Proofs.YtlnkgjkjdllckaaGreatDoor
