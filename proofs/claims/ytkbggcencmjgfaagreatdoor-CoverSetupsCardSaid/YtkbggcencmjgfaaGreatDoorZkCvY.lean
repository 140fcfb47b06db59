/- Contract: FirstGap. -/
import Derived.Test.YtkbggcencmjgfaaGreatDoorZkCvX
namespace Go.Proofs.YtkbggcencmjgfaaGreatDoor
open Go.RowKit

def gapR (r : (Int × Int × Int × Int) × Bool) : PR := if r.2 then ⟨r.1.1, r.1.2.1, r.1.2.2.1, r.1.2.2.2, 0⟩ else ⟨0, 0, 0, 0, 12⟩
theorem JoOk.below {j : Jo} {A : Option Addr} {c B : Nat} {w w' : World} (h : JoOk j A c B w) {C : Nat} (hb : Below C w w') (hC : B ≤ C) : JoOk j A c B w' :=
  ⟨h.nm, h.fs, h.len, h.cap, h.row.below hb hC, Nat.le_trans h.base hb.size⟩
theorem SuOk.below {l : List (ByteArray × Su)} {A : Option Addr} {c B : Nat} {w w' : World} (h : SuOk l A c B w) {C : Nat} (hb : Below C w w') (hC : B ≤ C) : SuOk l A c B w' :=
  ⟨h.nm, h.wf, h.len, h.cap, h.row.below hb hC, Nat.le_trans h.base hb.size⟩

/-- What FirstGap tells. -/
def FGap (j : Jo) (face : Int) (l : List (ByteArray × Su)) (e : Ending) : Prop :=
  (faceSetupsE j face l = 0 → ∃ (k : Nat) (ps l' : List GP), face = k ∧ ps.map Subtype.val = partsV j k l ∧ l'.Perm (selG ps (List.range l.length)) ∧ l'.Pairwise (fun x y => x.1.a * y.1.b ≤ y.1.a * x.1.b) ∧ e = .returned (prC (gapR (gapL (0, 1) l')))) ∧
  (¬ faceSetupsE j face l = 0 → e = .returned (prC ⟨0, 0, 0, 0, faceSetupsE j face l⟩))
theorem FGap.bad {j : Jo} {face : Int} {l : List (ByteArray × Su)} (h : ¬ faceSetupsE j face l = 0) : FGap j face l (.returned (prC ⟨0, 0, 0, 0, faceSetupsE j face l⟩)) := ⟨fun h' => absurd h' h, fun _ => rfl⟩

set_option maxRecDepth 100000 in
set_option maxHeartbeats 2000000 in
theorem firstGap_any (j : Jo) (face : Int) (l : List (ByteArray × Su)) (A : Option Addr) (c B : Nat) (A' : Option Addr) (c' : Nat) (w : World) (hj : JoOk j A c B w) (hl : SuOk l A' c' B w) (hE : Ends w) :
    Calls Tryz.prog 24 #[.agg (joC j A c), .int .i64 face, .slice A' l.length c'] w fun e w' => FGap j face l e ∧ Below w.heap.size w w' := by
  have hE1 := Lib.hid hE; clear hE
  have HJ := Lib.hid hj; have HL := Lib.hid hl
  by_cases h0 : faceSetupsE j face l = 0
  · have hq : (faceSetupsE j face l != 0) = false := by simpa using h0
    have h1 : openFaceE j face = 0 := by unfold faceSetupsE at h0; split at h0 <;> first | assumption | (exact absurd h0 ‹_›)
    have h2 : setupsE l = 0 := by unfold faceSetupsE at h0; rw [if_pos h1] at h0; exact h0
    obtain ⟨k, rfl, hk, hfa⟩ := (openFaceE_zero h1).2
    obtain ⟨ps, hps⟩ := partsG j k l h1 h2
    have H0 := Lib.hid h0; have H1 := Lib.hid h1; have H2 := Lib.hid h2; have HPS := Lib.hid hps
    clear h0 h1 h2 hfa hps
    have hpl : ps.length = l.length := by have := congrArg List.length HPS.out; simpa [partsV] using this
    have hll := (setupsE_zero H2.out).1
    obtain ⟨k1, k2, k3, k4, hR, hB⟩ := hj
    obtain ⟨i1, i2, i3, i4, iR, _⟩ := hl
    unfold joC
    go_enter Tryz.func24, Tryz.ntmps24
    have bj0 : Blk (w.alloc (.cells (joC j A c) 38)) w.heap.size 38 (joC j A c) := Blk.new w _ _
    unfold joC at bj0
    go_wp2_with fail
    have hBA : Below w.heap.size w ((w.alloc (.cells (joC j A c) 38)).alloc (.cells #[.int .i64 0, .int .i64 0, .int .i64 0, .int .i64 0] 56)) := (by repeat (first | (with_reducible exact Below.refl _ _) | (with_reducible assumption) | ((with_reducible refine Below.setCell ?_ ?_ _); rotate_left; · (first | exact Nat.le_refl _ | (simp; done) | (simp; omega) | omega)) | ((with_reducible refine Below.alloc ?_ ?_ _); rotate_left; · (first | exact Nat.le_refl _ | (simp; done) | (simp; omega) | omega)) | (with_reducible apply Below.drew) | (with_reducible apply below_drewN') | (refine Below.trans ?_ (Below.mono (by assumption) (by first | exact Nat.le_refl _ | (simp; done) | (simp; omega) | omega))) | exact Below.refl _ _ | assumption))
    unfold joC at hBA
    refine (openFaceSetups_any j k l A c B A' c' _ (HJ.out.below hBA hB) (HL.out.below hBA hB)).mono ?_
    rw [H0.out]
    rintro e w1 ⟨rfl, hB1⟩; obtain ⟨hc1, hf1⟩ := bcell hB1; have hz1 := hB1.size; (try simp at hz1)
    have bj : Blk w1 w.heap.size 38 (joC j A c) := by refine Blk.below ?_ hB1 (by first | (simp; done) | (simp; omega)); exact (by repeat (first | assumption | apply Blk.drew | (refine Blk.new' _ _ _ ?_; first | rfl | (simp; done) | (simp; omega)) | (refine Blk.alloc ?_ _)))
    have br : Blk w1 (w.heap.size + 1) 56 #[.int .i64 0, .int .i64 0, .int .i64 0, .int .i64 0] := by refine Blk.below ?_ hB1 (by first | (simp; done) | (simp; omega)); exact (by repeat (first | assumption | apply Blk.drew | (refine Blk.new' _ _ _ ?_; first | rfl | (simp; done) | (simp; omega)) | (refine Blk.alloc ?_ _)))
    have hBB : Below w.heap.size w w1 := (by repeat (first | (with_reducible exact Below.refl _ _) | (with_reducible assumption) | ((with_reducible refine Below.setCell ?_ ?_ _); rotate_left; · (first | exact Nat.le_refl _ | (simp; done) | (simp; omega) | omega)) | ((with_reducible refine Below.alloc ?_ ?_ _); rotate_left; · (first | exact Nat.le_refl _ | (simp; done) | (simp; omega) | omega)) | (with_reducible apply Below.drew) | (with_reducible apply below_drewN') | (refine Below.trans ?_ (Below.mono (by assumption) (by first | exact Nat.le_refl _ | (simp; done) | (simp; omega) | omega))) | exact Below.refl _ _ | assumption))
    clear hc1 hf1 hB1 hBA bj0
    obtain ⟨q0, q1, q2, q3⟩ := jo_cells bj
    have lj := bj.lt; have lr := br.lt
    go_wp2_with fail
    refine (faceOf_any j k l A c B A' c' _ (HJ.out.below hBB hB) (HL.out.below hBB hB) (hE1.out.below hBB) H1.out H2.out).mono ?_
    rintro e w2 ⟨v2, rfl, own2, hB2⟩
    go_wp2_with fail
    refine (all_any l.length A' c' _ (by omega)).mono ?_
    rintro e w3 ⟨v3, rfl, own3, hB3⟩
    rw [← HPS.out, ptsC_flat, ← hpl] at own2
    rw [natsC_upTo] at own3
    obtain ⟨A2, cap2, rfl, hr2⟩ := Row.own own2
    obtain ⟨A3, cap3, rfl, hr3⟩ := Row.own own3
    have hr2' := (hr2.below hB3 (Nat.le_refl _)).more hB3.size
    have hBC : Below w.heap.size w w3 := (hBB.trans (hB2.mono hBB.size)).trans (hB3.mono (Nat.le_trans hBB.size hB2.size))
    have br3 := Blk.below (Blk.below br hB2 lr) hB3 (Nat.lt_of_lt_of_le lr hB2.size)
    have hg := Lib.hid (gap_any ps (List.range l.length) A2 cap2 A3 cap3 w3 (by omega) (by simp; omega) (by intro n hn; rw [hpl]; exact List.mem_range.1 hn) hr2' (by simpa using hr3) (hE1.out.below hBC))
    have lr3 := br3.lt
    rw [List.length_range, hpl] at hg
    clear hB2 hB3 own2 own3 hr2 hr3 hr2' br bj q0 q1 q2 q3 lj lr hBB hR iR
    rw [hpl]
    go_wp2_with fail
    refine hg.out.mono ?_
    rintro e w4 ⟨l', hp, hs, rfl, hB4⟩
    have HP := Lib.hid hp; have HS := Lib.hid hs
    have br4 := br3.below hB4 lr3
    have lr4 := br4.lt
    have hBD := hBC.trans (hB4.mono hBC.size)
    obtain ⟨⟨⟨ra, rb, rc, rd⟩, rz⟩, HR⟩ : ∃ r, Hid (r = gapL (0, 1) l') := ⟨_, Lib.hid rfl⟩
    rw [← HR.out]
    unfold gapC
    obtain ⟨d0, d1, d2, d3, df⟩ := blk4 br4
    clear hp hs hg br3 hB4
    cases rz
    · have e6 := (Blk.set4 br4 (.int .i64 0) (.int .i64 0) (.int .i64 0) (.int .i64 0)).alloc (.cells #[.int .i64 ra, .int .i64 rb, .int .i64 rc, .int .i64 rd] 56 (0, 0))
      obtain ⟨z0, z1, z2, z3, _⟩ := blk4 e6
      have hG : FGap j k l (.returned (prC ⟨0, 0, 0, 0, 12⟩)) := ⟨fun _ => ⟨k, ps, l', rfl, HPS.out, HP.out, HS.out, by rw [← HR.out]; rfl⟩, fun h => absurd H0.out h⟩
      go_wp2
      refine bodyPost_ret (v := prC ⟨0, 0, 0, 0, 12⟩) ?_ rfl ⟨hG, (Below.set4 hBD (by omega)).alloc (by rw [show ∀ (u0 u1 u2 u3 : Value), ((((w4.setCell ⟨w.heap.size + 1, 0, none⟩ u0).setCell ⟨w.heap.size + 1, 1, none⟩ u1).setCell ⟨w.heap.size + 1, 2, none⟩ u2).setCell ⟨w.heap.size + 1, 3, none⟩ u3).heap.size = w4.heap.size by intros; simp]; exact hBD.size) _⟩
      simp [results, Tryz.results24, go_sem, z0, z1, z2, z3, prC]
    · have e6 := (Blk.set4 br4 (.int .i64 ra) (.int .i64 rb) (.int .i64 rc) (.int .i64 rd)).alloc (.cells #[.int .i64 ra, .int .i64 rb, .int .i64 rc, .int .i64 rd] 56 (0, 0))
      obtain ⟨z0, z1, z2, z3, _⟩ := blk4 e6
      have hG : FGap j k l (.returned (prC ⟨ra, rb, rc, rd, 0⟩)) := ⟨fun _ => ⟨k, ps, l', rfl, HPS.out, HP.out, HS.out, by rw [← HR.out]; rfl⟩, fun h => absurd H0.out h⟩
      go_wp2
      refine bodyPost_ret (v := prC ⟨ra, rb, rc, rd, 0⟩) ?_ rfl ⟨hG, (Below.set4 hBD (by omega)).alloc (by rw [show ∀ (u0 u1 u2 u3 : Value), ((((w4.setCell ⟨w.heap.size + 1, 0, none⟩ u0).setCell ⟨w.heap.size + 1, 1, none⟩ u1).setCell ⟨w.heap.size + 1, 2, none⟩ u2).setCell ⟨w.heap.size + 1, 3, none⟩ u3).heap.size = w4.heap.size by intros; simp]; exact hBD.size) _⟩
      simp [results, Tryz.results24, go_sem, z0, z1, z2, z3, prC]
  · have hq : (faceSetupsE j face l != 0) = true := by simpa using h0
    have H0 := Lib.hid h0
    clear h0
    obtain ⟨k1, k2, k3, k4, hR, hB⟩ := hj
    obtain ⟨i1, i2, i3, i4, iR, _⟩ := hl
    unfold joC
    go_enter Tryz.func24, Tryz.ntmps24
    go_wp2_with fail
    have hBA : Below w.heap.size w ((w.alloc (.cells (joC j A c) 38)).alloc (.cells #[.int .i64 0, .int .i64 0, .int .i64 0, .int .i64 0] 56)) := (by repeat (first | (with_reducible exact Below.refl _ _) | (with_reducible assumption) | ((with_reducible refine Below.setCell ?_ ?_ _); rotate_left; · (first | exact Nat.le_refl _ | (simp; done) | (simp; omega) | omega)) | ((with_reducible refine Below.alloc ?_ ?_ _); rotate_left; · (first | exact Nat.le_refl _ | (simp; done) | (simp; omega) | omega)) | (with_reducible apply Below.drew) | (with_reducible apply below_drewN') | (refine Below.trans ?_ (Below.mono (by assumption) (by first | exact Nat.le_refl _ | (simp; done) | (simp; omega) | omega))) | exact Below.refl _ _ | assumption))
    unfold joC at hBA
    refine (openFaceSetups_any j face l A c B A' c' _ (HJ.out.below hBA hB) (HL.out.below hBA hB)).mono ?_
    rintro e w1 ⟨rfl, hB1⟩; obtain ⟨hc1, hf1⟩ := bcell hB1; have hz1 := hB1.size; (try simp at hz1)
    go_wp2
    refine bodyPost_ret (v := prC ⟨0, 0, 0, 0, faceSetupsE j face l⟩) ?_ rfl ⟨FGap.bad H0.out, (by repeat (first | (with_reducible exact Below.refl _ _) | (with_reducible assumption) | ((with_reducible refine Below.setCell ?_ ?_ _); rotate_left; · (first | exact Nat.le_refl _ | (simp; done) | (simp; omega) | omega)) | ((with_reducible refine Below.alloc ?_ ?_ _); rotate_left; · (first | exact Nat.le_refl _ | (simp; done) | (simp; omega) | omega)) | (with_reducible apply Below.drew) | (with_reducible apply below_drewN') | (refine Below.trans ?_ (Below.mono (by assumption) (by first | exact Nat.le_refl _ | (simp; done) | (simp; omega) | omega))) | exact Below.refl _ _ | assumption))⟩
    simp [results, Tryz.results24, go_sem, hc1, prC]
end Go.Proofs.YtkbggcencmjgfaaGreatDoor
