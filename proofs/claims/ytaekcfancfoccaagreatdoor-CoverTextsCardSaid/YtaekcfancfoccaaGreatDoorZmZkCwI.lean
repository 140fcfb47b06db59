/- The parts of a face as parts with ends that are points; contract: FirstGap. Contract: FirstGap. The examples of the statements: the joint, the set-up, and what the functions answer there. Contract: the examples of the statements are so. -/
import Derived.Test.YtaekcfancfoccaaGreatDoorZmZkCvR
import Derived.Test.YtaekcfancfoccaaGreatDoorZmZkCwB
import Derived.Test.YtaekcfancfoccaaGreatDoorZmZkCvK
import Derived.Test.YtaekcfancfoccaaGreatDoorZmZkCvZ
import Derived.Test.YtaekcfancfoccaaGreatDoorZmZkCvZb
namespace Go.Proofs.YtaekcfancfoccaaGreatDoor
open Go.RowKit

theorem shD_pos {n d : Int} (hd : 0 < d) : 0 < shD n d := by
  unfold shD
  have h0 : (Int.gcd n d : Int) ∣ d := Int.gcd_dvd_right ..
  have h1 : 0 < (Int.gcd n d : Int) := by
    have : Int.gcd n d ≠ 0 := fun h => by rw [Int.gcd_eq_zero_iff] at h; omega
    omega
  exact Int.ediv_pos_of_pos_of_dvd hd (by omega) h0
def PV.pos (p : PV) : Prop := 0 < p.b ∧ 0 < p.d
theorem PV.frm_pos {p : PV} {n m : Int} (h : p.pos) (hm : 0 < m) : (PV.frm p n m).pos := by
  unfold PV.frm
  split
  · exact ⟨hm, h.2⟩
  · exact h
theorem PV.to_pos {p : PV} {n m : Int} (h : p.pos) (hm : 0 < m) : (PV.to p n m).pos := by
  unfold PV.to
  split
  · exact ⟨h.1, hm⟩
  · exact h
theorem PV.cut_pos {p : PV} {n m : Int} (h : p.pos) : (PV.cut p n m).pos := by
  unfold PV.cut
  split
  · exact h
  · split
    · exact PV.frm_pos h (shD_pos (by omega))
    · split
      · exact h
      · split
        · exact PV.to_pos h (shD_pos (by omega))
        · exact h
theorem metW_pos {wx wz dx dz : Int} {s : Su} : (metW wx wz dx dz s).pos := by
  by_cases hk : wx * dz - wz * dx = 0
  · have : metW wx wz dx dz s = ⟨0, 1, 1, 1, true, false⟩ := if_pos hk
    rw [this]; exact ⟨by decide, by decide⟩
  · rw [metW_no hk]
    exact PV.cut_pos (PV.cut_pos (PV.cut_pos (PV.cut_pos ⟨by show (0:Int) < 1; decide, by show (0:Int) < 1; decide⟩)))
theorem metV_pos {thick : Int} {f : Fc} {s : Su} : (metV thick f s).pos := by
  unfold metV; split <;> exact metW_pos
theorem partsG (j : Jo) (k : Int) (l : List (ByteArray × Su)) (h0 : openFaceE j k = 0) (h1 : setupsE l = 0) : ∃ ps : List GP, ps.map Subtype.val = partsV j k l := by
  have hall := (setupsE_zero h1).2
  clear h1
  induction l with
  | nil => exact ⟨[], rfl⟩
  | cons p l ih =>
    obtain ⟨ps, hps⟩ := ih fun q hq => hall q (List.mem_cons_of_mem _ hq)
    refine ⟨⟨metV j.thick (faceAt j k) p.2, metV_ok (lim_at h0 (hall p (List.mem_cons_self ..))), metV_pos.1, metV_pos.2⟩ :: ps, ?_⟩
    simp only [List.map_cons, hps]; rfl
theorem ptsC_flat (ps : List GP) : ptsC (ps.map Subtype.val) = ps.flatMap encP := by
  induction ps with
  | nil => rfl
  | cons p ps ih => simp only [ptsC, List.map_cons, List.flatMap_cons] at ih ⊢; rw [ih]; rfl
end Go.Proofs.YtaekcfancfoccaaGreatDoor

namespace Go.Proofs.YtaekcfancfoccaaGreatDoor
open Go.RowKit

def gapR (r : (Int × Int × Int × Int) × Bool) : PR := if r.2 then ⟨r.1.1, r.1.2.1, r.1.2.2.1, r.1.2.2.2, 0⟩ else ⟨0, 0, 0, 0, 12⟩
theorem JoOk.below {j : Jo} {A : Option Addr} {c B : Nat} {w w' : World} (h : JoOk j A c B w) {C : Nat} (hb : Below C w w') (hC : B ≤ C) : JoOk j A c B w' :=
  ⟨h.nm, h.fs, h.len, h.cap, h.row.below hb hC, Nat.le_trans h.base hb.size⟩
theorem SuOk.below {l : List (ByteArray × Su)} {A : Option Addr} {c B : Nat} {w w' : World} (h : SuOk l A c B w) {C : Nat} (hb : Below C w w') (hC : B ≤ C) : SuOk l A c B w' :=
  ⟨h.nm, h.wf, h.len, h.cap, h.row.below hb hC, Nat.le_trans h.base hb.size⟩

def FGap (j : Jo) (face : Int) (l : List (ByteArray × Su)) (e : Ending) : Prop :=
  (faceSetupsE j face l = 0 → ∃ (k : Nat) (ps l' : List GP), face = k ∧ ps.map Subtype.val = partsV j k l ∧ l'.Perm (selG ps (List.range l.length)) ∧ l'.Pairwise (fun x y => x.1.a * y.1.b ≤ y.1.a * x.1.b) ∧ e = .returned (prC (gapR (gapL (0, 1) l')))) ∧
  (¬ faceSetupsE j face l = 0 → e = .returned (prC ⟨0, 0, 0, 0, faceSetupsE j face l⟩))
theorem FGap.bad {j : Jo} {face : Int} {l : List (ByteArray × Su)} (h : ¬ faceSetupsE j face l = 0) : FGap j face l (.returned (prC ⟨0, 0, 0, 0, faceSetupsE j face l⟩)) := ⟨fun h' => absurd h' h, fun _ => rfl⟩

set_option maxRecDepth 100000 in
set_option maxHeartbeats 2000000 in
theorem firstGap_any (j : Jo) (face : Int) (l : List (ByteArray × Su)) (A : Option Addr) (c B : Nat) (A' : Option Addr) (c' : Nat) (w : World) (hj : JoOk j A c B w) (hl : SuOk l A' c' B w) (hE : Ends w) :
    Calls Tryz.prog 24 #[.agg (joC j A c), .int .i64 face, .slice A' l.length c'] w fun e w' => FGap j face l e ∧ Below w.heap.size w w' := by
  have hE1 := Lib.hid hE; clear hE
  have HJ := Lib.hid hj; have HL := Lib.hid hl
  by_cases h0 : faceSetupsE j face l = 0
  · have hq : (faceSetupsE j face l != 0) = false := by simpa using h0
    have h1 : openFaceE j face = 0 := by unfold faceSetupsE at h0; split at h0 <;> first | assumption | (exact absurd h0 ‹_›)
    have h2 : setupsE l = 0 := by unfold faceSetupsE at h0; rw [if_pos h1] at h0; exact h0
    obtain ⟨k, rfl, hk, hfa⟩ := (openFaceE_zero h1).2
    obtain ⟨ps, hps⟩ := partsG j k l h1 h2
    have H0 := Lib.hid h0; have H1 := Lib.hid h1; have H2 := Lib.hid h2; have HPS := Lib.hid hps
    clear h0 h1 h2 hfa hps
    have hpl : ps.length = l.length := by have := congrArg List.length HPS.out; simpa [partsV] using this
    have hll := (setupsE_zero H2.out).1
    obtain ⟨k1, k2, k3, k4, hR, hB⟩ := hj
    obtain ⟨i1, i2, i3, i4, iR, _⟩ := hl
    unfold joC
    go_enter Tryz.func24, Tryz.ntmps24
    have bj0 : Blk (w.alloc (.cells (joC j A c) 24)) w.heap.size 24 (joC j A c) := Blk.new w _ _
    unfold joC at bj0
    go_wp2_with fail
    have hBA : Below w.heap.size w ((w.alloc (.cells (joC j A c) 24)).alloc (.cells #[.int .i64 0, .int .i64 0, .int .i64 0, .int .i64 0] 56)) := (by repeat first | (with_reducible first | exact Below.refl _ _ | assumption) | ((with_reducible first | refine Below.setCell ?_ ?_ _ | refine Below.alloc ?_ ?_ _); rotate_left; · first | exact Nat.le_refl _ | (simp; done) | (simp; omega) | omega) | (with_reducible first | apply Below.drew | apply below_drewN') | refine Below.trans ?_ (Below.mono (by assumption) (by first | exact Nat.le_refl _ | (simp; done) | (simp; omega) | omega)) | exact Below.refl _ _ | assumption)
    unfold joC at hBA
    refine (openFaceSetups_any j k l A c B A' c' _ (HJ.out.below hBA hB) (HL.out.below hBA hB)).mono ?_
    rw [H0.out]
    rintro e w1 ⟨rfl, hB1⟩; obtain ⟨hc1, hf1⟩ := bcell hB1; have hz1 := hB1.size; (try simp at hz1)
    have bj : Blk w1 w.heap.size 24 (joC j A c) := by refine Blk.below ?_ hB1 (by first | (simp; done) | (simp; omega)); exact (by repeat (first | assumption | apply Blk.drew | (refine Blk.new' _ _ _ ?_; first | rfl | (simp; done) | (simp; omega)) | (refine Blk.alloc ?_ _)))
    have br : Blk w1 (w.heap.size + 1) 56 #[.int .i64 0, .int .i64 0, .int .i64 0, .int .i64 0] := by refine Blk.below ?_ hB1 (by first | (simp; done) | (simp; omega)); exact (by repeat (first | assumption | apply Blk.drew | (refine Blk.new' _ _ _ ?_; first | rfl | (simp; done) | (simp; omega)) | (refine Blk.alloc ?_ _)))
    have hBB : Below w.heap.size w w1 := (by repeat first | (with_reducible first | exact Below.refl _ _ | assumption) | ((with_reducible first | refine Below.setCell ?_ ?_ _ | refine Below.alloc ?_ ?_ _); rotate_left; · first | exact Nat.le_refl _ | (simp; done) | (simp; omega) | omega) | (with_reducible first | apply Below.drew | apply below_drewN') | refine Below.trans ?_ (Below.mono (by assumption) (by first | exact Nat.le_refl _ | (simp; done) | (simp; omega) | omega)) | exact Below.refl _ _ | assumption)
    clear hc1 hf1 hB1 hBA bj0
    obtain ⟨q0, q1, q2, q3⟩ := jo_cells bj
    have lj := bj.lt; have lr := br.lt
    go_wp2_with fail
    refine (faceOf_any j k l A c B A' c' _ (HJ.out.below hBB hB) (HL.out.below hBB hB) (hE1.out.below hBB) H1.out H2.out).mono ?_
    rintro e w2 ⟨v2, rfl, own2, hB2⟩
    go_wp2_with fail
    refine (all_any l.length A' c' _ (by omega)).mono ?_
    rintro e w3 ⟨v3, rfl, own3, hB3⟩
    rw [← HPS.out, ptsC_flat, ← hpl] at own2
    rw [natsC_upTo] at own3
    obtain ⟨A2, cap2, rfl, hr2⟩ := Row.own own2
    obtain ⟨A3, cap3, rfl, hr3⟩ := Row.own own3
    have hr2' := (hr2.below hB3 (Nat.le_refl _)).more hB3.size
    have hBC : Below w.heap.size w w3 := (hBB.trans (hB2.mono hBB.size)).trans (hB3.mono (Nat.le_trans hBB.size hB2.size))
    have br3 := Blk.below (Blk.below br hB2 lr) hB3 (Nat.lt_of_lt_of_le lr hB2.size)
    have hg := Lib.hid (gap_any ps (List.range l.length) A2 cap2 A3 cap3 w3 (by omega) (by simp; omega) (by intro n hn; rw [hpl]; exact List.mem_range.1 hn) hr2' (by simpa using hr3) (hE1.out.below hBC))
    have lr3 := br3.lt
    rw [List.length_range, hpl] at hg
    clear hB2 hB3 own2 own3 hr2 hr3 hr2' br bj q0 q1 q2 q3 lj lr hBB hR iR
    rw [hpl]
    go_wp2_with fail
    refine hg.out.mono ?_
    rintro e w4 ⟨l', hp, hs, rfl, hB4⟩
    have HP := Lib.hid hp; have HS := Lib.hid hs
    have br4 := br3.below hB4 lr3
    have lr4 := br4.lt
    have hBD := hBC.trans (hB4.mono hBC.size)
    obtain ⟨⟨⟨ra, rb, rc, rd⟩, rz⟩, HR⟩ : ∃ r, Hid (r = gapL (0, 1) l') := ⟨_, Lib.hid rfl⟩
    rw [← HR.out]
    unfold gapC
    obtain ⟨d0, d1, d2, d3, df⟩ := blk4 br4
    clear hp hs hg br3 hB4
    cases rz
    · have e6 := (Blk.set4 br4 (.int .i64 0) (.int .i64 0) (.int .i64 0) (.int .i64 0)).alloc (.cells #[.int .i64 ra, .int .i64 rb, .int .i64 rc, .int .i64 rd] 56 (0, 0))
      obtain ⟨z0, z1, z2, z3, _⟩ := blk4 e6
      have hG : FGap j k l (.returned (prC ⟨0, 0, 0, 0, 12⟩)) := ⟨fun _ => ⟨k, ps, l', rfl, HPS.out, HP.out, HS.out, by rw [← HR.out]; rfl⟩, fun h => absurd H0.out h⟩
      go_wp2
      refine bodyPost_ret (v := prC ⟨0, 0, 0, 0, 12⟩) ?_ rfl ⟨hG, (Below.set4 hBD (by omega)).alloc (by rw [show ∀ (u0 u1 u2 u3 : Value), ((((w4.setCell ⟨w.heap.size + 1, 0, none⟩ u0).setCell ⟨w.heap.size + 1, 1, none⟩ u1).setCell ⟨w.heap.size + 1, 2, none⟩ u2).setCell ⟨w.heap.size + 1, 3, none⟩ u3).heap.size = w4.heap.size by intros; simp]; exact hBD.size) _⟩
      simp [results, Tryz.results24, go_sem, z0, z1, z2, z3, prC]
    · have e6 := (Blk.set4 br4 (.int .i64 ra) (.int .i64 rb) (.int .i64 rc) (.int .i64 rd)).alloc (.cells #[.int .i64 ra, .int .i64 rb, .int .i64 rc, .int .i64 rd] 56 (0, 0))
      obtain ⟨z0, z1, z2, z3, _⟩ := blk4 e6
      have hG : FGap j k l (.returned (prC ⟨ra, rb, rc, rd, 0⟩)) := ⟨fun _ => ⟨k, ps, l', rfl, HPS.out, HP.out, HS.out, by rw [← HR.out]; rfl⟩, fun h => absurd H0.out h⟩
      go_wp2
      refine bodyPost_ret (v := prC ⟨ra, rb, rc, rd, 0⟩) ?_ rfl ⟨hG, (Below.set4 hBD (by omega)).alloc (by rw [show ∀ (u0 u1 u2 u3 : Value), ((((w4.setCell ⟨w.heap.size + 1, 0, none⟩ u0).setCell ⟨w.heap.size + 1, 1, none⟩ u1).setCell ⟨w.heap.size + 1, 2, none⟩ u2).setCell ⟨w.heap.size + 1, 3, none⟩ u3).heap.size = w4.heap.size by intros; simp]; exact hBD.size) _⟩
      simp [results, Tryz.results24, go_sem, z0, z1, z2, z3, prC]
  · have hq : (faceSetupsE j face l != 0) = true := by simpa using h0
    have H0 := Lib.hid h0
    clear h0
    obtain ⟨k1, k2, k3, k4, hR, hB⟩ := hj
    obtain ⟨i1, i2, i3, i4, iR, _⟩ := hl
    unfold joC
    go_enter Tryz.func24, Tryz.ntmps24
    go_wp2_with fail
    have hBA : Below w.heap.size w ((w.alloc (.cells (joC j A c) 24)).alloc (.cells #[.int .i64 0, .int .i64 0, .int .i64 0, .int .i64 0] 56)) := (by repeat first | (with_reducible first | exact Below.refl _ _ | assumption) | ((with_reducible first | refine Below.setCell ?_ ?_ _ | refine Below.alloc ?_ ?_ _); rotate_left; · first | exact Nat.le_refl _ | (simp; done) | (simp; omega) | omega) | (with_reducible first | apply Below.drew | apply below_drewN') | refine Below.trans ?_ (Below.mono (by assumption) (by first | exact Nat.le_refl _ | (simp; done) | (simp; omega) | omega)) | exact Below.refl _ _ | assumption)
    unfold joC at hBA
    refine (openFaceSetups_any j face l A c B A' c' _ (HJ.out.below hBA hB) (HL.out.below hBA hB)).mono ?_
    rintro e w1 ⟨rfl, hB1⟩; obtain ⟨hc1, hf1⟩ := bcell hB1; have hz1 := hB1.size; (try simp at hz1)
    go_wp2
    refine bodyPost_ret (v := prC ⟨0, 0, 0, 0, faceSetupsE j face l⟩) ?_ rfl ⟨FGap.bad H0.out, (by repeat first | (with_reducible first | exact Below.refl _ _ | assumption) | ((with_reducible first | refine Below.setCell ?_ ?_ _ | refine Below.alloc ?_ ?_ _); rotate_left; · first | exact Nat.le_refl _ | (simp; done) | (simp; omega) | omega) | (with_reducible first | apply Below.drew | apply below_drewN') | refine Below.trans ?_ (Below.mono (by assumption) (by first | exact Nat.le_refl _ | (simp; done) | (simp; omega) | omega)) | exact Below.refl _ _ | assumption)⟩
    simp [results, Tryz.results24, go_sem, hc1, prC]
end Go.Proofs.YtaekcfancfoccaaGreatDoor

namespace Go.Proofs.YtaekcfancfoccaaGreatDoor
open Go.RowKit

def slantJ : Jo := ⟨⟨#[118]⟩, 1000, 0, [(⟨#[102]⟩, ⟨0, 1000, 1000, 0⟩)]⟩
def dirN : ByteArray := ⟨#[97]⟩
def dirS : Su := ⟨-1000, 1, 1, 0, 1, 3, 1, 1, 1⟩
theorem dir_wf : dirS.wf := by constructor <;> (simp [I64, dirS])

theorem slant_any (w : World) :
    Calls Tryz.prog 21 #[] w fun e w' => ∃ A c, e = .returned (.agg (joC slantJ A c)) ∧ JoOk slantJ A c w'.heap.size w' ∧ Below w.heap.size w w' := by
  go_enter Tryz.func21, Tryz.ntmps21
  go_wp2
  have bf := Blk.new' (w.alloc (.cells #[.string ⟨#[118]⟩, .int .i64 1000, .int .i64 0, .slice (some ⟨w.heap.size + 1, 0, none⟩) 1 1] 24)) 83 #[.string ⟨#[102]⟩, .int .i64 0, .int .i64 1000, .int .i64 1000, .int .i64 0] (g := w.heap.size + 1) (by simp)
  refine bodyPost_ret (v := .agg #[.string ⟨#[118]⟩, .int .i64 1000, .int .i64 0, .slice (some ⟨w.heap.size + 1, 0, none⟩) 1 1]) (by simp [results, Tryz.results21, go_sem]) rfl ⟨some ⟨w.heap.size + 1, 0, none⟩, 1, rfl, ⟨by simp [slantJ, ByteArray.size], ?_, by simp [slantJ], by omega, ⟨rfl, fun _ => ⟨w.heap.size + 1, 0, rfl, bf.lt, fun j u hu => ?_⟩⟩, Nat.le_refl _⟩, (by repeat first | (with_reducible first | exact Below.refl _ _ | assumption) | ((with_reducible first | refine Below.setCell ?_ ?_ _ | refine Below.alloc ?_ ?_ _); rotate_left; · first | exact Nat.le_refl _ | (simp; done) | (simp; omega) | omega) | (with_reducible first | apply Below.drew | apply below_drewN') | refine Below.trans ?_ (Below.mono (by assumption) (by first | exact Nat.le_refl _ | (simp; done) | (simp; omega) | omega)) | exact Below.refl _ _ | assumption)⟩
  · intro p hp
    simp [slantJ] at hp
    subst hp
    simp [ByteArray.size]
  · rw [Nat.zero_add, bf.cell j, List.getElem?_toArray]
    exact hu

theorem whole_any (n : Int) (w : World) : Calls Tryz.prog 64 #[.int .i64 n] w fun e w' => e = .returned (.agg #[.int .i64 n, .int .i64 1]) ∧ Below w.heap.size w w' := by
  go_enter Tryz.func64, Tryz.ntmps64
  go_wp2
  exact bodyPost_ret (v := .agg #[.int .i64 n, .int .i64 1]) (by simp [results, Tryz.results64, go_sem]) rfl ⟨rfl, (by repeat first | (with_reducible first | exact Below.refl _ _ | assumption) | ((with_reducible first | refine Below.setCell ?_ ?_ _ | refine Below.alloc ?_ ?_ _); rotate_left; · first | exact Nat.le_refl _ | (simp; done) | (simp; omega) | omega) | (with_reducible first | apply Below.drew | apply below_drewN') | refine Below.trans ?_ (Below.mono (by assumption) (by first | exact Nat.le_refl _ | (simp; done) | (simp; omega) | omega)) | exact Below.refl _ _ | assumption)⟩

theorem direct_any (w : World) :
    Calls Tryz.prog 22 #[] w fun e w' => e = .returned (.agg (suC dirN dirS)) ∧ Below w.heap.size w w' := by
  go_enter Tryz.func22, Tryz.ntmps22
  go_wp2_with fail
  have b0 := Blk.new w 45 #[.string ⟨#[]⟩, .int .i64 0, .int .i64 0, .int .i64 0, .int .i64 0, .int .i64 0, .int .i64 0, .int .i64 0, .int .i64 0, .int .i64 0]
  have hB0 : Below w.heap.size w (w.alloc (.cells #[.string ⟨#[]⟩, .int .i64 0, .int .i64 0, .int .i64 0, .int .i64 0, .int .i64 0, .int .i64 0, .int .i64 0, .int .i64 0, .int .i64 0] 45)) := (Below.refl _ _).alloc (Nat.le_refl _) _
  refine (whole_any _ _).mono ?_
  rintro e w1 ⟨rfl, hB1⟩
  have b1 := b0.below hB1 b0.lt
  have hA1 := hB0.trans (hB1.mono (Below.size hB0))
  clear hB0 hB1 b0
  go_wp2_with fail
  refine (whole_any _ _).mono ?_
  rintro e w2 ⟨rfl, hB2⟩
  have b2 := b1.below hB2 b1.lt
  have hA2 := hA1.trans (hB2.mono (Below.size hA1))
  clear hA1 hB2 b1
  go_wp2_with fail
  refine (whole_any _ _).mono ?_
  rintro e w3 ⟨rfl, hB3⟩
  have b3 := b2.below hB3 b2.lt
  have hA3 := hA2.trans (hB3.mono (Below.size hA2))
  clear hA2 hB3 b2
  have e6 : Blk _ w.heap.size 45 (suC dirN dirS) := Blk.set10 b3 (.string ⟨#[97]⟩) (.int .i64 (-1000)) (.int .i64 1) (.int .i64 1) (.int .i64 0) (.int .i64 1) (.int .i64 3) (.int .i64 1) (.int .i64 1) (.int .i64 1)
  have l3 := b3.lt
  obtain ⟨d0, d1, d2, d3, d4, d5, d6, d7, d8, d9, df⟩ := su_all (sn := ⟨#[]⟩) (s := ⟨0, 0, 0, 0, 0, 0, 0, 0, 0⟩) b3
  obtain ⟨z0, z1, z2, z3, z4, z5, z6, z7, z8, z9, _⟩ := su_all e6
  simp only [dirN, dirS] at z0 z1 z2 z3 z4 z5 z6 z7 z8 z9
  go_wp2
  refine bodyPost_ret (v := .agg (suC dirN dirS)) ?_ rfl ⟨rfl, Below.set10 hA3 (Nat.le_refl _)⟩
  simp [results, Tryz.results22, go_sem, z0, z1, z2, z3, z4, z5, z6, z7, z8, z9, suC, dirN, dirS]

theorem ex_part : partOfR slantJ 0 dirN dirS = ⟨0, 1, 1, 2, 0⟩ := by decide +kernel
theorem ex_ask : askE slantJ 0 dirN dirS = 0 := by decide +kernel
theorem ex_sure : toldR ((metV slantJ.thick (faceAt slantJ 0) (dirS.moved (dirS.at_ - 200))).both (metV slantJ.thick (faceAt slantJ 0) (dirS.moved (dirS.at_ + 200)))) = ⟨0, 1, 9, 20, 0⟩ := by decide +kernel
theorem ex_setups : faceSetupsE slantJ 0 [(dirN, dirS)] = 0 := by decide +kernel
theorem ex_parts : partsV slantJ 0 [(dirN, dirS)] = [⟨0, 1, 1, 2, false, true⟩] := by decide +kernel
def exT : Tk := ⟨0, 100, 2, 10⟩
theorem ex_open : openE exT [38, 20] = 0 := by decide +kernel
theorem ex_anew : anewR exT [38, 20] = [(0, 11), (29, 29), (47, 100)] := by
  have hs : sortV [38, 20] = [20, 38] := by simp [sortV, List.mergeSort, List.MergeSort.Internal.splitInTwo]
  unfold anewR anewV scanV
  rw [hs]
  decide +kernel
def exB : Bv := ⟨1000, 0, 100, 200, 1, 2⟩
theorem ex_bev : bvE ⟨#[98]⟩ exB = 0 := by decide +kernel

end Go.Proofs.YtaekcfancfoccaaGreatDoor

namespace Go.Proofs.YtaekcfancfoccaaGreatDoor
open Go.RowKit

theorem JoOk.more {j : Jo} {A : Option Addr} {c B B' : Nat} {w : World} (h : JoOk j A c B w) (hB : B ≤ B') (hw : B' ≤ w.heap.size) : JoOk j A c B' w := ⟨h.nm, h.fs, h.len, h.cap, h.row.more hB, hw⟩

theorem ex_partV : prC (partOfR slantJ 0 dirN dirS) = .tuple #[.agg #[.int .i64 0, .int .i64 1, .int .i64 1, .int .i64 2], .int .i64 0] := by rw [ex_part]; rfl
theorem ex_sureV : prC (toldR ((metV slantJ.thick (faceAt slantJ ((0 : Nat) : Int)) (dirS.moved (dirS.at_ - 200))).both (metV slantJ.thick (faceAt slantJ ((0 : Nat) : Int)) (dirS.moved (dirS.at_ + 200))))) = .tuple #[.agg #[.int .i64 0, .int .i64 1, .int .i64 9, .int .i64 20], .int .i64 0] := (congrArg prC ex_sure).trans rfl
theorem dirN_size : dirN.size ≤ 1000000000000 := by simp [dirN, ByteArray.size]
theorem ex_gap {e : Ending} (h : FGap slantJ 0 [(dirN, dirS)] e) : e = .returned (.tuple #[.agg #[.int .i64 1, .int .i64 2, .int .i64 1, .int .i64 1], .int .i64 0]) := by
  obtain ⟨k, ps, l', hk, hps, hp, _, he⟩ := h.1 ex_setups
  have hk0 : (k : Int) = 0 := hk.symm
  rw [hk0, ex_parts] at hps
  have hl1 : ps.length = 1 := by simpa using congrArg List.length hps
  obtain ⟨p, rfl⟩ := List.length_eq_one_iff.1 hl1
  have hv : p.1 = ⟨0, 1, 1, 2, false, true⟩ := by simpa using hps
  have hs : selG [p] [0] = [p] := by
    unfold selG
    simp [hv]
  have hp' : l'.Perm (selG [p] [0]) := hp
  rw [hs] at hp'
  have hl : l' = [p] := List.perm_singleton.1 hp'
  have hg : gapL (0, 1) [p] = ((1, 2, 1, 1), true) := by
    unfold gapL
    simp [hv, gapL]
  rw [he, hl, hg]
  rfl

theorem exB_wf : exB.wf := by constructor <;> (simp [I64, exB])
theorem exB_faces : (bvJ ⟨#[98]⟩ exB).fs.length = 4 := by decide +kernel
theorem exBev_any (w : World) : Calls Tryz.prog 26 #[.agg #[.string ⟨#[98]⟩, .int .i64 1000, .int .i64 0, .int .i64 100, .int .i64 200, .int .i64 1, .int .i64 2]] w fun e w' => ∃ v, e = .returned (.tuple #[.agg #[.string ⟨#[98]⟩, .int .i64 1000, .int .i64 0, v], .int .i64 0]) ∧ w'.ownsRow w.heap.size 83 5 v 4 (fcsC (bvJ ⟨#[98]⟩ exB).fs) ∧ Below w.heap.size w w' := by
  refine (bev_fit ⟨#[98]⟩ exB w (by simp [ByteArray.size]) exB_wf (by decide +kernel) (by decide +kernel) (by decide +kernel) (by decide +kernel) (by decide +kernel) (by decide +kernel)).mono ?_
  rintro e w' ⟨⟨_, h⟩, hB⟩
  obtain ⟨v, he, hown⟩ := h ex_bev
  rw [exB_faces] at hown
  exact ⟨v, he, hown, hB⟩

set_option maxRecDepth 100000 in
set_option maxHeartbeats 8000000 in
theorem awake_any (w : World) (hE : Ends w) : Calls Tryz.prog 5 #[] w fun e w' => e = .returned (.bool true) ∧ Below w.heap.size w w' := by
  have HE := Lib.hid hE; clear hE
  go_enter Tryz.func5, Tryz.ntmps5
  go_wp2_with fail
  refine (slant_any _).mono ?_
  rintro e w1 ⟨A1, c1, rfl, hj1, hB1⟩
  go_wp2_with fail
  refine (direct_any _).mono ?_
  rintro e w2 ⟨rfl, hB2⟩
  unfold suC dirN dirS
  have hA2 : Below w.heap.size w w2 := hB1.trans (hB2.mono hB1.size)
  go_wp2_with fail
  refine (partOf_any slantJ 0 dirN dirS A1 c1 _ w2 (hj1.below hB2 (Nat.le_refl _)) (HE.out.below hA2) dirN_size dir_wf).mono ?_
  rw [ex_partV]
  rintro e w3 ⟨rfl, hB3⟩
  have hA3 : Below w.heap.size w w3 := hA2.trans (hB3.mono hA2.size)
  clear hB1 hB2 hB3 hj1 hA2
  have hs3 := Below.size hA3
  have b1 := Blk.new w3 56 #[.int .i64 0, .int .i64 1, .int .i64 1, .int .i64 2]
  have hA4 := hA3.alloc hs3 (.cells #[.int .i64 0, .int .i64 1, .int .i64 1, .int .i64 2] 56 (0, 0))
  go_wp2_with fail
  refine (slant_any _).mono ?_
  rintro e w4 ⟨A4, c4, rfl, hj4, hB4⟩
  have b1 := b1.below hB4 b1.lt
  have hA5 := hA4.trans (hB4.mono (Below.size hA4))
  go_wp2_with fail
  refine (direct_any _).mono ?_
  rintro e w5 ⟨rfl, hB5⟩
  unfold suC dirN dirS
  have b1 := b1.below hB5 b1.lt
  have hA6 := hA5.trans (hB5.mono (Below.size hA5))
  have hj5 := hj4.below hB5 (Nat.le_refl _)
  clear hA3 hA4 hA5 hB4 hj4 hB5 hs3
  generalize w3.heap.size = g1 at *
  go_wp2_with fail
  refine (surePart_ok slantJ 0 dirN dirS 200 A4 c4 _ w5 hj5 (HE.out.below hA6) dirN_size dir_wf ex_ask (by omega) (by simp [dirS]) (by simp [dirS])).mono ?_
  rw [ex_sureV]
  rintro e w6 ⟨rfl, hB6⟩
  have b1 := b1.below hB6 b1.lt
  have hA7 := hA6.trans (hB6.mono (Below.size hA6))
  clear hA6 hB6 hj5
  have b3 := Blk.new w6 56 #[.int .i64 0, .int .i64 1, .int .i64 9, .int .i64 20]
  have b1 := b1.alloc (.cells #[.int .i64 0, .int .i64 1, .int .i64 9, .int .i64 20] 56 (0, 0))
  have hA8 := hA7.alloc (Below.size hA7) (.cells #[.int .i64 0, .int .i64 1, .int .i64 9, .int .i64 20] 56 (0, 0))
  go_wp2_with fail
  refine (slant_any _).mono ?_
  rintro e w7 ⟨A7, c7, rfl, hj7, hB7⟩
  have b1 := b1.below hB7 b1.lt
  have b3 := b3.below hB7 b3.lt
  have hA9 := hA8.trans (hB7.mono (Below.size hA8))
  go_wp2_with fail
  refine (direct_any _).mono ?_
  rintro e w8 ⟨rfl, hB8⟩
  unfold suC dirN dirS
  have b1 := b1.below hB8 b1.lt
  have b3 := b3.below hB8 b3.lt
  have hA10 := hA9.trans (hB8.mono (Below.size hA9))
  have hj8 := hj7.below hB8 (Nat.le_refl _)
  have hlj := Below.size hB8
  clear hA7 hA8 hA9 hB7 hj7 hB8
  generalize w6.heap.size = g3 at *
  go_wp2_with fail
  have bs := Blk.new w8 45 #[.string ⟨#[97]⟩, .int .i64 (-1000), .int .i64 1, .int .i64 1, .int .i64 0, .int .i64 1, .int .i64 3, .int .i64 1, .int .i64 1, .int .i64 1]
  have hA11 := hA10.alloc (Below.size hA10) (.cells #[.string ⟨#[97]⟩, .int .i64 (-1000), .int .i64 1, .int .i64 1, .int .i64 0, .int .i64 1, .int .i64 3, .int .i64 1, .int .i64 1, .int .i64 1] 45 (0, 0))
  have b1 := b1.alloc (.cells #[.string ⟨#[97]⟩, .int .i64 (-1000), .int .i64 1, .int .i64 1, .int .i64 0, .int .i64 1, .int .i64 3, .int .i64 1, .int .i64 1, .int .i64 1] 45 (0, 0))
  have b3 := b3.alloc (.cells #[.string ⟨#[97]⟩, .int .i64 (-1000), .int .i64 1, .int .i64 1, .int .i64 0, .int .i64 1, .int .i64 3, .int .i64 1, .int .i64 1, .int .i64 1] 45 (0, 0))
  have hj9 := (hj8.below ((Below.refl w8.heap.size w8).alloc (Nat.le_refl _) (.cells #[.string ⟨#[97]⟩, .int .i64 (-1000), .int .i64 1, .int .i64 1, .int .i64 0, .int .i64 1, .int .i64 3, .int .i64 1, .int .i64 1, .int .i64 1] 45 (0, 0))) hlj).more (B' := w8.heap.size + 1) (by omega) (by simp)
  have hsu : SuOk [(dirN, dirS)] (some ⟨w8.heap.size, 0, none⟩) 1 (w8.heap.size + 1) (w8.alloc (.cells #[.string ⟨#[97]⟩, .int .i64 (-1000), .int .i64 1, .int .i64 1, .int .i64 0, .int .i64 1, .int .i64 3, .int .i64 1, .int .i64 1, .int .i64 1] 45)) := by
    refine ⟨?_, ?_, by simp, by omega, ⟨rfl, fun _ => ⟨w8.heap.size, 0, rfl, by omega, fun j u hu => ?_⟩⟩, by simp⟩
    · intro p hp; simp at hp; subst hp; exact dirN_size
    · intro p hp; simp at hp; subst hp; exact dir_wf
    · rw [Nat.zero_add, bs.cell j, List.getElem?_toArray]
      exact hu
  refine (firstGap_any slantJ 0 [(dirN, dirS)] A7 c7 (w8.heap.size + 1) (some ⟨w8.heap.size, 0, none⟩) 1 _ hj9 hsu (HE.out.below hA11)).mono ?_
  rintro e w9 ⟨hfg, hB9⟩
  have hfg := ex_gap hfg
  subst hfg
  have b1 := b1.below hB9 b1.lt
  have b3 := b3.below hB9 b3.lt
  have hA12 := hA11.trans (hB9.mono (Below.size hA11))
  clear hA10 hA11 hB9 hj8 hlj hj9 hsu bs
  have b5 := Blk.new w9 56 #[.int .i64 1, .int .i64 2, .int .i64 1, .int .i64 1]
  have b1 := b1.alloc (.cells #[.int .i64 1, .int .i64 2, .int .i64 1, .int .i64 1] 56 (0, 0))
  have b3 := b3.alloc (.cells #[.int .i64 1, .int .i64 2, .int .i64 1, .int .i64 1] 56 (0, 0))
  have hA13 := hA12.alloc (Below.size hA12) (.cells #[.int .i64 1, .int .i64 2, .int .i64 1, .int .i64 1] 56 (0, 0))
  go_wp2_with fail
  have bn := Blk.new' (w9.alloc (.cells #[.int .i64 1, .int .i64 2, .int .i64 1, .int .i64 1] 56)) 3 #[.int .i64 38, .int .i64 20] (g := w9.heap.size + 1) (by simp)
  have b1 := b1.alloc (.cells #[.int .i64 38, .int .i64 20] 3 (0, 0))
  have b3 := b3.alloc (.cells #[.int .i64 38, .int .i64 20] 3 (0, 0))
  have b5 := b5.alloc (.cells #[.int .i64 38, .int .i64 20] 3 (0, 0))
  have hA14 := hA13.alloc (Below.size hA13) (.cells #[.int .i64 38, .int .i64 20] 3 (0, 0))
  have hin : InOk [38, 20] (some ⟨w9.heap.size + 1, 0, none⟩) 2 (w9.heap.size + 2) ((w9.alloc (.cells #[.int .i64 1, .int .i64 2, .int .i64 1, .int .i64 1] 56)).alloc (.cells #[.int .i64 38, .int .i64 20] 3)) := by
    refine ⟨by simp, ?_, ⟨rfl, fun _ => ⟨w9.heap.size + 1, 0, rfl, by omega, fun j u hu => ?_⟩⟩, by simp⟩
    · intro p hp; simp at hp; rcases hp with rfl | rfl <;> simp [I64]
    · rw [Nat.zero_add, bn.cell j, List.getElem?_toArray]
      exact hu
  refine (anew_any exT [38, 20] (some ⟨w9.heap.size + 1, 0, none⟩) 2 (w9.heap.size + 2) _ hin).mono ?_
  rw [ex_open, ex_anew]
  rintro e w10 ⟨v7, rfl, own7, hB10⟩
  have b1 := b1.below hB10 b1.lt
  have b3 := b3.below hB10 b3.lt
  have b5 := b5.below hB10 b5.lt
  have hA15 := hA14.trans (hB10.mono (Below.size hA14))
  have own7 := own7.mono (base' := w.heap.size) (Below.size hA14)
  clear hA12 hA13 hA14 hin bn hB10
  generalize w9.heap.size = g5 at *
  go_wp2_with fail
  refine (exBev_any _).mono ?_
  rintro e w11 ⟨v9, rfl, own9, hB11⟩
  have b1 := b1.below hB11 b1.lt
  have b3 := b3.below hB11 b3.lt
  have b5 := b5.below hB11 b5.lt
  have hA16 := hA15.trans (hB11.mono (Below.size hA15))
  have own7 := own_below own7 hB11
  obtain ⟨A9, c9, hv9, _, hc9⟩ := own_shape own9
  subst hv9
  obtain ⟨g9, rfl, _, lg9, hcs, _⟩ := hc9 (by simp)
  have x8 : w11.cell? ⟨g9, 8, none⟩ = some (.int .i64 (-500)) := by rw [hcs 8 (by simp)]; rfl
  have x9 : w11.cell? ⟨g9, 9, none⟩ = some (.int .i64 0) := by rw [hcs 9 (by simp)]; rfl
  obtain ⟨A7, c7, hv7, hR7⟩ := Row.own own7
  subst hv7
  clear hA15 hB11 own7 own9 hc9 hcs
  have b9 := Blk.new w11 24 #[.string ⟨#[98]⟩, .int .i64 1000, .int .i64 0, .slice (some ⟨g9, 0, none⟩) 4 c9]
  have b1 := b1.alloc (.cells #[.string ⟨#[98]⟩, .int .i64 1000, .int .i64 0, .slice (some ⟨g9, 0, none⟩) 4 c9] 24 (0, 0))
  have b3 := b3.alloc (.cells #[.string ⟨#[98]⟩, .int .i64 1000, .int .i64 0, .slice (some ⟨g9, 0, none⟩) 4 c9] 24 (0, 0))
  have b5 := b5.alloc (.cells #[.string ⟨#[98]⟩, .int .i64 1000, .int .i64 0, .slice (some ⟨g9, 0, none⟩) 4 c9] 24 (0, 0))
  have hR7 := hR7.alloc (Nat.le_refl _) (.cells #[.string ⟨#[98]⟩, .int .i64 1000, .int .i64 0, .slice (some ⟨g9, 0, none⟩) 4 c9] 24 (0, 0))
  have x8 : (w11.alloc (.cells #[.string ⟨#[98]⟩, .int .i64 1000, .int .i64 0, .slice (some ⟨g9, 0, none⟩) 4 c9] 24)).cell? ⟨g9, 8, none⟩ = some (.int .i64 (-500)) := (World.cell?_alloc_lt w11 _ ⟨g9, 8, none⟩ (by simpa using lg9)).trans x8
  have x9 : (w11.alloc (.cells #[.string ⟨#[98]⟩, .int .i64 1000, .int .i64 0, .slice (some ⟨g9, 0, none⟩) 4 c9] 24)).cell? ⟨g9, 9, none⟩ = some (.int .i64 0) := (World.cell?_alloc_lt w11 _ ⟨g9, 9, none⟩ (by simpa using lg9)).trans x9
  have hA17 := hA16.alloc (Below.size hA16) (.cells #[.string ⟨#[98]⟩, .int .i64 1000, .int .i64 0, .slice (some ⟨g9, 0, none⟩) 4 c9] 24 (0, 0))
  have l9 := Nat.lt_succ_of_lt lg9
  have hsz : (w11.alloc (.cells #[.string ⟨#[98]⟩, .int .i64 1000, .int .i64 0, .slice (some ⟨g9, 0, none⟩) 4 c9] 24)).heap.size = w11.heap.size + 1 := by simp
  go_wp2_with fail
  generalize w11.alloc (.cells #[.string ⟨#[98]⟩, .int .i64 1000, .int .i64 0, .slice (some ⟨g9, 0, none⟩) 4 c9] 24 (0, 0)) = W at *
  clear hA16 HE lg9
  generalize w11.heap.size = g10 at *
  have l1 := b1.lt
  have l3 := b3.lt
  have l5 := b5.lt
  have l10 := b9.lt
  obtain ⟨p0, p1, p2, p3, _⟩ := blk4 b1
  obtain ⟨q0, q1, q2, q3, _⟩ := blk4 b3
  obtain ⟨r0, r1, r2, r3, _⟩ := blk4 b5
  obtain ⟨s0, s1, s2, s3, _⟩ := blk4 b9
  have lg9 : g9 < W.heap.size := by omega
  clear hsz l9
  simp only [List.length_cons, List.length_nil, Nat.zero_add, Nat.reduceAdd] at hR7
  refine wp_region_w (Gr _) (by kernel_rfl) (Below.refl _ _).drew ?_
  refine wpW_det (t' := ?ct0R7) 0 (by rfl) (by kernel_rfl) (NQ_free _) (by kernel_rfl) ?cw0R7 ?ch0R7 ?ca0R7 (Eq.refl _) ?cH0R7
  case cw0R7 => (go_simp; done)
  case ch0R7 =>
    intro ds w' hS K hK
    have hc := (bcell hS).1; have hf := (bcell hS).2; have hz := hS.size; (try simp at hz); go_simp; (try go_bits)
    first
      | exact hK _ hS (Gr.refl _)
      | (go_at_call 27; refine (lawPoint_any _ _ _).mono ?_; rintro e w1 ⟨rfl, hB1⟩; exact hK _ (Below.trans hS (Below.mono hB1 hS.size)) hB1)
      | exact hK _ (hS.alloc hS.size _) ((Below.refl _ _).alloc (Nat.le_refl _) _)
  case ca0R7 => (first | (simp [Act.put]; done) | (simp [Act.put, *]; done))
  try dsimp only
  refine wpW_det (t' := ?ct1R7) 1 (by rfl) (by kernel_rfl) (NQ_free _) (by kernel_rfl) ?cw1R7 ?ch1R7 ?ca1R7 (Eq.refl _) ?cH1R7
  case cw1R7 => (go_simp; done)
  case ch1R7 =>
    intro ds w' hS K hK
    have hc := (bcell hS).1; have hf := (bcell hS).2; have hz := hS.size; (try simp at hz); go_simp; (try go_bits)
    first
      | exact hK _ hS (Gr.refl _)
      | (go_at_call 27; refine (lawPoint_any _ _ _).mono ?_; rintro e w1 ⟨rfl, hB1⟩; exact hK _ (Below.trans hS (Below.mono hB1 hS.size)) hB1)
      | exact hK _ (hS.alloc hS.size _) ((Below.refl _ _).alloc (Nat.le_refl _) _)
  case ca1R7 => (first | (simp [Act.put]; done) | (simp [Act.put, *]; done))
  try dsimp only
  refine wpW_det (t' := ?ct2R7) 2 (by rfl) (by kernel_rfl) (NQ_free _) (by kernel_rfl) ?cw2R7 ?ch2R7 ?ca2R7 (Eq.refl _) ?cH2R7
  case cw2R7 => (go_simp; done)
  case ch2R7 =>
    intro ds w' hS K hK
    have hc := (bcell hS).1; have hf := (bcell hS).2; have hz := hS.size; (try simp at hz); go_simp; (try go_bits)
    first
      | exact hK _ hS (Gr.refl _)
      | (go_at_call 27; refine (lawPoint_any _ _ _).mono ?_; rintro e w1 ⟨rfl, hB1⟩; exact hK _ (Below.trans hS (Below.mono hB1 hS.size)) hB1)
      | exact hK _ (hS.alloc hS.size _) ((Below.refl _ _).alloc (Nat.le_refl _) _)
  case ca2R7 => (first | (simp [Act.put]; done) | (simp [Act.put, *]; done))
  try dsimp only
  refine wpW_det (t' := ?ct3R7) 3 (by rfl) (by kernel_rfl) (NQ_free _) (by kernel_rfl) ?cw3R7 ?ch3R7 ?ca3R7 (Eq.refl _) ?cH3R7
  case cw3R7 => (go_simp; done)
  case ch3R7 =>
    intro ds w' hS K hK
    have hc := (bcell hS).1; have hf := (bcell hS).2; have hz := hS.size; (try simp at hz); go_simp; (try go_bits)
    first
      | exact hK _ hS (Gr.refl _)
      | (go_at_call 27; refine (lawPoint_any _ _ _).mono ?_; rintro e w1 ⟨rfl, hB1⟩; exact hK _ (Below.trans hS (Below.mono hB1 hS.size)) hB1)
      | exact hK _ (hS.alloc hS.size _) ((Below.refl _ _).alloc (Nat.le_refl _) _)
  case ca3R7 => (first | (simp [Act.put]; done) | (simp [Act.put, *]; done))
  try dsimp only
  refine wpW_det (t' := ?ct4R7) 4 (by rfl) (by kernel_rfl) (NQ_free _) (by kernel_rfl) ?cw4R7 ?ch4R7 ?ca4R7 (Eq.refl _) ?cH4R7
  case cw4R7 => (go_simp; done)
  case ch4R7 =>
    intro ds w' hS K hK
    have hc := (bcell hS).1; have hf := (bcell hS).2; have hz := hS.size; (try simp at hz); go_simp; (try go_bits)
    first
      | exact hK _ hS (Gr.refl _)
      | (go_at_call 27; refine (lawPoint_any _ _ _).mono ?_; rintro e w1 ⟨rfl, hB1⟩; exact hK _ (Below.trans hS (Below.mono hB1 hS.size)) hB1)
      | exact hK _ (hS.alloc hS.size _) ((Below.refl _ _).alloc (Nat.le_refl _) _)
  case ca4R7 => (first | (simp [Act.put]; done) | (simp [Act.put, *]; done))
  try dsimp only
  refine wpW_det (t' := ?ct5R7) 5 (by rfl) (by kernel_rfl) (NQ_free _) (by kernel_rfl) ?cw5R7 ?ch5R7 ?ca5R7 (Eq.refl _) ?cH5R7
  case cw5R7 => (go_simp; done)
  case ch5R7 =>
    intro ds w' hS K hK
    have hc := (bcell hS).1; have hf := (bcell hS).2; have hz := hS.size; (try simp at hz); go_simp; (try go_bits)
    first
      | exact hK _ hS (Gr.refl _)
      | (go_at_call 27; refine (lawPoint_any _ _ _).mono ?_; rintro e w1 ⟨rfl, hB1⟩; exact hK _ (Below.trans hS (Below.mono hB1 hS.size)) hB1)
      | exact hK _ (hS.alloc hS.size _) ((Below.refl _ _).alloc (Nat.le_refl _) _)
  case ca5R7 => (first | (simp [Act.put]; done) | (simp [Act.put, *]; done))
  try dsimp only
  refine wpW_det (t' := ?ct6R7) 6 (by rfl) (by kernel_rfl) (NQ_free _) (by kernel_rfl) ?cw6R7 ?ch6R7 ?ca6R7 (Eq.refl _) ?cH6R7
  case cw6R7 => (go_simp; done)
  case ch6R7 =>
    intro ds w' hS K hK
    have hc := (bcell hS).1; have hf := (bcell hS).2; have hz := hS.size; (try simp at hz); go_simp; (try go_bits)
    first
      | exact hK _ hS (Gr.refl _)
      | (go_at_call 27; refine (lawPoint_any _ _ _).mono ?_; rintro e w1 ⟨rfl, hB1⟩; exact hK _ (Below.trans hS (Below.mono hB1 hS.size)) hB1)
      | exact hK _ (hS.alloc hS.size _) ((Below.refl _ _).alloc (Nat.le_refl _) _)
  case ca6R7 => (first | (simp [Act.put]; done) | (simp [Act.put, *]; done))
  try dsimp only
  refine wpW_det (t' := ?ct7R7) 7 (by rfl) (by kernel_rfl) (NQ_free _) (by kernel_rfl) ?cw7R7 ?ch7R7 ?ca7R7 (Eq.refl _) ?cH7R7
  case cw7R7 => (go_simp; done)
  case ch7R7 =>
    intro ds w' hS K hK
    have hc := (bcell hS).1; have hf := (bcell hS).2; have hz := hS.size; (try simp at hz); go_simp; (try go_bits)
    first
      | exact hK _ hS (Gr.refl _)
      | (go_at_call 27; refine (lawPoint_any _ _ _).mono ?_; rintro e w1 ⟨rfl, hB1⟩; exact hK _ (Below.trans hS (Below.mono hB1 hS.size)) hB1)
      | exact hK _ (hS.alloc hS.size _) ((Below.refl _ _).alloc (Nat.le_refl _) _)
  case ca7R7 => (first | (simp [Act.put]; done) | (simp [Act.put, *]; done))
  try dsimp only
  refine wpW_det (t' := ?ct8R7) 8 (by rfl) (by kernel_rfl) (NQ_free _) (by kernel_rfl) ?cw8R7 ?ch8R7 ?ca8R7 (Eq.refl _) ?cH8R7
  case cw8R7 => (go_simp; done)
  case ch8R7 =>
    intro ds w' hS K hK
    have hc := (bcell hS).1; have hf := (bcell hS).2; have hz := hS.size; (try simp at hz); go_simp; (try go_bits)
    first
      | exact hK _ hS (Gr.refl _)
      | (go_at_call 27; refine (lawPoint_any _ _ _).mono ?_; rintro e w1 ⟨rfl, hB1⟩; exact hK _ (Below.trans hS (Below.mono hB1 hS.size)) hB1)
      | exact hK _ (hS.alloc hS.size _) ((Below.refl _ _).alloc (Nat.le_refl _) _)
  case ca8R7 => (first | (simp [Act.put]; done) | (simp [Act.put, *]; done))
  try dsimp only
  refine wpW_det (t' := ?ct9R7) 9 (by rfl) (by kernel_rfl) (NQ_free _) (by kernel_rfl) ?cw9R7 ?ch9R7 ?ca9R7 (Eq.refl _) ?cH9R7
  case cw9R7 => (go_simp; done)
  case ch9R7 =>
    intro ds w' hS K hK
    have hc := (bcell hS).1; have hf := (bcell hS).2; have hz := hS.size; (try simp at hz); go_simp; (try go_bits)
    first
      | exact hK _ hS (Gr.refl _)
      | (go_at_call 27; refine (lawPoint_any _ _ _).mono ?_; rintro e w1 ⟨rfl, hB1⟩; exact hK _ (Below.trans hS (Below.mono hB1 hS.size)) hB1)
      | exact hK _ (hS.alloc hS.size _) ((Below.refl _ _).alloc (Nat.le_refl _) _)
  case ca9R7 => (first | (simp [Act.put]; done) | (simp [Act.put, *]; done))
  try dsimp only
  refine wpW_det (t' := ?ct10R7) 10 (by rfl) (by kernel_rfl) (NQ_free _) (by kernel_rfl) ?cw10R7 ?ch10R7 ?ca10R7 (Eq.refl _) ?cH10R7
  case cw10R7 => (go_simp; done)
  case ch10R7 =>
    intro ds w' hS K hK
    have hc := (bcell hS).1; have hf := (bcell hS).2; have hz := hS.size; (try simp at hz); go_simp; (try go_bits)
    first
      | exact hK _ hS (Gr.refl _)
      | (go_at_call 27; refine (lawPoint_any _ _ _).mono ?_; rintro e w1 ⟨rfl, hB1⟩; exact hK _ (Below.trans hS (Below.mono hB1 hS.size)) hB1)
      | exact hK _ (hS.alloc hS.size _) ((Below.refl _ _).alloc (Nat.le_refl _) _)
  case ca10R7 => (first | (simp [Act.put]; done) | (simp [Act.put, *]; done))
  try dsimp only
  refine wpW_det (t' := ?ct11R7) 11 (by rfl) (by kernel_rfl) (NQ_free _) (by kernel_rfl) ?cw11R7 ?ch11R7 ?ca11R7 (Eq.refl _) ?cH11R7
  case cw11R7 => (go_simp; done)
  case ch11R7 =>
    intro ds w' hS K hK
    have hc := (bcell hS).1; have hf := (bcell hS).2; have hz := hS.size; (try simp at hz); go_simp; (try go_bits)
    first
      | exact hK _ hS (Gr.refl _)
      | (go_at_call 27; refine (lawPoint_any _ _ _).mono ?_; rintro e w1 ⟨rfl, hB1⟩; exact hK _ (Below.trans hS (Below.mono hB1 hS.size)) hB1)
      | exact hK _ (hS.alloc hS.size _) ((Below.refl _ _).alloc (Nat.le_refl _) _)
  case ca11R7 => (first | (simp [Act.put]; done) | (simp [Act.put, *]; done))
  try dsimp only
  refine wpW_det (t' := ?ct12R7) 12 (by rfl) (by kernel_rfl) (NQ_free _) (by kernel_rfl) ?cw12R7 ?ch12R7 ?ca12R7 (Eq.refl _) ?cH12R7
  case cw12R7 => (go_simp; done)
  case ch12R7 =>
    intro ds w' hS K hK
    have hc := (bcell hS).1; have hf := (bcell hS).2; have hz := hS.size; (try simp at hz); go_simp; (try go_bits)
    first
      | exact hK _ hS (Gr.refl _)
      | (go_at_call 27; refine (lawPoint_any _ _ _).mono ?_; rintro e w1 ⟨rfl, hB1⟩; exact hK _ (Below.trans hS (Below.mono hB1 hS.size)) hB1)
      | exact hK _ (hS.alloc hS.size _) ((Below.refl _ _).alloc (Nat.le_refl _) _)
  case ca12R7 => (first | (simp [Act.put]; done) | (simp [Act.put, *]; done))
  try dsimp only
  refine wpW_det (t' := ?ct13R7) 13 (by rfl) (by kernel_rfl) (NQ_free _) (by kernel_rfl) ?cw13R7 ?ch13R7 ?ca13R7 (Eq.refl _) ?cH13R7
  case cw13R7 => (go_simp; done)
  case ch13R7 =>
    intro ds w' hS K hK
    have hc := (bcell hS).1; have hf := (bcell hS).2; have hz := hS.size; (try simp at hz); go_simp; (try go_bits)
    first
      | exact hK _ hS (Gr.refl _)
      | (go_at_call 27; refine (lawPoint_any _ _ _).mono ?_; rintro e w1 ⟨rfl, hB1⟩; exact hK _ (Below.trans hS (Below.mono hB1 hS.size)) hB1)
      | exact hK _ (hS.alloc hS.size _) ((Below.refl _ _).alloc (Nat.le_refl _) _)
  case ca13R7 => (first | (simp [Act.put]; done) | (simp [Act.put, *]; done))
  try dsimp only
  refine wpW_det (t' := ?ct14R7) 14 (by rfl) (by kernel_rfl) (NQ_free _) (by kernel_rfl) ?cw14R7 ?ch14R7 ?ca14R7 (Eq.refl _) ?cH14R7
  case cw14R7 => (go_simp; done)
  case ch14R7 =>
    intro ds w' hS K hK
    have hc := (bcell hS).1; have hf := (bcell hS).2; have hz := hS.size; (try simp at hz); go_simp; (try go_bits)
    first
      | exact hK _ hS (Gr.refl _)
      | (go_at_call 27; refine (lawPoint_any _ _ _).mono ?_; rintro e w1 ⟨rfl, hB1⟩; exact hK _ (Below.trans hS (Below.mono hB1 hS.size)) hB1)
      | exact hK _ (hS.alloc hS.size _) ((Below.refl _ _).alloc (Nat.le_refl _) _)
  case ca14R7 => (first | (simp [Act.put]; done) | (simp [Act.put, *]; done))
  try dsimp only
  refine wpW_det (t' := ?ct15R7) 15 (by rfl) (by kernel_rfl) (NQ_free _) (by kernel_rfl) ?cw15R7 ?ch15R7 ?ca15R7 (Eq.refl _) ?cH15R7
  case cw15R7 => (go_simp; done)
  case ch15R7 =>
    intro ds w' hS K hK
    have hc := (bcell hS).1; have hf := (bcell hS).2; have hz := hS.size; (try simp at hz); go_simp; (try go_bits)
    first
      | exact hK _ hS (Gr.refl _)
      | (go_at_call 27; refine (lawPoint_any _ _ _).mono ?_; rintro e w1 ⟨rfl, hB1⟩; exact hK _ (Below.trans hS (Below.mono hB1 hS.size)) hB1)
      | exact hK _ (hS.alloc hS.size _) ((Below.refl _ _).alloc (Nat.le_refl _) _)
  case ca15R7 => (first | (simp [Act.put]; done) | (simp [Act.put, *]; done))
  try dsimp only
  refine wpW_det (t' := ?ct16R7) 16 (by rfl) (by kernel_rfl) (NQ_free _) (by kernel_rfl) ?cw16R7 ?ch16R7 ?ca16R7 (Eq.refl _) ?cH16R7
  case cw16R7 => (go_simp; done)
  case ch16R7 =>
    intro ds w' hS K hK
    have hc := (bcell hS).1; have hf := (bcell hS).2; have hz := hS.size; (try simp at hz); go_simp; (try go_bits)
    first
      | exact hK _ hS (Gr.refl _)
      | (go_at_call 27; refine (lawPoint_any _ _ _).mono ?_; rintro e w1 ⟨rfl, hB1⟩; exact hK _ (Below.trans hS (Below.mono hB1 hS.size)) hB1)
      | exact hK _ (hS.alloc hS.size _) ((Below.refl _ _).alloc (Nat.le_refl _) _)
  case ca16R7 => (first | (simp [Act.put]; done) | (simp [Act.put, *]; done))
  try dsimp only
  refine wpW_det (t' := ?ct17R7) 17 (by rfl) (by kernel_rfl) (NQ_free _) (by kernel_rfl) ?cw17R7 ?ch17R7 ?ca17R7 (Eq.refl _) ?cH17R7
  case cw17R7 => (go_simp; done)
  case ch17R7 =>
    intro ds w' hS K hK
    have hc := (bcell hS).1; have hf := (bcell hS).2; have hz := hS.size; (try simp at hz); go_simp; (try go_bits)
    first
      | exact hK _ hS (Gr.refl _)
      | (go_at_call 27; refine (lawPoint_any _ _ _).mono ?_; rintro e w1 ⟨rfl, hB1⟩; exact hK _ (Below.trans hS (Below.mono hB1 hS.size)) hB1)
      | exact hK _ (hS.alloc hS.size _) ((Below.refl _ _).alloc (Nat.le_refl _) _)
  case ca17R7 => (first | (simp [Act.put]; done) | (simp [Act.put, *]; done))
  try dsimp only
  refine wpW_det (t' := ?ct18R7) 18 (by rfl) (by kernel_rfl) (NQ_free _) (by kernel_rfl) ?cw18R7 ?ch18R7 ?ca18R7 (Eq.refl _) ?cH18R7
  case cw18R7 => (go_simp; done)
  case ch18R7 =>
    intro ds w' hS K hK
    have hc := (bcell hS).1; have hf := (bcell hS).2; have hz := hS.size; (try simp at hz); go_simp; (try go_bits)
    first
      | exact hK _ hS (Gr.refl _)
      | (go_at_call 27; refine (lawPoint_any _ _ _).mono ?_; rintro e w1 ⟨rfl, hB1⟩; exact hK _ (Below.trans hS (Below.mono hB1 hS.size)) hB1)
      | exact hK _ (hS.alloc hS.size _) ((Below.refl _ _).alloc (Nat.le_refl _) _)
  case ca18R7 => (first | (simp [Act.put]; done) | (simp [Act.put, *]; done))
  try dsimp only
  refine wpW_det (t' := ?ct19R7) 19 (by rfl) (by kernel_rfl) (NQ_free _) (by kernel_rfl) ?cw19R7 ?ch19R7 ?ca19R7 (Eq.refl _) ?cH19R7
  case cw19R7 => (go_simp; done)
  case ch19R7 =>
    intro ds w' hS K hK
    have hc := (bcell hS).1; have hf := (bcell hS).2; have hz := hS.size; (try simp at hz); go_simp; (try go_bits)
    first
      | exact hK _ hS (Gr.refl _)
      | (go_at_call 27; refine (lawPoint_any _ _ _).mono ?_; rintro e w1 ⟨rfl, hB1⟩; exact hK _ (Below.trans hS (Below.mono hB1 hS.size)) hB1)
      | exact hK _ (hS.alloc hS.size _) ((Below.refl _ _).alloc (Nat.le_refl _) _)
  case ca19R7 => (first | (simp [Act.put]; done) | (simp [Act.put, *]; done))
  try dsimp only
  refine wpW_det (t' := ?ct20R7) 20 (by rfl) (by kernel_rfl) (NQ_free _) (by kernel_rfl) ?cw20R7 ?ch20R7 ?ca20R7 (Eq.refl _) ?cH20R7
  case cw20R7 => (go_simp; done)
  case ch20R7 =>
    intro ds w' hS K hK
    have hc := (bcell hS).1; have hf := (bcell hS).2; have hz := hS.size; (try simp at hz); go_simp; (try go_bits)
    first
      | exact hK _ hS (Gr.refl _)
      | (go_at_call 27; refine (lawPoint_any _ _ _).mono ?_; rintro e w1 ⟨rfl, hB1⟩; exact hK _ (Below.trans hS (Below.mono hB1 hS.size)) hB1)
      | exact hK _ (hS.alloc hS.size _) ((Below.refl _ _).alloc (Nat.le_refl _) _)
  case ca20R7 => (first | (simp [Act.put]; done) | (simp [Act.put, *]; done))
  try dsimp only
  refine wpW_det (t' := ?ct21R7) 21 (by rfl) (by kernel_rfl) (NQ_free _) (by kernel_rfl) ?cw21R7 ?ch21R7 ?ca21R7 (Eq.refl _) ?cH21R7
  case cw21R7 => (go_simp; done)
  case ch21R7 =>
    intro ds w' hS K hK
    have hc := (bcell hS).1; have hf := (bcell hS).2; have hz := hS.size; (try simp at hz); go_simp; (try go_bits)
    first
      | exact hK _ hS (Gr.refl _)
      | (go_at_call 27; refine (lawPoint_any _ _ _).mono ?_; rintro e w1 ⟨rfl, hB1⟩; exact hK _ (Below.trans hS (Below.mono hB1 hS.size)) hB1)
      | exact hK _ (hS.alloc hS.size _) ((Below.refl _ _).alloc (Nat.le_refl _) _)
  case ca21R7 => (first | (simp [Act.put]; done) | (simp [Act.put, *]; done))
  try dsimp only
  refine wpW_det (t' := ?ct22R7) 22 (by rfl) (by kernel_rfl) (NQ_free _) (by kernel_rfl) ?cw22R7 ?ch22R7 ?ca22R7 (Eq.refl _) ?cH22R7
  case cw22R7 => (go_simp; done)
  case ch22R7 =>
    intro ds w' hS K hK
    have hc := (bcell hS).1; have hf := (bcell hS).2; have hz := hS.size; (try simp at hz); go_simp; (try go_bits)
    first
      | exact hK _ hS (Gr.refl _)
      | (go_at_call 27; refine (lawPoint_any _ _ _).mono ?_; rintro e w1 ⟨rfl, hB1⟩; exact hK _ (Below.trans hS (Below.mono hB1 hS.size)) hB1)
      | exact hK _ (hS.alloc hS.size _) ((Below.refl _ _).alloc (Nat.le_refl _) _)
  case ca22R7 => (first | (simp [Act.put]; done) | (simp [Act.put, *]; done))
  try dsimp only
  refine wpW_det (t' := ?ct23R7) 23 (by rfl) (by kernel_rfl) (NQ_free _) (by kernel_rfl) ?cw23R7 ?ch23R7 ?ca23R7 (Eq.refl _) ?cH23R7
  case cw23R7 => (go_simp; done)
  case ch23R7 =>
    intro ds w' hS K hK
    have hc := (bcell hS).1; have hf := (bcell hS).2; have hz := hS.size; (try simp at hz); go_simp; (try go_bits)
    first
      | exact hK _ hS (Gr.refl _)
      | (go_at_call 27; refine (lawPoint_any _ _ _).mono ?_; rintro e w1 ⟨rfl, hB1⟩; exact hK _ (Below.trans hS (Below.mono hB1 hS.size)) hB1)
      | exact hK _ (hS.alloc hS.size _) ((Below.refl _ _).alloc (Nat.le_refl _) _)
  case ca23R7 => (first | (simp [Act.put]; done) | (simp [Act.put, *]; done))
  try dsimp only
  refine wpW_det (t' := ?ct24R7) 24 (by rfl) (by kernel_rfl) (NQ_free _) (by kernel_rfl) ?cw24R7 ?ch24R7 ?ca24R7 (Eq.refl _) ?cH24R7
  case cw24R7 => (go_simp; done)
  case ch24R7 =>
    intro ds w' hS K hK
    have hc := (bcell hS).1; have hf := (bcell hS).2; have hz := hS.size; (try simp at hz); go_simp; (try go_bits)
    first
      | exact hK _ hS (Gr.refl _)
      | (go_at_call 27; refine (lawPoint_any _ _ _).mono ?_; rintro e w1 ⟨rfl, hB1⟩; exact hK _ (Below.trans hS (Below.mono hB1 hS.size)) hB1)
      | exact hK _ (hS.alloc hS.size _) ((Below.refl _ _).alloc (Nat.le_refl _) _)
  case ca24R7 => (first | (simp [Act.put]; done) | (simp [Act.put, *]; done))
  try dsimp only
  refine wpW_det (t' := ?ct25R7) 25 (by rfl) (by kernel_rfl) (NQ_free _) (by kernel_rfl) ?cw25R7 ?ch25R7 ?ca25R7 (Eq.refl _) ?cH25R7
  case cw25R7 => (go_simp; done)
  case ch25R7 =>
    intro ds w' hS K hK
    have hc := (bcell hS).1; have hf := (bcell hS).2; have hz := hS.size; (try simp at hz); go_simp; (try go_bits)
    first
      | exact hK _ hS (Gr.refl _)
      | (go_at_call 27; refine (lawPoint_any _ _ _).mono ?_; rintro e w1 ⟨rfl, hB1⟩; exact hK _ (Below.trans hS (Below.mono hB1 hS.size)) hB1)
      | exact hK _ (hS.alloc hS.size _) ((Below.refl _ _).alloc (Nat.le_refl _) _)
  case ca25R7 => (first | (simp [Act.put]; done) | (simp [Act.put, *]; done))
  try dsimp only
  refine wpW_det (t' := ?ct26R7) 26 (by rfl) (by kernel_rfl) (NQ_free _) (by kernel_rfl) ?cw26R7 ?ch26R7 ?ca26R7 (Eq.refl _) ?cH26R7
  case cw26R7 => (go_simp; done)
  case ch26R7 =>
    intro ds w' hS K hK
    have hc := (bcell hS).1; have hf := (bcell hS).2; have hz := hS.size; (try simp at hz); go_simp; (try go_bits)
    first
      | exact hK _ hS (Gr.refl _)
      | (go_at_call 27; refine (lawPoint_any _ _ _).mono ?_; rintro e w1 ⟨rfl, hB1⟩; exact hK _ (Below.trans hS (Below.mono hB1 hS.size)) hB1)
      | exact hK _ (hS.alloc hS.size _) ((Below.refl _ _).alloc (Nat.le_refl _) _)
  case ca26R7 => (first | (simp [Act.put]; done) | (simp [Act.put, *]; done))
  try dsimp only
  refine wpW_det (t' := ?ct27R7) 27 (by rfl) (by kernel_rfl) (NQ_free _) (by kernel_rfl) ?cw27R7 ?ch27R7 ?ca27R7 (Eq.refl _) ?cH27R7
  case cw27R7 => (go_simp; done)
  case ch27R7 =>
    intro ds w' hS K hK
    have hc := (bcell hS).1; have hf := (bcell hS).2; have hz := hS.size; (try simp at hz); go_simp; (try go_bits)
    first
      | exact hK _ hS (Gr.refl _)
      | (go_at_call 27; refine (lawPoint_any _ _ _).mono ?_; rintro e w1 ⟨rfl, hB1⟩; exact hK _ (Below.trans hS (Below.mono hB1 hS.size)) hB1)
      | exact hK _ (hS.alloc hS.size _) ((Below.refl _ _).alloc (Nat.le_refl _) _)
  case ca27R7 => (first | (simp [Act.put]; done) | (simp [Act.put, *]; done))
  try dsimp only
  refine wpW_det (t' := ?ct28R7) 28 (by rfl) (by kernel_rfl) (NQ_free _) (by kernel_rfl) ?cw28R7 ?ch28R7 ?ca28R7 (Eq.refl _) ?cH28R7
  case cw28R7 => (go_simp; done)
  case ch28R7 =>
    intro ds w' hS K hK
    have hc := (bcell hS).1; have hf := (bcell hS).2; have hz := hS.size; (try simp at hz); go_simp; (try go_bits)
    first
      | exact hK _ hS (Gr.refl _)
      | (go_at_call 27; refine (lawPoint_any _ _ _).mono ?_; rintro e w1 ⟨rfl, hB1⟩; exact hK _ (Below.trans hS (Below.mono hB1 hS.size)) hB1)
      | exact hK _ (hS.alloc hS.size _) ((Below.refl _ _).alloc (Nat.le_refl _) _)
  case ca28R7 => (first | (simp [Act.put]; done) | (simp [Act.put, *]; done))
  try dsimp only
  refine wpW_det (t' := ?ct29R7) 29 (by rfl) (by kernel_rfl) (NQ_free _) (by kernel_rfl) ?cw29R7 ?ch29R7 ?ca29R7 (Eq.refl _) ?cH29R7
  case cw29R7 => (go_simp; done)
  case ch29R7 =>
    intro ds w' hS K hK
    have hc := (bcell hS).1; have hf := (bcell hS).2; have hz := hS.size; (try simp at hz); go_simp; (try go_bits)
    first
      | exact hK _ hS (Gr.refl _)
      | (go_at_call 27; refine (lawPoint_any _ _ _).mono ?_; rintro e w1 ⟨rfl, hB1⟩; exact hK _ (Below.trans hS (Below.mono hB1 hS.size)) hB1)
      | exact hK _ (hS.alloc hS.size _) ((Below.refl _ _).alloc (Nat.le_refl _) _)
  case ca29R7 => (first | (simp [Act.put]; done) | (simp [Act.put, *]; done))
  try dsimp only
  refine wpW_det (t' := ?ct30R7) 30 (by rfl) (by kernel_rfl) (NQ_free _) (by kernel_rfl) ?cw30R7 ?ch30R7 ?ca30R7 (Eq.refl _) ?cH30R7
  case cw30R7 => (go_simp; done)
  case ch30R7 =>
    intro ds w' hS K hK
    have hc := (bcell hS).1; have hf := (bcell hS).2; have hz := hS.size; (try simp at hz); go_simp; (try go_bits)
    first
      | exact hK _ hS (Gr.refl _)
      | (go_at_call 27; refine (lawPoint_any _ _ _).mono ?_; rintro e w1 ⟨rfl, hB1⟩; exact hK _ (Below.trans hS (Below.mono hB1 hS.size)) hB1)
      | exact hK _ (hS.alloc hS.size _) ((Below.refl _ _).alloc (Nat.le_refl _) _)
  case ca30R7 => (first | (simp [Act.put]; done) | (simp [Act.put, *]; done))
  try dsimp only
  refine wpW_det (t' := ?ct31R7) 31 (by rfl) (by kernel_rfl) (NQ_free _) (by kernel_rfl) ?cw31R7 ?ch31R7 ?ca31R7 (Eq.refl _) ?cH31R7
  case cw31R7 => (go_simp; done)
  case ch31R7 =>
    intro ds w' hS K hK
    have hc := (bcell hS).1; have hf := (bcell hS).2; have hz := hS.size; (try simp at hz); go_simp; (try go_bits)
    first
      | exact hK _ hS (Gr.refl _)
      | (go_at_call 27; refine (lawPoint_any _ _ _).mono ?_; rintro e w1 ⟨rfl, hB1⟩; exact hK _ (Below.trans hS (Below.mono hB1 hS.size)) hB1)
      | exact hK _ (hS.alloc hS.size _) ((Below.refl _ _).alloc (Nat.le_refl _) _)
  case ca31R7 => (first | (simp [Act.put]; done) | (simp [Act.put, *]; done))
  try dsimp only
  refine wpW_det (t' := ?ct32R7) 32 (by rfl) (by kernel_rfl) (NQ_free _) (by kernel_rfl) ?cw32R7 ?ch32R7 ?ca32R7 (Eq.refl _) ?cH32R7
  case cw32R7 => (go_simp; done)
  case ch32R7 =>
    intro ds w' hS K hK
    have hc := (bcell hS).1; have hf := (bcell hS).2; have hz := hS.size; (try simp at hz); go_simp; (try go_bits)
    first
      | exact hK _ hS (Gr.refl _)
      | (go_at_call 27; refine (lawPoint_any _ _ _).mono ?_; rintro e w1 ⟨rfl, hB1⟩; exact hK _ (Below.trans hS (Below.mono hB1 hS.size)) hB1)
      | exact hK _ (hS.alloc hS.size _) ((Below.refl _ _).alloc (Nat.le_refl _) _)
  case ca32R7 => (first | (simp [Act.put]; done) | (simp [Act.put, *]; done))
  try dsimp only
  refine wpW_det (t' := ?ct33R7) 33 (by rfl) (by kernel_rfl) (NQ_free _) (by kernel_rfl) ?cw33R7 ?ch33R7 ?ca33R7 (Eq.refl _) ?cH33R7
  case cw33R7 => (go_simp; done)
  case ch33R7 =>
    intro ds w' hS K hK
    have hc := (bcell hS).1; have hf := (bcell hS).2; have hz := hS.size; (try simp at hz); go_simp; (try go_bits)
    first
      | exact hK _ hS (Gr.refl _)
      | (go_at_call 27; refine (lawPoint_any _ _ _).mono ?_; rintro e w1 ⟨rfl, hB1⟩; exact hK _ (Below.trans hS (Below.mono hB1 hS.size)) hB1)
      | exact hK _ (hS.alloc hS.size _) ((Below.refl _ _).alloc (Nat.le_refl _) _)
  case ca33R7 => (first | (simp [Act.put]; done) | (simp [Act.put, *]; done))
  try dsimp only
  refine wpW_det (t' := ?ct34R7) 34 (by rfl) (by kernel_rfl) (NQ_free _) (by kernel_rfl) ?cw34R7 ?ch34R7 ?ca34R7 (Eq.refl _) ?cH34R7
  case cw34R7 => (go_simp; done)
  case ch34R7 =>
    intro ds w' hS K hK
    have hc := (bcell hS).1; have hf := (bcell hS).2; have hz := hS.size; (try simp at hz); go_simp; (try go_bits)
    first
      | exact hK _ hS (Gr.refl _)
      | (go_at_call 27; refine (lawPoint_any _ _ _).mono ?_; rintro e w1 ⟨rfl, hB1⟩; exact hK _ (Below.trans hS (Below.mono hB1 hS.size)) hB1)
      | exact hK _ (hS.alloc hS.size _) ((Below.refl _ _).alloc (Nat.le_refl _) _)
  case ca34R7 => (first | (simp [Act.put]; done) | (simp [Act.put, *]; done))
  try dsimp only
  refine wpW_det (t' := ?ct35R7) 35 (by rfl) (by kernel_rfl) (NQ_free _) (by kernel_rfl) ?cw35R7 ?ch35R7 ?ca35R7 (Eq.refl _) ?cH35R7
  case cw35R7 => (go_simp; done)
  case ch35R7 =>
    intro ds w' hS K hK
    have hc := (bcell hS).1; have hf := (bcell hS).2; have hz := hS.size; (try simp at hz); go_simp; (try go_bits)
    first
      | exact hK _ hS (Gr.refl _)
      | (go_at_call 27; refine (lawPoint_any _ _ _).mono ?_; rintro e w1 ⟨rfl, hB1⟩; exact hK _ (Below.trans hS (Below.mono hB1 hS.size)) hB1)
      | exact hK _ (hS.alloc hS.size _) ((Below.refl _ _).alloc (Nat.le_refl _) _)
  case ca35R7 => (first | (simp [Act.put]; done) | (simp [Act.put, *]; done))
  try dsimp only
  refine wpW_det (t' := ?ct36R7) 36 (by rfl) (by kernel_rfl) (NQ_free _) (by kernel_rfl) ?cw36R7 ?ch36R7 ?ca36R7 (Eq.refl _) ?cH36R7
  case cw36R7 => (go_simp; done)
  case ch36R7 =>
    intro ds w' hS K hK
    have hc := (bcell hS).1; have hf := (bcell hS).2; have hz := hS.size; (try simp at hz); go_simp; (try go_bits)
    first
      | exact hK _ hS (Gr.refl _)
      | (go_at_call 27; refine (lawPoint_any _ _ _).mono ?_; rintro e w1 ⟨rfl, hB1⟩; exact hK _ (Below.trans hS (Below.mono hB1 hS.size)) hB1)
      | exact hK _ (hS.alloc hS.size _) ((Below.refl _ _).alloc (Nat.le_refl _) _)
  case ca36R7 => (first | (simp [Act.put]; done) | (simp [Act.put, *]; done))
  try dsimp only
  refine wpW_det (t' := ?ct37R7) 37 (by rfl) (by kernel_rfl) (NQ_free _) (by kernel_rfl) ?cw37R7 ?ch37R7 ?ca37R7 (Eq.refl _) ?cH37R7
  case cw37R7 => (go_simp; done)
  case ch37R7 =>
    intro ds w' hS K hK
    have hc := (bcell hS).1; have hf := (bcell hS).2; have hz := hS.size; (try simp at hz); go_simp; (try go_bits)
    first
      | exact hK _ hS (Gr.refl _)
      | (go_at_call 27; refine (lawPoint_any _ _ _).mono ?_; rintro e w1 ⟨rfl, hB1⟩; exact hK _ (Below.trans hS (Below.mono hB1 hS.size)) hB1)
      | exact hK _ (hS.alloc hS.size _) ((Below.refl _ _).alloc (Nat.le_refl _) _)
  case ca37R7 => (first | (simp [Act.put]; done) | (simp [Act.put, *]; done))
  try dsimp only
  refine wpW_det (t' := ?ct38R7) 38 (by rfl) (by kernel_rfl) (NQ_free _) (by kernel_rfl) ?cw38R7 ?ch38R7 ?ca38R7 (Eq.refl _) ?cH38R7
  case cw38R7 => (go_simp; done)
  case ch38R7 =>
    intro ds w' hS K hK
    have hc := (bcell hS).1; have hf := (bcell hS).2; have hz := hS.size; (try simp at hz); go_simp; (try go_bits)
    first
      | exact hK _ hS (Gr.refl _)
      | (go_at_call 27; refine (lawPoint_any _ _ _).mono ?_; rintro e w1 ⟨rfl, hB1⟩; exact hK _ (Below.trans hS (Below.mono hB1 hS.size)) hB1)
      | exact hK _ (hS.alloc hS.size _) ((Below.refl _ _).alloc (Nat.le_refl _) _)
  case ca38R7 => (first | (simp [Act.put]; done) | (simp [Act.put, *]; done))
  try dsimp only
  refine wpW_det (t' := ?ct39R7) 39 (by rfl) (by kernel_rfl) (NQ_free _) (by kernel_rfl) ?cw39R7 ?ch39R7 ?ca39R7 (Eq.refl _) ?cH39R7
  case cw39R7 => (go_simp; done)
  case ch39R7 =>
    intro ds w' hS K hK
    have hc := (bcell hS).1; have hf := (bcell hS).2; have hz := hS.size; (try simp at hz); go_simp; (try go_bits)
    first
      | exact hK _ hS (Gr.refl _)
      | (go_at_call 27; refine (lawPoint_any _ _ _).mono ?_; rintro e w1 ⟨rfl, hB1⟩; exact hK _ (Below.trans hS (Below.mono hB1 hS.size)) hB1)
      | exact hK _ (hS.alloc hS.size _) ((Below.refl _ _).alloc (Nat.le_refl _) _)
  case ca39R7 => (first | (simp [Act.put]; done) | (simp [Act.put, *]; done))
  try dsimp only
  clear p0 p1 p2 p3 q0 q1 q2 q3 r0 r1 r2 r3 b1 b3 b5
  refine wpW_branch [40] (by kernel_rfl) (by simp) ?_
  intro wA hg_wA hS_wA
  refine each_cons ?_ each_nil
  refine wpOp_go (by rfl) (Eq.refl _) (by go_simp; done) ?_
  intro K hK
  go_simp
  try simp only [Act.put]
  have bA := Blk.new wA 79 #[.int .i64 0, .int .i64 11, .int .i64 29, .int .i64 29, .int .i64 47, .int .i64 100]
  refine hK _ _ (Below.alloc hS_wA (Below.size hS_wA) _) ?_
  clear hK K
  refine wpW_branch [41] (by kernel_rfl) (by simp) ?_
  intro wB hg_wB hS_wB
  refine each_cons ?_ each_nil
  refine wpOp_go (by rfl) (Eq.refl _) (by go_simp; done) ?_
  intro K hK
  go_simp
  try simp only [Act.put]
  have bB := Blk.gr bA hg_wB
  have lB := bB.lt
  have hWA := Below.size hS_wA
  have hRA : Row wB (wA.heap.size + 1) 2 (some ⟨wA.heap.size, 0, none⟩) 3 (rngsC [(0, 11), (29, 29), (47, 100)]) := ⟨rfl, fun _ => ⟨wA.heap.size, 0, rfl, by omega, fun j u hu => by rw [Nat.zero_add, bB.cell j, List.getElem?_toArray]; exact hu⟩⟩
  have hR7B := (hR7.below hS_wB (Nat.le_of_lt l10)).more (B' := wA.heap.size + 1) (by omega)
  have hd : decide ([((0 : Int), (11 : Int)), (29, 29), (47, 100)] = [(0, 11), (29, 29), (47, 100)]) = true := by decide
  refine (ranges_any [(0, 11), (29, 29), (47, 100)] [(0, 11), (29, 29), (47, 100)] A7 (some ⟨wA.heap.size, 0, none⟩) c7 3 (wA.heap.size + 1) wB (by simp) (by simp) hR7B hRA lB).mono ?_
  rw [hd]
  rintro e w12 ⟨rfl, hB12⟩
  have hS12 : Gr W w12 := Below.trans hS_wB (hB12.mono (Below.size hS_wB))
  refine hK _ _ hS12 ?_
  clear hK K hB12 hRA hR7B hR7 bA bB lB hg_wA hS_wA hg_wB hS_wB hWA
  refine wpW_det (t' := ?ct42R8) 42 (by rfl) (by kernel_rfl) (NQ_free _) (by kernel_rfl) ?cw42R8 ?ch42R8 ?ca42R8 (Eq.refl _) ?cH42R8
  case cw42R8 => (go_simp; done)
  case ch42R8 =>
    intro ds w' hS K hK
    have hc := (bcell hS).1; have hf := (bcell hS).2; have hz := hS.size; (try simp at hz); go_simp; (try go_bits)
    first
      | exact hK _ hS (Gr.refl _)
      | exact hK _ (hS.alloc hS.size _) ((Below.refl _ _).alloc (Nat.le_refl _) _)
  case ca42R8 => (first | (simp [Act.put]; done) | (simp [Act.put, *]; done))
  try dsimp only
  refine wpW_det (t' := ?ct43R8) 43 (by rfl) (by kernel_rfl) (NQ_free _) (by kernel_rfl) ?cw43R8 ?ch43R8 ?ca43R8 (Eq.refl _) ?cH43R8
  case cw43R8 => (go_simp; done)
  case ch43R8 =>
    intro ds w' hS K hK
    have hc := (bcell hS).1; have hf := (bcell hS).2; have hz := hS.size; (try simp at hz); go_simp; (try go_bits)
    first
      | exact hK _ hS (Gr.refl _)
      | exact hK _ (hS.alloc hS.size _) ((Below.refl _ _).alloc (Nat.le_refl _) _)
  case ca43R8 => (first | (simp [Act.put]; done) | (simp [Act.put, *]; done))
  try dsimp only
  refine wpW_det (t' := ?ct44R8) 44 (by rfl) (by kernel_rfl) (NQ_free _) (by kernel_rfl) ?cw44R8 ?ch44R8 ?ca44R8 (Eq.refl _) ?cH44R8
  case cw44R8 => (go_simp; done)
  case ch44R8 =>
    intro ds w' hS K hK
    have hc := (bcell hS).1; have hf := (bcell hS).2; have hz := hS.size; (try simp at hz); go_simp; (try go_bits)
    first
      | exact hK _ hS (Gr.refl _)
      | exact hK _ (hS.alloc hS.size _) ((Below.refl _ _).alloc (Nat.le_refl _) _)
  case ca44R8 => (first | (simp [Act.put]; done) | (simp [Act.put, *]; done))
  try dsimp only
  refine wpW_det (t' := ?ct45R8) 45 (by rfl) (by kernel_rfl) (NQ_free _) (by kernel_rfl) ?cw45R8 ?ch45R8 ?ca45R8 (Eq.refl _) ?cH45R8
  case cw45R8 => (go_simp; done)
  case ch45R8 =>
    intro ds w' hS K hK
    have hc := (bcell hS).1; have hf := (bcell hS).2; have hz := hS.size; (try simp at hz); go_simp; (try go_bits)
    first
      | exact hK _ hS (Gr.refl _)
      | exact hK _ (hS.alloc hS.size _) ((Below.refl _ _).alloc (Nat.le_refl _) _)
  case ca45R8 => (first | (simp [Act.put]; done) | (simp [Act.put, *]; done))
  try dsimp only
  refine wpW_det (t' := ?ct46R8) 46 (by rfl) (by kernel_rfl) (NQ_free _) (by kernel_rfl) ?cw46R8 ?ch46R8 ?ca46R8 (Eq.refl _) ?cH46R8
  case cw46R8 => (go_simp; done)
  case ch46R8 =>
    intro ds w' hS K hK
    have hc := (bcell hS).1; have hf := (bcell hS).2; have hz := hS.size; (try simp at hz); go_simp; (try go_bits)
    first
      | exact hK _ hS (Gr.refl _)
      | exact hK _ (hS.alloc hS.size _) ((Below.refl _ _).alloc (Nat.le_refl _) _)
  case ca46R8 => (first | (simp [Act.put]; done) | (simp [Act.put, *]; done))
  try dsimp only
  refine wpW_det (t' := ?ct47R8) 47 (by rfl) (by kernel_rfl) (NQ_free _) (by kernel_rfl) ?cw47R8 ?ch47R8 ?ca47R8 (Eq.refl _) ?cH47R8
  case cw47R8 => (go_simp; done)
  case ch47R8 =>
    intro ds w' hS K hK
    have hc := (bcell hS).1; have hf := (bcell hS).2; have hz := hS.size; (try simp at hz); go_simp; (try go_bits)
    first
      | exact hK _ hS (Gr.refl _)
      | exact hK _ (hS.alloc hS.size _) ((Below.refl _ _).alloc (Nat.le_refl _) _)
  case ca47R8 => (first | (simp [Act.put]; done) | (simp [Act.put, *]; done))
  try dsimp only
  refine wpW_det (t' := ?ct48R8) 48 (by rfl) (by kernel_rfl) (NQ_free _) (by kernel_rfl) ?cw48R8 ?ch48R8 ?ca48R8 (Eq.refl _) ?cH48R8
  case cw48R8 => (go_simp; done)
  case ch48R8 =>
    intro ds w' hS K hK
    have hc := (bcell hS).1; have hf := (bcell hS).2; have hz := hS.size; (try simp at hz); go_simp; (try go_bits)
    first
      | exact hK _ hS (Gr.refl _)
      | exact hK _ (hS.alloc hS.size _) ((Below.refl _ _).alloc (Nat.le_refl _) _)
  case ca48R8 => (first | (simp [Act.put]; done) | (simp [Act.put, *]; done))
  try dsimp only
  refine wpW_det (t' := ?ct49R8) 49 (by rfl) (by kernel_rfl) (NQ_free _) (by kernel_rfl) ?cw49R8 ?ch49R8 ?ca49R8 (Eq.refl _) ?cH49R8
  case cw49R8 => (go_simp; done)
  case ch49R8 =>
    intro ds w' hS K hK
    have hc := (bcell hS).1; have hf := (bcell hS).2; have hz := hS.size; (try simp at hz); go_simp; (try go_bits)
    first
      | exact hK _ hS (Gr.refl _)
      | exact hK _ (hS.alloc hS.size _) ((Below.refl _ _).alloc (Nat.le_refl _) _)
  case ca49R8 => (first | (simp [Act.put]; done) | (simp [Act.put, *]; done))
  try dsimp only
  refine wpW_det (t' := ?ct50R8) 50 (by rfl) (by kernel_rfl) (NQ_free _) (by kernel_rfl) ?cw50R8 ?ch50R8 ?ca50R8 (Eq.refl _) ?cH50R8
  case cw50R8 => (go_simp; done)
  case ch50R8 =>
    intro ds w' hS K hK
    have hc := (bcell hS).1; have hf := (bcell hS).2; have hz := hS.size; (try simp at hz); go_simp; (try go_bits)
    first
      | exact hK _ hS (Gr.refl _)
      | exact hK _ (hS.alloc hS.size _) ((Below.refl _ _).alloc (Nat.le_refl _) _)
  case ca50R8 => (first | (simp [Act.put]; done) | (simp [Act.put, *]; done))
  try dsimp only
  refine wpW_det (t' := ?ct51R8) 51 (by rfl) (by kernel_rfl) (NQ_free _) (by kernel_rfl) ?cw51R8 ?ch51R8 ?ca51R8 (Eq.refl _) ?cH51R8
  case cw51R8 => (go_simp; done)
  case ch51R8 =>
    intro ds w' hS K hK
    have hc := (bcell hS).1; have hf := (bcell hS).2; have hz := hS.size; (try simp at hz); go_simp; (try go_bits)
    first
      | exact hK _ hS (Gr.refl _)
      | exact hK _ (hS.alloc hS.size _) ((Below.refl _ _).alloc (Nat.le_refl _) _)
  case ca51R8 => (first | (simp [Act.put]; done) | (simp [Act.put, *]; done))
  try dsimp only
  refine wpW_det (t' := ?ct52R8) 52 (by rfl) (by kernel_rfl) (NQ_free _) (by kernel_rfl) ?cw52R8 ?ch52R8 ?ca52R8 (Eq.refl _) ?cH52R8
  case cw52R8 => (go_simp; done)
  case ch52R8 =>
    intro ds w' hS K hK
    have hc := (bcell hS).1; have hf := (bcell hS).2; have hz := hS.size; (try simp at hz); go_simp; (try go_bits)
    first
      | exact hK _ hS (Gr.refl _)
      | exact hK _ (hS.alloc hS.size _) ((Below.refl _ _).alloc (Nat.le_refl _) _)
  case ca52R8 => (first | (simp [Act.put]; done) | (simp [Act.put, *]; done))
  try dsimp only
  refine wpW_det (t' := ?ct53R8) 53 (by rfl) (by kernel_rfl) (NQ_free _) (by kernel_rfl) ?cw53R8 ?ch53R8 ?ca53R8 (Eq.refl _) ?cH53R8
  case cw53R8 => (go_simp; done)
  case ch53R8 =>
    intro ds w' hS K hK
    have hc := (bcell hS).1; have hf := (bcell hS).2; have hz := hS.size; (try simp at hz); go_simp; (try go_bits)
    first
      | exact hK _ hS (Gr.refl _)
      | exact hK _ (hS.alloc hS.size _) ((Below.refl _ _).alloc (Nat.le_refl _) _)
  case ca53R8 => (first | (simp [Act.put]; done) | (simp [Act.put, *]; done))
  try dsimp only
  refine wpW_det (t' := ?ct54R8) 54 (by rfl) (by kernel_rfl) (NQ_free _) (by kernel_rfl) ?cw54R8 ?ch54R8 ?ca54R8 (Eq.refl _) ?cH54R8
  case cw54R8 => (go_simp; done)
  case ch54R8 =>
    intro ds w' hS K hK
    have hc := (bcell hS).1; have hf := (bcell hS).2; have hz := hS.size; (try simp at hz); go_simp; (try go_bits)
    first
      | exact hK _ hS (Gr.refl _)
      | exact hK _ (hS.alloc hS.size _) ((Below.refl _ _).alloc (Nat.le_refl _) _)
  case ca54R8 => (first | (simp [Act.put]; done) | (simp [Act.put, *]; done))
  try dsimp only
  refine wpW_det (t' := ?ct55R8) 55 (by rfl) (by kernel_rfl) (NQ_free _) (by kernel_rfl) ?cw55R8 ?ch55R8 ?ca55R8 (Eq.refl _) ?cH55R8
  case cw55R8 => (go_simp; done)
  case ch55R8 =>
    intro ds w' hS K hK
    have hc := (bcell hS).1; have hf := (bcell hS).2; have hz := hS.size; (try simp at hz); go_simp; (try go_bits)
    first
      | exact hK _ hS (Gr.refl _)
      | exact hK _ (hS.alloc hS.size _) ((Below.refl _ _).alloc (Nat.le_refl _) _)
  case ca55R8 => (first | (simp [Act.put]; done) | (simp [Act.put, *]; done))
  try dsimp only
  refine wpW_det (t' := ?ct56R8) 56 (by rfl) (by kernel_rfl) (NQ_free _) (by kernel_rfl) ?cw56R8 ?ch56R8 ?ca56R8 (Eq.refl _) ?cH56R8
  case cw56R8 => (go_simp; done)
  case ch56R8 =>
    intro ds w' hS K hK
    have hc := (bcell hS).1; have hf := (bcell hS).2; have hz := hS.size; (try simp at hz); go_simp; (try go_bits)
    first
      | exact hK _ hS (Gr.refl _)
      | exact hK _ (hS.alloc hS.size _) ((Below.refl _ _).alloc (Nat.le_refl _) _)
  case ca56R8 => (first | (simp [Act.put]; done) | (simp [Act.put, *]; done))
  try dsimp only
  refine wpW_det (t' := ?ct57R8) 57 (by rfl) (by kernel_rfl) (NQ_free _) (by kernel_rfl) ?cw57R8 ?ch57R8 ?ca57R8 (Eq.refl _) ?cH57R8
  case cw57R8 => (go_simp; done)
  case ch57R8 =>
    intro ds w' hS K hK
    have hc := (bcell hS).1; have hf := (bcell hS).2; have hz := hS.size; (try simp at hz); go_simp; (try go_bits)
    first
      | exact hK _ hS (Gr.refl _)
      | exact hK _ (hS.alloc hS.size _) ((Below.refl _ _).alloc (Nat.le_refl _) _)
  case ca57R8 => (first | (simp [Act.put]; done) | (simp [Act.put, *]; done))
  try dsimp only
  refine wpW_det (t' := ?ct58R8) 58 (by rfl) (by kernel_rfl) (NQ_free _) (by kernel_rfl) ?cw58R8 ?ch58R8 ?ca58R8 (Eq.refl _) ?cH58R8
  case cw58R8 => (go_simp; done)
  case ch58R8 =>
    intro ds w' hS K hK
    have hc := (bcell hS).1; have hf := (bcell hS).2; have hz := hS.size; (try simp at hz); go_simp; (try go_bits)
    first
      | exact hK _ hS (Gr.refl _)
      | exact hK _ (hS.alloc hS.size _) ((Below.refl _ _).alloc (Nat.le_refl _) _)
  case ca58R8 => (first | (simp [Act.put]; done) | (simp [Act.put, *]; done))
  try dsimp only
  refine wpW_det (t' := ?ct59R8) 59 (by rfl) (by kernel_rfl) (NQ_free _) (by kernel_rfl) ?cw59R8 ?ch59R8 ?ca59R8 (Eq.refl _) ?cH59R8
  case cw59R8 => (go_simp; done)
  case ch59R8 =>
    intro ds w' hS K hK
    have hc := (bcell hS).1; have hf := (bcell hS).2; have hz := hS.size; (try simp at hz); go_simp; (try go_bits)
    first
      | exact hK _ hS (Gr.refl _)
      | exact hK _ (hS.alloc hS.size _) ((Below.refl _ _).alloc (Nat.le_refl _) _)
  case ca59R8 => (first | (simp [Act.put]; done) | (simp [Act.put, *]; done))
  try dsimp only
  refine wpW_det (t' := ?ct60R8) 60 (by rfl) (by kernel_rfl) (NQ_free _) (by kernel_rfl) ?cw60R8 ?ch60R8 ?ca60R8 (Eq.refl _) ?cH60R8
  case cw60R8 => (go_simp; done)
  case ch60R8 =>
    intro ds w' hS K hK
    have hc := (bcell hS).1; have hf := (bcell hS).2; have hz := hS.size; (try simp at hz); go_simp; (try go_bits)
    first
      | exact hK _ hS (Gr.refl _)
      | exact hK _ (hS.alloc hS.size _) ((Below.refl _ _).alloc (Nat.le_refl _) _)
  case ca60R8 => (first | (simp [Act.put]; done) | (simp [Act.put, *]; done))
  try dsimp only
  refine wpW_det (t' := ?ct61R8) 61 (by rfl) (by kernel_rfl) (NQ_free _) (by kernel_rfl) ?cw61R8 ?ch61R8 ?ca61R8 (Eq.refl _) ?cH61R8
  case cw61R8 => (go_simp; done)
  case ch61R8 =>
    intro ds w' hS K hK
    have hc := (bcell hS).1; have hf := (bcell hS).2; have hz := hS.size; (try simp at hz); go_simp; (try go_bits)
    first
      | exact hK _ hS (Gr.refl _)
      | exact hK _ (hS.alloc hS.size _) ((Below.refl _ _).alloc (Nat.le_refl _) _)
  case ca61R8 => (first | (simp [Act.put]; done) | (simp [Act.put, *]; done))
  try dsimp only
  refine wpW_det (t' := ?ct62R8) 62 (by rfl) (by kernel_rfl) (NQ_free _) (by kernel_rfl) ?cw62R8 ?ch62R8 ?ca62R8 (Eq.refl _) ?cH62R8
  case cw62R8 => (go_simp; done)
  case ch62R8 =>
    intro ds w' hS K hK
    have hc := (bcell hS).1; have hf := (bcell hS).2; have hz := hS.size; (try simp at hz); go_simp; (try go_bits)
    first
      | exact hK _ hS (Gr.refl _)
      | exact hK _ (hS.alloc hS.size _) ((Below.refl _ _).alloc (Nat.le_refl _) _)
  case ca62R8 => (first | (simp [Act.put]; done) | (simp [Act.put, *]; done))
  try dsimp only
  refine wpW_end (by kernel_rfl) ?_
  intro wE hgE hSE
  unfold NQ
  dsimp only
  go_wp2
  go_ret
  exact ⟨rfl, hA17.trans (hSE.mono (Below.size hA17))⟩
end Go.Proofs.YtaekcfancfoccaaGreatDoor
