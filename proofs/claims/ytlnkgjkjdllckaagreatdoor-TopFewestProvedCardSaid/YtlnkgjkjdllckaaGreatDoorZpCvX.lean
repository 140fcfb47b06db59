/- The parts of a face as parts with ends that are points; contract: FirstGap. -/
import Derived.Test.YtlnkgjkjdllckaaGreatDoorZpCvR
namespace Go.Proofs.YtlnkgjkjdllckaaGreatDoor
open Go.RowKit

theorem shD_pos {n d : Int} (hd : 0 < d) : 0 < shD n d := by
  unfold shD
  have h0 : (Int.gcd n d : Int) ∣ d := Int.gcd_dvd_right ..
  have h1 : 0 < (Int.gcd n d : Int) := by
    have : Int.gcd n d ≠ 0 := fun h => by rw [Int.gcd_eq_zero_iff] at h; omega
    omega
  exact Int.ediv_pos_of_pos_of_dvd hd (by omega) h0
def PV.pos (p : PV) : Prop := 0 < p.b ∧ 0 < p.d
theorem PV.frm_pos {p : PV} {n m : Int} (h : p.pos) (hm : 0 < m) : (PV.frm p n m).pos := by
  unfold PV.frm
  split
  · exact ⟨hm, h.2⟩
  · exact h
theorem PV.to_pos {p : PV} {n m : Int} (h : p.pos) (hm : 0 < m) : (PV.to p n m).pos := by
  unfold PV.to
  split
  · exact ⟨h.1, hm⟩
  · exact h
theorem PV.cut_pos {p : PV} {n m : Int} (h : p.pos) : (PV.cut p n m).pos := by
  unfold PV.cut
  split
  · exact h
  · split
    · exact PV.frm_pos h (shD_pos (by omega))
    · split
      · exact h
      · split
        · exact PV.to_pos h (shD_pos (by omega))
        · exact h
theorem metW_pos {wx wz dx dz : Int} {s : Su} : (metW wx wz dx dz s).pos := by
  by_cases hk : wx * dz - wz * dx = 0
  · have : metW wx wz dx dz s = ⟨0, 1, 1, 1, true, false⟩ := if_pos hk
    rw [this]; exact ⟨by decide, by decide⟩
  · rw [metW_no hk]
    exact PV.cut_pos (PV.cut_pos (PV.cut_pos (PV.cut_pos ⟨by show (0:Int) < 1; decide, by show (0:Int) < 1; decide⟩)))
theorem metV_pos {thick : Int} {f : Fc} {s : Su} : (metV thick f s).pos := by
  unfold metV; split <;> exact metW_pos
/-- The parts, with what is known of them. -/
theorem partsG (j : Jo) (k : Int) (l : List (ByteArray × Su)) (h0 : openFaceE j k = 0) (h1 : setupsE l = 0) : ∃ ps : List GP, ps.map Subtype.val = partsV j k l := by
  have hall := (setupsE_zero h1).2
  clear h1
  induction l with
  | nil => exact ⟨[], rfl⟩
  | cons p l ih =>
    obtain ⟨ps, hps⟩ := ih fun q hq => hall q (List.mem_cons_of_mem _ hq)
    refine ⟨⟨metV j.thick (faceAt j k) p.2, metV_ok (lim_at h0 (hall p (List.mem_cons_self ..))), metV_pos.1, metV_pos.2⟩ :: ps, ?_⟩
    simp only [List.map_cons, hps]; rfl
theorem ptsC_flat (ps : List GP) : ptsC (ps.map Subtype.val) = ps.flatMap encP := by
  induction ps with
  | nil => rfl
  | cons p ps ih => simp only [ptsC, List.map_cons, List.flatMap_cons] at ih ⊢; rw [ih]; rfl
end Go.Proofs.YtlnkgjkjdllckaaGreatDoor
