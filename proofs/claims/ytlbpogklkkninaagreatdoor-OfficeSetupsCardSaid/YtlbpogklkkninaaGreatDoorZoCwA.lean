/- Contracts of the reference's parts for tracks: copies of numbers, the errors of a track and of readings, equal ranges. -/
import Derived.Laws.AppendOwnNone
import Derived.Test.YtlbpogklkkninaaGreatDoorZoCvV
namespace Go.Proofs.YtlbpogklkkninaaGreatDoor
open Go.RowKit

set_option maxHeartbeats 1000000 in
theorem rCheckTrack_any (t : Tk) (w : World) :
    Calls Tryz.prog 28 #[.agg (tkC t)] w fun e w' => e = .returned (.int .i64 (trackE t)) ∧ Below w.heap.size w w' := by
  unfold tkC
  cases h1 : wi t.frm 0 1000000
  · have HE : Hid (trackE t = 2) := by unfold trackE; rw [h1]; rfl
    go_enter Tryz.func28, Tryz.ntmps28
    go_wp2_with (go_at_call 24; refine (bWithin_any _ _ _ _).mono ?_; rintro e w1 ⟨rfl, rfl⟩)
    go_ret
    exact ⟨by rw [HE.out]; rfl, (by repeat (first | (with_reducible exact Below.refl _ _) | (with_reducible assumption) | ((with_reducible refine Below.setCell ?_ ?_ _); rotate_left; · (first | exact Nat.le_refl _ | (simp; done) | (simp; omega) | omega)) | ((with_reducible refine Below.alloc ?_ ?_ _); rotate_left; · (first | exact Nat.le_refl _ | (simp; done) | (simp; omega) | omega)) | (with_reducible apply Below.drew) | (with_reducible apply below_drewN') | (refine Below.trans ?_ (Below.mono (by assumption) (by first | exact Nat.le_refl _ | (simp; done) | (simp; omega) | omega))) | exact Below.refl _ _ | assumption))⟩
  · cases h2 : wi t.til 0 1000000
    · have HE : Hid (trackE t = 2) := by unfold trackE; rw [h1, h2]; rfl
      go_enter Tryz.func28, Tryz.ntmps28
      go_wp2_with (go_at_call 24; refine (bWithin_any _ _ _ _).mono ?_; rintro e w1 ⟨rfl, rfl⟩)
      go_ret
      exact ⟨by rw [HE.out]; rfl, (by repeat (first | (with_reducible exact Below.refl _ _) | (with_reducible assumption) | ((with_reducible refine Below.setCell ?_ ?_ _); rotate_left; · (first | exact Nat.le_refl _ | (simp; done) | (simp; omega) | omega)) | ((with_reducible refine Below.alloc ?_ ?_ _); rotate_left; · (first | exact Nat.le_refl _ | (simp; done) | (simp; omega) | omega)) | (with_reducible apply Below.drew) | (with_reducible apply below_drewN') | (refine Below.trans ?_ (Below.mono (by assumption) (by first | exact Nat.le_refl _ | (simp; done) | (simp; omega) | omega))) | exact Below.refl _ _ | assumption))⟩
    · cases h3 : wi t.slip 0 1000000
      · have HE : Hid (trackE t = 2) := by unfold trackE; rw [h1, h2, h3]; rfl
        go_enter Tryz.func28, Tryz.ntmps28
        go_wp2_with (go_at_call 24; refine (bWithin_any _ _ _ _).mono ?_; rintro e w1 ⟨rfl, rfl⟩)
        go_ret
        exact ⟨by rw [HE.out]; rfl, (by repeat (first | (with_reducible exact Below.refl _ _) | (with_reducible assumption) | ((with_reducible refine Below.setCell ?_ ?_ _); rotate_left; · (first | exact Nat.le_refl _ | (simp; done) | (simp; omega) | omega)) | ((with_reducible refine Below.alloc ?_ ?_ _); rotate_left; · (first | exact Nat.le_refl _ | (simp; done) | (simp; omega) | omega)) | (with_reducible apply Below.drew) | (with_reducible apply below_drewN') | (refine Below.trans ?_ (Below.mono (by assumption) (by first | exact Nat.le_refl _ | (simp; done) | (simp; omega) | omega))) | exact Below.refl _ _ | assumption))⟩
      · cases h4 : wi t.reach 0 1000000
        · have HE : Hid (trackE t = 2) := by unfold trackE; rw [h1, h2, h3, h4]; rfl
          go_enter Tryz.func28, Tryz.ntmps28
          go_wp2_with (go_at_call 24; refine (bWithin_any _ _ _ _).mono ?_; rintro e w1 ⟨rfl, rfl⟩)
          go_ret
          exact ⟨by rw [HE.out]; rfl, (by repeat (first | (with_reducible exact Below.refl _ _) | (with_reducible assumption) | ((with_reducible refine Below.setCell ?_ ?_ _); rotate_left; · (first | exact Nat.le_refl _ | (simp; done) | (simp; omega) | omega)) | ((with_reducible refine Below.alloc ?_ ?_ _); rotate_left; · (first | exact Nat.le_refl _ | (simp; done) | (simp; omega) | omega)) | (with_reducible apply Below.drew) | (with_reducible apply below_drewN') | (refine Below.trans ?_ (Below.mono (by assumption) (by first | exact Nat.le_refl _ | (simp; done) | (simp; omega) | omega))) | exact Below.refl _ _ | assumption))⟩
        · have HE0 : Hid (trackE t = if t.til < t.frm then 9 else 0) := by unfold trackE; rw [h1, h2, h3, h4]; rfl
          by_cases h5 : t.til < t.frm
          · have HE : Hid (trackE t = 9) := Lib.hid (by rw [HE0.out, if_pos h5])
            go_enter Tryz.func28, Tryz.ntmps28
            go_wp2_with (go_at_call 24; refine (bWithin_any _ _ _ _).mono ?_; rintro e w1 ⟨rfl, rfl⟩)
            go_ret
            exact ⟨by rw [HE.out]; rfl, (by repeat (first | (with_reducible exact Below.refl _ _) | (with_reducible assumption) | ((with_reducible refine Below.setCell ?_ ?_ _); rotate_left; · (first | exact Nat.le_refl _ | (simp; done) | (simp; omega) | omega)) | ((with_reducible refine Below.alloc ?_ ?_ _); rotate_left; · (first | exact Nat.le_refl _ | (simp; done) | (simp; omega) | omega)) | (with_reducible apply Below.drew) | (with_reducible apply below_drewN') | (refine Below.trans ?_ (Below.mono (by assumption) (by first | exact Nat.le_refl _ | (simp; done) | (simp; omega) | omega))) | exact Below.refl _ _ | assumption))⟩
          · have HE : Hid (trackE t = 0) := Lib.hid (by rw [HE0.out, if_neg h5])
            go_enter Tryz.func28, Tryz.ntmps28
            go_wp2_with (go_at_call 24; refine (bWithin_any _ _ _ _).mono ?_; rintro e w1 ⟨rfl, rfl⟩)
            go_ret
            exact ⟨by rw [HE.out]; rfl, (by repeat (first | (with_reducible exact Below.refl _ _) | (with_reducible assumption) | ((with_reducible refine Below.setCell ?_ ?_ _); rotate_left; · (first | exact Nat.le_refl _ | (simp; done) | (simp; omega) | omega)) | ((with_reducible refine Below.alloc ?_ ?_ _); rotate_left; · (first | exact Nat.le_refl _ | (simp; done) | (simp; omega) | omega)) | (with_reducible apply Below.drew) | (with_reducible apply below_drewN') | (refine Below.trans ?_ (Below.mono (by assumption) (by first | exact Nat.le_refl _ | (simp; done) | (simp; omega) | omega))) | exact Below.refl _ _ | assumption))⟩

end Go.Proofs.YtlbpogklkkninaaGreatDoor
