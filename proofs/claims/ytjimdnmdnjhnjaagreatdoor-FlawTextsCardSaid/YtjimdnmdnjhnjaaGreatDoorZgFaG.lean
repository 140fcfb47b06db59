/- Contracts: the amplitude of a cell; scans and an ask; whether a cell is above a level. -/
import Derived.Test.YtjimdnmdnjhnjaaGreatDoorZgFaF
namespace Go.Proofs.YtjimdnmdnjhnjaaGreatDoor
open Go.RowKit

/-- Whether a cell is known, and its amplitude at least a level. -/
def abv (g : Int → Int → Int) (r c level : Int) : Bool := decide (0 ≤ g r c) && decide (level ≤ g r c)

set_option maxHeartbeats 1000000 in
theorem above_any (b n : Nat) (g : Int → Int → Int) (r c level : Int) (w : World) (h : FMap w b n g) (hr : W64 r) (hc : W64 c) :
    Calls Tryz.prog 33 #[.map (some b), .agg #[.int .i64 r, .int .i64 c], .int .i64 level] w fun e w' => e = .returned (.bool (abv g r c level)) ∧ Below w.heap.size w w' := by
  have hlk := (h.alloc (.cells #[.int .i64 r, .int .i64 c] 62)).look_ok Tryz.underlying90 hr hc
  by_cases h0 : 0 ≤ g r c
  · have hd : decide (0 ≤ g r c) = true := by simpa using h0
    have HE : Hid (abv g r c level = decide (level ≤ pos (g r c))) := Lib.hid (by unfold abv pos; rw [hd, if_pos h0]; rfl)
    go_enter Tryz.func33, Tryz.ntmps33
    go_wp2
    go_ret
    exact ⟨by rw [HE.out]; rfl, (by repeat (first | (with_reducible exact Below.refl _ _) | (with_reducible assumption) | ((with_reducible refine Below.setCell ?_ ?_ _); rotate_left; · (first | exact Nat.le_refl _ | (simp; done) | (simp; omega) | omega)) | ((with_reducible refine Below.alloc ?_ ?_ _); rotate_left; · (first | exact Nat.le_refl _ | (simp; done) | (simp; omega) | omega)) | (with_reducible apply Below.drew) | (with_reducible apply below_drewN') | (refine Below.trans ?_ (Below.mono (by assumption) (by first | exact Nat.le_refl _ | (simp; done) | (simp; omega) | omega))) | exact Below.refl _ _ | assumption))⟩
  · have hd : decide (0 ≤ g r c) = false := by simpa using h0
    have HE : Hid (abv g r c level = false) := Lib.hid (by unfold abv; rw [hd]; rfl)
    clear h0
    go_enter Tryz.func33, Tryz.ntmps33
    go_wp2
    go_ret
    exact ⟨by rw [HE.out]; rfl, (by repeat (first | (with_reducible exact Below.refl _ _) | (with_reducible assumption) | ((with_reducible refine Below.setCell ?_ ?_ _); rotate_left; · (first | exact Nat.le_refl _ | (simp; done) | (simp; omega) | omega)) | ((with_reducible refine Below.alloc ?_ ?_ _); rotate_left; · (first | exact Nat.le_refl _ | (simp; done) | (simp; omega) | omega)) | (with_reducible apply Below.drew) | (with_reducible apply below_drewN') | (refine Below.trans ?_ (Below.mono (by assumption) (by first | exact Nat.le_refl _ | (simp; done) | (simp; omega) | omega))) | exact Below.refl _ _ | assumption))⟩

/-- The error of scans and of an ask. -/
def scanAskE (l : List Sc) (level : Int) : Int := firstE [(scansE l).2, levelE level]
set_option maxHeartbeats 1000000 in
theorem openAsk_ok (l : List Sc) (A : Option Addr) (cap B : Nat) (level : Int) (corners : Bool) (w : World) (hl : ScOk l A B w) (hB : B ≤ w.heap.size) (he : scanAskE l level = 0) :
    Calls Tryz.prog 32 #[.slice A l.length cap, .agg #[.int .i64 level, .bool corners]] w fun e w' => ∃ b n, e = .returned (.tuple #[.map (some b), .int .i64 0]) ∧ w.heap.size ≤ b ∧ n ≤ 100000 ∧ FMap w' b n (atV l) ∧ Below w.heap.size w w' := by
  have hz := (firstE_zero _).1 he
  have h1 : (scansE l).2 = 0 := hz _ (by simp)
  have h2 : levelE level = 0 := hz _ (by simp)
  have H1 := Lib.hid h1; clear h1 he hz
  have hB0 : Below w.heap.size w (w.alloc (.cells #[.int .i64 level, .bool corners] 41)) := (by repeat (first | (with_reducible exact Below.refl _ _) | (with_reducible assumption) | ((with_reducible refine Below.setCell ?_ ?_ _); rotate_left; · (first | exact Nat.le_refl _ | (simp; done) | (simp; omega) | omega)) | ((with_reducible refine Below.alloc ?_ ?_ _); rotate_left; · (first | exact Nat.le_refl _ | (simp; done) | (simp; omega) | omega)) | (with_reducible apply Below.drew) | (with_reducible apply below_drewN') | (refine Below.trans ?_ (Below.mono (by assumption) (by first | exact Nat.le_refl _ | (simp; done) | (simp; omega) | omega))) | exact Below.refl _ _ | assumption))
  go_enter Tryz.func32, Tryz.ntmps32
  go_wp2_with fail
  refine (open_ok l A cap B _ (hl.below hB0 hB) (by simp; omega) H1.out).mono ?_
  rintro e w1 ⟨b, n, rfl, hb, hn, hM, hB1⟩
  have bk := (Blk.new w 41 #[.int .i64 level, .bool corners]).gr hB1
  obtain ⟨k0, k1, _⟩ := blk2c bk
  have lk := bk.lt
  have hBB : Below w.heap.size w w1 := hB0.trans (hB1.mono (by simp))
  go_wp2_with (first
    | (go_at_call 68; refine (levelErr_any _ _).mono ?_; rintro e w1 ⟨rfl, rfl⟩)
    | (refine (first2_any _ _ _ _).mono ?_; rintro e w2 ⟨rfl, hB2⟩))
  go_ret2
  exact ⟨b, n, by simp [firstE], by simp at hb; omega, hn, hM.gr hB2, hBB.trans (hB2.mono (Below.size hBB))⟩
end Go.Proofs.YtjimdnmdnjhnjaaGreatDoor
