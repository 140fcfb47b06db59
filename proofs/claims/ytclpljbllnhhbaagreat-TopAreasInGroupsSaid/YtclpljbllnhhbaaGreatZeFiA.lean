/- Contracts: grids; the order of cells; the error of the cells of an area. -/
import Derived.Test.YtclpljbllnhhbaaGreatZeFeB
import Derived.Test.YtclpljbllnhhbaaGreatZeFfE
namespace Go.Proofs.YtclpljbllnhhbaaGreat
open Go.RowKit

def gridE (a d : Int) : Int := if wi a 1 10000 && wi d 1 10000 then 0 else 2
set_option maxHeartbeats 1000000 in
theorem checkGrid_any (a d : Int) (w : World) : Calls Tryz.prog 28 #[.agg #[.int .i64 a, .int .i64 d]] w fun e w' => e = .returned (.int .i64 (gridE a d)) ∧ Below w.heap.size w w' := by
  have HE : Hid (unlessE (wi a 1 10000 && wi d 1 10000) 2 = gridE a d) := Lib.hid (by unfold unlessE gridE; rfl)
  go_enter Tryz.func28, Tryz.ntmps28
  have b1 := Blk.new w 26 #[.int .i64 a, .int .i64 d]
  obtain ⟨c0, c1, _⟩ := blk2c b1
  have hBB : Below w.heap.size w (w.alloc (.cells #[.int .i64 a, .int .i64 d] 26)) := (by repeat (first | (with_reducible exact Below.refl _ _) | (with_reducible assumption) | ((with_reducible refine Below.setCell ?_ ?_ _); rotate_left; · (first | exact Nat.le_refl _ | (simp; done) | (simp; omega) | omega)) | ((with_reducible refine Below.alloc ?_ ?_ _); rotate_left; · (first | exact Nat.le_refl _ | (simp; done) | (simp; omega) | omega)) | (with_reducible apply Below.drew) | (with_reducible apply below_drewN') | (refine Below.trans ?_ (Below.mono (by assumption) (by first | exact Nat.le_refl _ | (simp; done) | (simp; omega) | omega))) | exact Below.refl _ _ | assumption))
  cases h1 : wi a 1 10000 <;> cases h2 : wi d 1 10000
  all_goals
    have H1 := Lib.hid h1
    have H2 := Lib.hid h2
    rw [h1, h2] at HE
    clear h1 h2
    go_wp2_with (first
      | (go_at_call 53; refine (within_any _ _ _ _).mono ?_; (first | rw [H1.out] | rw [H2.out]); rintro e w1 ⟨rfl, rfl⟩)
      | (go_at_call 52; refine (unless_any _ _ _).mono ?_; rintro e w1 ⟨rfl, rfl⟩))
    go_ret
    exact ⟨by rw [← HE.out]; rfl, hBB⟩
set_option maxHeartbeats 1000000 in
theorem refCheckGrid_any (a d : Int) (w : World) : Calls Tryz.prog 5 #[.agg #[.int .i64 a, .int .i64 d]] w fun e w' => e = .returned (.int .i64 (gridE a d)) ∧ Below w.heap.size w w' := by
  have HE : Hid (gridE a d = if wi a 1 10000 && wi d 1 10000 then 0 else 2) := Lib.hid rfl
  go_enter Tryz.func5, Tryz.ntmps5
  have b1 := Blk.new w 26 #[.int .i64 a, .int .i64 d]
  obtain ⟨c0, c1, _⟩ := blk2c b1
  have hBB : Below w.heap.size w (w.alloc (.cells #[.int .i64 a, .int .i64 d] 26)) := (by repeat (first | (with_reducible exact Below.refl _ _) | (with_reducible assumption) | ((with_reducible refine Below.setCell ?_ ?_ _); rotate_left; · (first | exact Nat.le_refl _ | (simp; done) | (simp; omega) | omega)) | ((with_reducible refine Below.alloc ?_ ?_ _); rotate_left; · (first | exact Nat.le_refl _ | (simp; done) | (simp; omega) | omega)) | (with_reducible apply Below.drew) | (with_reducible apply below_drewN') | (refine Below.trans ?_ (Below.mono (by assumption) (by first | exact Nat.le_refl _ | (simp; done) | (simp; omega) | omega))) | exact Below.refl _ _ | assumption))
  cases h1 : wi a 1 10000 <;> cases h2 : wi d 1 10000
  all_goals
    have H1 := Lib.hid h1
    have H2 := Lib.hid h2
    rw [h1, h2] at HE
    clear h1 h2
    go_wp2_with (go_at_call 7; refine (bWithin_any _ _ _ _).mono ?_; (first | rw [H1.out] | rw [H2.out]); rintro e w1 ⟨rfl, rfl⟩)
    go_ret
    exact ⟨by rw [HE.out]; rfl, hBB⟩
/-- A cell stands ahead of another one. -/
def befB (p q : Int × Int) : Bool := decide (p.1 < q.1) || (decide (p.1 = q.1) && decide (p.2 < q.2))
theorem befB_cmp (p q : Int × Int) : befB p q = decide (cmp2 p q < 0) := by
  unfold befB cmp2
  by_cases h1 : p.1 < q.1
  · simp [h1]
  · by_cases h2 : q.1 < p.1
    · have h3 : ¬ p.1 = q.1 := by omega
      simp [h1, h2, h3]
    · have h3 : p.1 = q.1 := by omega
      by_cases h4 : p.2 < q.2
      · simp [h3, h4]
      · by_cases h5 : q.2 < p.2 <;> simp [h3, h4, h5]
set_option maxHeartbeats 1000000 in
theorem ordered_any (p q : Int × Int) (w : World) : Calls Tryz.prog 36 #[.agg #[.int .i64 p.1, .int .i64 p.2], .agg #[.int .i64 q.1, .int .i64 q.2]] w fun e w' => e = .returned (.int .i64 (cmp2 p q)) ∧ Below w.heap.size w w' :=
  (ordered_grow p.1 p.2 q.1 q.2 w).mono fun e w' h => by
    obtain ⟨h1, k, os, rfl⟩ := h
    refine ⟨h1, ?_⟩
    have : Below w.heap.size (w.drewN k) (Sort.grow (w.drewN k) os) := ⟨rfl, rfl, rfl, by simp [Sort.grow], fun i hi => by simp [Sort.grow, Array.getElem?_append_left hi]⟩
    exact Below.trans (gr_drewN w k) this
set_option maxHeartbeats 1000000 in
theorem before_any (p q : Int × Int) (w : World) : Calls Tryz.prog 56 #[.agg #[.int .i64 p.1, .int .i64 p.2], .agg #[.int .i64 q.1, .int .i64 q.2]] w fun e w' => e = .returned (.bool (befB p q)) ∧ Below w.heap.size w w' := by
  have HE : Hid (befB p q = (decide (p.1 < q.1) || (decide (p.1 = q.1) && decide (p.2 < q.2)))) := Lib.hid rfl
  obtain ⟨p1, p2⟩ := p
  obtain ⟨q1, q2⟩ := q
  have k0 := (Blk.new w 39 #[.int .i64 p1, .int .i64 p2]).alloc (.cells #[.int .i64 q1, .int .i64 q2] 39)
  have k1 := Blk.new (w.alloc (.cells #[.int .i64 p1, .int .i64 p2] 39)) 39 #[.int .i64 q1, .int .i64 q2]
  rw [World.size_alloc] at k1
  obtain ⟨c0, c1, _⟩ := blk2c k0
  obtain ⟨d0, d1, _⟩ := blk2c k1
  go_enter Tryz.func56, Tryz.ntmps56
  dsimp only at HE ⊢
  by_cases h1 : p1 < q1
  · have HX : Hid (befB (p1, p2) (q1, q2) = true) := Lib.hid (by rw [HE.out]; simp [h1])
    go_wp2
    go_ret
    exact ⟨by rw [HX.out]; rfl, (by repeat (first | (with_reducible exact Below.refl _ _) | (with_reducible assumption) | ((with_reducible refine Below.setCell ?_ ?_ _); rotate_left; · (first | exact Nat.le_refl _ | (simp; done) | (simp; omega) | omega)) | ((with_reducible refine Below.alloc ?_ ?_ _); rotate_left; · (first | exact Nat.le_refl _ | (simp; done) | (simp; omega) | omega)) | (with_reducible apply Below.drew) | (with_reducible apply below_drewN') | (refine Below.trans ?_ (Below.mono (by assumption) (by first | exact Nat.le_refl _ | (simp; done) | (simp; omega) | omega))) | exact Below.refl _ _ | assumption))⟩
  · by_cases h2 : p1 = q1
    · subst h2
      by_cases h3 : p2 < q2
      · have HX : Hid (befB (p1, p2) (p1, q2) = true) := Lib.hid (by rw [HE.out]; simp [h3])
        go_wp2
        go_ret
        exact ⟨by rw [HX.out]; rfl, (by repeat (first | (with_reducible exact Below.refl _ _) | (with_reducible assumption) | ((with_reducible refine Below.setCell ?_ ?_ _); rotate_left; · (first | exact Nat.le_refl _ | (simp; done) | (simp; omega) | omega)) | ((with_reducible refine Below.alloc ?_ ?_ _); rotate_left; · (first | exact Nat.le_refl _ | (simp; done) | (simp; omega) | omega)) | (with_reducible apply Below.drew) | (with_reducible apply below_drewN') | (refine Below.trans ?_ (Below.mono (by assumption) (by first | exact Nat.le_refl _ | (simp; done) | (simp; omega) | omega))) | exact Below.refl _ _ | assumption))⟩
      · have HX : Hid (befB (p1, p2) (p1, q2) = false) := Lib.hid (by rw [HE.out]; simp; omega)
        go_wp2
        go_ret
        exact ⟨by rw [HX.out]; rfl, (by repeat (first | (with_reducible exact Below.refl _ _) | (with_reducible assumption) | ((with_reducible refine Below.setCell ?_ ?_ _); rotate_left; · (first | exact Nat.le_refl _ | (simp; done) | (simp; omega) | omega)) | ((with_reducible refine Below.alloc ?_ ?_ _); rotate_left; · (first | exact Nat.le_refl _ | (simp; done) | (simp; omega) | omega)) | (with_reducible apply Below.drew) | (with_reducible apply below_drewN') | (refine Below.trans ?_ (Below.mono (by assumption) (by first | exact Nat.le_refl _ | (simp; done) | (simp; omega) | omega))) | exact Below.refl _ _ | assumption))⟩
    · have HX : Hid (befB (p1, p2) (q1, q2) = false) := Lib.hid (by rw [HE.out]; simp [h2]; omega)
      have h2' : (p1 == q1) = false := by simpa using h2
      go_wp2
      go_ret
      exact ⟨by rw [HX.out]; rfl, (by repeat (first | (with_reducible exact Below.refl _ _) | (with_reducible assumption) | ((with_reducible refine Below.setCell ?_ ?_ _); rotate_left; · (first | exact Nat.le_refl _ | (simp; done) | (simp; omega) | omega)) | ((with_reducible refine Below.alloc ?_ ?_ _); rotate_left; · (first | exact Nat.le_refl _ | (simp; done) | (simp; omega) | omega)) | (with_reducible apply Below.drew) | (with_reducible apply below_drewN') | (refine Below.trans ?_ (Below.mono (by assumption) (by first | exact Nat.le_refl _ | (simp; done) | (simp; omega) | omega))) | exact Below.refl _ _ | assumption))⟩
end Go.Proofs.YtclpljbllnhhbaaGreat
