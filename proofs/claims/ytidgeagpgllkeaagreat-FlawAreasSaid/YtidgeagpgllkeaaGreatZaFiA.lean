/- Contracts: grids; the order of cells; the error of the cells of an area. -/
import Derived.Test.YtidgeagpgllkeaaGreatZaFeB
import Derived.Test.YtidgeagpgllkeaaGreatZaFcP
namespace Go.Proofs.YtidgeagpgllkeaaGreat
open Go.RowKit

/-- A cell stands ahead of another one. -/
def befB (p q : Int × Int) : Bool := decide (p.1 < q.1) || (decide (p.1 = q.1) && decide (p.2 < q.2))
set_option maxHeartbeats 1000000 in
theorem before_any (p q : Int × Int) (w : World) : Calls Tryz.prog 131 #[.agg #[.int .i64 p.1, .int .i64 p.2], .agg #[.int .i64 q.1, .int .i64 q.2]] w fun e w' => e = .returned (.bool (befB p q)) ∧ Below w.heap.size w w' := by
  have HE : Hid (befB p q = (decide (p.1 < q.1) || (decide (p.1 = q.1) && decide (p.2 < q.2)))) := Lib.hid rfl
  obtain ⟨p1, p2⟩ := p
  obtain ⟨q1, q2⟩ := q
  have k0 := (Blk.new w 25 #[.int .i64 p1, .int .i64 p2]).alloc (.cells #[.int .i64 q1, .int .i64 q2] 25)
  have k1 := Blk.new (w.alloc (.cells #[.int .i64 p1, .int .i64 p2] 25)) 25 #[.int .i64 q1, .int .i64 q2]
  rw [World.size_alloc] at k1
  obtain ⟨c0, c1, _⟩ := blk2c k0
  obtain ⟨d0, d1, _⟩ := blk2c k1
  go_enter Tryz.func131, Tryz.ntmps131
  dsimp only at HE ⊢
  by_cases h1 : p1 < q1
  · have HX : Hid (befB (p1, p2) (q1, q2) = true) := Lib.hid (by rw [HE.out]; simp [h1])
    go_wp2
    go_ret
    exact ⟨by rw [HX.out]; rfl, (by repeat (first | (with_reducible exact Below.refl _ _) | (with_reducible assumption) | ((with_reducible refine Below.setCell ?_ ?_ _); rotate_left; · (first | exact Nat.le_refl _ | (simp; done) | (simp; omega) | omega)) | ((with_reducible refine Below.alloc ?_ ?_ _); rotate_left; · (first | exact Nat.le_refl _ | (simp; done) | (simp; omega) | omega)) | (with_reducible apply Below.drew) | (with_reducible apply below_drewN') | (refine Below.trans ?_ (Below.mono (by assumption) (by first | exact Nat.le_refl _ | (simp; done) | (simp; omega) | omega))) | exact Below.refl _ _ | assumption))⟩
  · by_cases h2 : p1 = q1
    · subst h2
      by_cases h3 : p2 < q2
      · have HX : Hid (befB (p1, p2) (p1, q2) = true) := Lib.hid (by rw [HE.out]; simp [h3])
        go_wp2
        go_ret
        exact ⟨by rw [HX.out]; rfl, (by repeat (first | (with_reducible exact Below.refl _ _) | (with_reducible assumption) | ((with_reducible refine Below.setCell ?_ ?_ _); rotate_left; · (first | exact Nat.le_refl _ | (simp; done) | (simp; omega) | omega)) | ((with_reducible refine Below.alloc ?_ ?_ _); rotate_left; · (first | exact Nat.le_refl _ | (simp; done) | (simp; omega) | omega)) | (with_reducible apply Below.drew) | (with_reducible apply below_drewN') | (refine Below.trans ?_ (Below.mono (by assumption) (by first | exact Nat.le_refl _ | (simp; done) | (simp; omega) | omega))) | exact Below.refl _ _ | assumption))⟩
      · have HX : Hid (befB (p1, p2) (p1, q2) = false) := Lib.hid (by rw [HE.out]; simp; omega)
        go_wp2
        go_ret
        exact ⟨by rw [HX.out]; rfl, (by repeat (first | (with_reducible exact Below.refl _ _) | (with_reducible assumption) | ((with_reducible refine Below.setCell ?_ ?_ _); rotate_left; · (first | exact Nat.le_refl _ | (simp; done) | (simp; omega) | omega)) | ((with_reducible refine Below.alloc ?_ ?_ _); rotate_left; · (first | exact Nat.le_refl _ | (simp; done) | (simp; omega) | omega)) | (with_reducible apply Below.drew) | (with_reducible apply below_drewN') | (refine Below.trans ?_ (Below.mono (by assumption) (by first | exact Nat.le_refl _ | (simp; done) | (simp; omega) | omega))) | exact Below.refl _ _ | assumption))⟩
    · have HX : Hid (befB (p1, p2) (q1, q2) = false) := Lib.hid (by rw [HE.out]; simp [h2]; omega)
      have h2' : (p1 == q1) = false := by simpa using h2
      go_wp2
      go_ret
      exact ⟨by rw [HX.out]; rfl, (by repeat (first | (with_reducible exact Below.refl _ _) | (with_reducible assumption) | ((with_reducible refine Below.setCell ?_ ?_ _); rotate_left; · (first | exact Nat.le_refl _ | (simp; done) | (simp; omega) | omega)) | ((with_reducible refine Below.alloc ?_ ?_ _); rotate_left; · (first | exact Nat.le_refl _ | (simp; done) | (simp; omega) | omega)) | (with_reducible apply Below.drew) | (with_reducible apply below_drewN') | (refine Below.trans ?_ (Below.mono (by assumption) (by first | exact Nat.le_refl _ | (simp; done) | (simp; omega) | omega))) | exact Below.refl _ _ | assumption))⟩
end Go.Proofs.YtidgeagpgllkeaaGreat
