/- The law FlawAnyOrder answers true. -/
import Derived.Test.YtclpljbllnhhbaaGreatZeFgD
import Derived.Test.YtclpljbllnhhbaaGreatZeFjD
import Derived.Test.YtclpljbllnhhbaaGreatZeFjG
import Derived.Test.YtclpljbllnhhbaaGreatZeFeB
namespace Go.Proofs.YtclpljbllnhhbaaGreat
open Go.RowKit

set_option maxRecDepth 100000 in
set_option maxHeartbeats 1000000 in
theorem refAskErr_any (level : Int) (corners : Bool) (w : World) : Calls Tryz.prog 6 #[.agg #[.int .i64 level, .bool corners]] w fun e w' => e = .returned (.int .i64 (levelE level)) ∧ Below w.heap.size w w' := by
  have b1 := Blk.new w 24 #[.int .i64 level, .bool corners]
  have hBB : Below w.heap.size w (w.alloc (.cells #[.int .i64 level, .bool corners] 24)) := (by repeat (first | (with_reducible exact Below.refl _ _) | (with_reducible assumption) | ((with_reducible refine Below.setCell ?_ ?_ _); rotate_left; · (first | exact Nat.le_refl _ | (simp; done) | (simp; omega) | omega)) | ((with_reducible refine Below.alloc ?_ ?_ _); rotate_left; · (first | exact Nat.le_refl _ | (simp; done) | (simp; omega) | omega)) | (with_reducible apply Below.drew) | (with_reducible apply below_drewN') | (refine Below.trans ?_ (Below.mono (by assumption) (by first | exact Nat.le_refl _ | (simp; done) | (simp; omega) | omega))) | exact Below.refl _ _ | assumption))
  obtain ⟨c0, c1, f1⟩ := blk2c b1
  have l1 := b1.lt
  have HE : Hid (levelE level = if wi level 0 1000000000 then 0 else 2) := Lib.hid rfl
  obtain ⟨D, hD⟩ : ∃ D, wi level 0 1000000000 = D := ⟨_, rfl⟩
  have HW := Lib.hid hD
  rw [hD] at HE
  clear hD
  go_enter Tryz.func6, Tryz.ntmps6
  cases D
  all_goals
    go_wp2_with (go_at_call 23; refine (isLevel_any _ _).mono ?_; rw [HW.out]; rintro e w1 ⟨rfl, rfl⟩)
    go_ret
    exact ⟨by rw [HE.out]; rfl, hBB⟩
theorem ArsOk.more {g : Int → Int → Int} {As : List ArA} {A : Option Addr} {B B' : Nat} {w : World} (h : ArsOk g As A B w) (hB : B ≤ B') : ArsOk g As A B' w :=
  ⟨h.len, h.row.more hB, fun a ha => ⟨(h.each a ha).len, by obtain ⟨A, c, e, hr⟩ := (h.each a ha).row; exact ⟨A, c, e, hr.more hB⟩⟩⟩

end Go.Proofs.YtclpljbllnhhbaaGreat
