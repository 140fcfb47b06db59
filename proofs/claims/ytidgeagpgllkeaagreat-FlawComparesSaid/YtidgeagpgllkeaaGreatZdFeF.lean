/- Contract: whether two marks interact, with errors. Contract: whether two marks are alike, with errors. Plain law: turned round, two marks interact and are alike just the same. -/
import Derived.Test.YtidgeagpgllkeaaGreatZdFeD
import Derived.Test.YtidgeagpgllkeaaGreatZdFcN
namespace Go.Proofs.YtidgeagpgllkeaaGreat
open Go.RowKit

end Go.Proofs.YtidgeagpgllkeaaGreat

namespace Go.Proofs.YtidgeagpgllkeaaGreat
open Go.RowKit

set_option maxHeartbeats 400000 in
theorem slackErr_any (n : Int) (w : World) : Calls Tryz.prog 126 #[.int .i64 n] w fun e w' => e = .returned (.int .i64 (slackE n)) ∧ w = w' := by
  have HE : Hid (unlessE (wi n 0 100000) 2 = slackE n) := Lib.hid rfl
  go_enter Tryz.func126, Tryz.ntmps126
  go_wp2_with (first
    | (go_at_call 92; refine (within_any _ _ _ _).mono ?_; rintro e w1 ⟨rfl, rfl⟩)
    | (go_at_call 95; refine (unless_any _ _ _).mono ?_; rintro e w1 ⟨rfl, rfl⟩))
  go_ret
  exact ⟨by rw [← HE.out]; rfl, rfl⟩
set_option maxRecDepth 100000 in
set_option maxHeartbeats 1000000 in
theorem alike_any (a b : Mk) (n : Int) (ha : MkS a) (hb : MkS b) (w : World) :
    Calls Tryz.prog 127 #[.agg (mkC a), .agg (mkC b), .int .i64 n] w fun e w' => e = .returned (.bool (alikeV a b n)) ∧ Below w.heap.size w w' := by
  have sm : ∀ x, Sm x → -1000000000 ≤ x ∧ x ≤ 1000000000 := fun x h => by unfold Sm at h; omega
  have HV : Hid ((decide (gapV a.al a.ah b.al b.ah ≤ n) && decide (gapV a.dl a.dh b.dl b.dh ≤ n)) = alikeV a b n) := Lib.hid rfl
  have C1 := fun w => gap_any a.al a.ah b.al b.ah (sm _ ha.al) (sm _ ha.ah) (sm _ hb.al) (sm _ hb.ah) w
  have C2 := fun w => gap_any a.dl a.dh b.dl b.dh (sm _ ha.dl) (sm _ ha.dh) (sm _ hb.dl) (sm _ hb.dh) w
  clear sm
  obtain ⟨X, hX⟩ : ∃ X, gapV a.al a.ah b.al b.ah = X := ⟨_, rfl⟩
  obtain ⟨Y, hY⟩ : ∃ Y, gapV a.dl a.dh b.dl b.dh = Y := ⟨_, rfl⟩
  rw [hX, hY] at HV
  rw [hX] at C1; rw [hY] at C2
  clear hX hY
  unfold rgC at C1 C2
  have b3 := (Blk.new w 79 (mkC a)).alloc (.cells (mkC b) 79)
  have b4 := Blk.new (w.alloc (.cells (mkC a) 79)) 79 (mkC b)
  have hBB : Below w.heap.size w ((w.alloc (.cells (mkC a) 79)).alloc (.cells (mkC b) 79)) := (by repeat (first | (with_reducible exact Below.refl _ _) | (with_reducible assumption) | ((with_reducible refine Below.setCell ?_ ?_ _); rotate_left; · (first | exact Nat.le_refl _ | (simp; done) | (simp; omega) | omega)) | ((with_reducible refine Below.alloc ?_ ?_ _); rotate_left; · (first | exact Nat.le_refl _ | (simp; done) | (simp; omega) | omega)) | (with_reducible apply Below.drew) | (with_reducible apply below_drewN') | (refine Below.trans ?_ (Below.mono (by assumption) (by first | exact Nat.le_refl _ | (simp; done) | (simp; omega) | omega))) | exact Below.refl _ _ | assumption))
  simp only [World.size_alloc] at b4
  go_enter Tryz.func127, Tryz.ntmps127
  go_upto_region 1 with fail
  obtain ⟨W, hW⟩ : ∃ W, (w.alloc (.cells (mkC a) 79)).alloc (.cells (mkC b) 79) = W := ⟨_, rfl⟩
  rw [hW] at b3 b4 hBB
  try rw [hW]
  clear hW
  have l_b3 := b3.lt
  obtain ⟨d0, d1, d2, d3, d4, d5, f3⟩ := blk6 b3
  have l_b4 := b4.lt
  obtain ⟨e0, e1, e2, e3, e4, e5, f4⟩ := blk6 b4
  by_cases h1 : X ≤ n
  · have HE : Hid (alikeV a b n = decide (Y ≤ n)) := Lib.hid (by rw [← HV.out, decide_eq_true h1, Bool.true_and])
    go_wp2_with fail
    refine (C1 _).mono ?_
    rintro e wc3 ⟨rfl, hBc3⟩
    replace b3 := b3.gr hBc3
    replace b4 := b4.gr hBc3
    replace hBB := hBB.trans (Below.mono hBc3 (Below.size hBB))
    clear hBc3
    clear l_b3 d0 d1 d2 d3 d4 d5 f3 l_b4 e0 e1 e2 e3 e4 e5 f4
    have l_b3 := b3.lt
    have l_b4 := b4.lt
    obtain ⟨d0, d1, d2, d3, d4, d5, f3⟩ := blk6 b3
    obtain ⟨e0, e1, e2, e3, e4, e5, f4⟩ := blk6 b4
    go_wp2_with fail
    refine (C2 _).mono ?_
    rintro e wc4 ⟨rfl, hBc4⟩
    replace b3 := b3.gr hBc4
    replace b4 := b4.gr hBc4
    replace hBB := hBB.trans (Below.mono hBc4 (Below.size hBB))
    clear hBc4
    clear l_b3 d0 d1 d2 d3 d4 d5 f3 l_b4 e0 e1 e2 e3 e4 e5 f4
    have l_b3 := b3.lt
    have l_b4 := b4.lt
    obtain ⟨d0, d1, d2, d3, d4, d5, f3⟩ := blk6 b3
    obtain ⟨e0, e1, e2, e3, e4, e5, f4⟩ := blk6 b4
    go_wp2
    go_ret
    exact ⟨by rw [HE.out]; rfl, hBB⟩
  · have HE : Hid (alikeV a b n = false) := Lib.hid (by rw [← HV.out, decide_eq_false h1, Bool.false_and])
    have h1' : decide (X ≤ n) = false := decide_eq_false h1
    go_wp2_with fail
    refine (C1 _).mono ?_
    rintro e wc5 ⟨rfl, hBc5⟩
    replace b3 := b3.gr hBc5
    replace b4 := b4.gr hBc5
    replace hBB := hBB.trans (Below.mono hBc5 (Below.size hBB))
    clear hBc5
    clear l_b3 d0 d1 d2 d3 d4 d5 f3 l_b4 e0 e1 e2 e3 e4 e5 f4
    have l_b3 := b3.lt
    have l_b4 := b4.lt
    obtain ⟨d0, d1, d2, d3, d4, d5, f3⟩ := blk6 b3
    obtain ⟨e0, e1, e2, e3, e4, e5, f4⟩ := blk6 b4
    go_wp2
    go_ret
    exact ⟨by rw [HE.out]; rfl, hBB⟩
end Go.Proofs.YtidgeagpgllkeaaGreat

namespace Go.Proofs.YtidgeagpgllkeaaGreat

theorem gapV_comm (a b c d : Int) : gapV a b c d = gapV c d a b := by unfold gapV; omega
theorem alikeV_comm (a b : Mk) (n : Int) : alikeV a b n = alikeV b a n := by
  unfold alikeV
  rw [gapV_comm a.al, gapV_comm a.dl]
end Go.Proofs.YtidgeagpgllkeaaGreat
