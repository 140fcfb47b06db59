/- Contracts of the reference: gaps, rules. Contract: the reference's nearness of two ranges. -/
import Derived.Deep.DeepCutAuto
import Derived.Test.YtidgeagpgllkeaaGreatFcG
namespace Go.Proofs.YtidgeagpgllkeaaGreat
open Go.RowKit

def slackE (n : Int) : Int := if wi n 0 100000 then 0 else 2
set_option maxHeartbeats 400000 in
theorem refSlack_any (n : Int) (w : World) : Calls Tryz.prog 68 #[.int .i64 n] w fun e w' => e = .returned (.int .i64 (slackE n)) ∧ w = w' := by
  have HE : Hid (slackE n = if wi n 0 100000 then 0 else 2) := Lib.hid rfl
  obtain ⟨X, hX⟩ : ∃ X, wi n 0 100000 = X := ⟨_, rfl⟩
  have HX := Lib.hid hX
  rw [hX] at HE
  clear hX
  go_enter Tryz.func68, Tryz.ntmps68
  cases X
  all_goals
    go_wp2_with (go_at_call 27; refine (bWithin_any _ _ _ _).mono ?_; rw [HX.out]; rintro e w1 ⟨rfl, rfl⟩)
    go_ret
    exact ⟨by rw [HE.out]; rfl, rfl⟩

set_option maxHeartbeats 1000000 in
theorem refGap_any (a0 a1 b0 b1 : Int) (ha : -1000000000 ≤ a0 ∧ a0 ≤ 1000000000) (ha' : -1000000000 ≤ a1 ∧ a1 ≤ 1000000000) (hb : -1000000000 ≤ b0 ∧ b0 ≤ 1000000000) (hb' : -1000000000 ≤ b1 ∧ b1 ≤ 1000000000) (w : World) :
    Calls Tryz.prog 130 #[.agg (rgC a0 a1), .agg (rgC b0 b1)] w fun e w' => e = .returned (.int .i64 (gapV a0 a1 b0 b1)) ∧ Below w.heap.size w w' := by
  unfold rgC
  have HG : Hid (gapV a0 a1 b0 b1 = max 0 (max (b0 - a1) (a0 - b1))) := Lib.hid rfl
  go_enter Tryz.func130, Tryz.ntmps130
  go_wp2
  all_goals
    go_ret
    refine ⟨?_, (by repeat (first | (with_reducible exact Below.refl _ _) | (with_reducible assumption) | ((with_reducible refine Below.setCell ?_ ?_ _); rotate_left; · (first | exact Nat.le_refl _ | (simp; done) | (simp; omega) | omega)) | ((with_reducible refine Below.alloc ?_ ?_ _); rotate_left; · (first | exact Nat.le_refl _ | (simp; done) | (simp; omega) | omega)) | (with_reducible apply Below.drew) | (with_reducible apply below_drewN') | (refine Below.trans ?_ (Below.mono (by assumption) (by first | exact Nat.le_refl _ | (simp; done) | (simp; omega) | omega))) | exact Below.refl _ _ | assumption))⟩
    (show Ending.returned (Value.int .i64 _) = _)
    rw [HG.out]
    congr 2
    try omega

set_option maxHeartbeats 1000000 in
theorem bIsLowest_any (n d : Int) (hn : -9223372036854775808 ≤ n ∧ n ≤ 9223372036854775807) (hd : -9223372036854775808 ≤ d ∧ d ≤ 9223372036854775807) (w : World) :
    Calls Tryz.prog 94 #[.agg #[.int .i64 n, .int .i64 d]] w fun e w' => e = .returned (.bool (lowB n d)) ∧ Below w.heap.size w w' := by
  by_cases h0 : 0 < d
  · have HL : Hid (lowB n d = decide ((Int.gcd n d : Int) = 1)) := Lib.hid (by
      unfold lowB
      rw [decide_eq_true h0, Bool.true_and]
      congr 1
      exact propext ⟨fun h => by rw [h]; rfl, fun h => by exact_mod_cast h⟩)
    go_enter Tryz.func94, Tryz.ntmps94
    go_wp2_with (go_at_call 146; refine (gcd_any _ _ (by omega) (by omega) (by omega) _).mono ?_; rintro e w1 ⟨rfl, hB1⟩; obtain ⟨hc1, hf1⟩ := bcell hB1; have hz1 := hB1.size; (try simp at hz1))
    go_ret
    refine ⟨?_, (by repeat (first | (with_reducible exact Below.refl _ _) | (with_reducible assumption) | ((with_reducible refine Below.setCell ?_ ?_ _); rotate_left; · (first | exact Nat.le_refl _ | (simp; done) | (simp; omega) | omega)) | ((with_reducible refine Below.alloc ?_ ?_ _); rotate_left; · (first | exact Nat.le_refl _ | (simp; done) | (simp; omega) | omega)) | (with_reducible apply Below.drew) | (with_reducible apply below_drewN') | (refine Below.trans ?_ (Below.mono (by assumption) (by first | exact Nat.le_refl _ | (simp; done) | (simp; omega) | omega))) | exact Below.refl _ _ | assumption))⟩
    rw [HL.out]
    first | rfl | (congr 2; done) | grind
  · have HL : Hid (lowB n d = false) := Lib.hid (by unfold lowB; rw [decide_eq_false h0]; rfl)
    have h0' : decide (0 < d) = false := decide_eq_false h0
    go_enter Tryz.func94, Tryz.ntmps94
    go_wp2
    go_ret
    exact ⟨by rw [HL.out]; rfl, (by repeat (first | (with_reducible exact Below.refl _ _) | (with_reducible assumption) | ((with_reducible refine Below.setCell ?_ ?_ _); rotate_left; · (first | exact Nat.le_refl _ | (simp; done) | (simp; omega) | omega)) | ((with_reducible refine Below.alloc ?_ ?_ _); rotate_left; · (first | exact Nat.le_refl _ | (simp; done) | (simp; omega) | omega)) | (with_reducible apply Below.drew) | (with_reducible apply below_drewN') | (refine Below.trans ?_ (Below.mono (by assumption) (by first | exact Nat.le_refl _ | (simp; done) | (simp; omega) | omega))) | exact Below.refl _ _ | assumption))⟩

theorem blk4r {w : World} {g t : Nat} {v0 v1 v2 v3 : Value} (h : Blk w g t #[v0, v1, v2, v3]) : w.cell? ⟨g, 0, none⟩ = some v0 ∧ w.cell? ⟨g, 1, none⟩ = some v1 ∧ w.cell? ⟨g, 2, none⟩ = some v2 ∧ w.cell? ⟨g, 3, none⟩ = some v3 ∧ ∀ i, w.frozen? ⟨g, i, none⟩ = false :=
  ⟨h.cell 0, h.cell 1, h.cell 2, h.cell 3, h.frozen⟩
set_option maxRecDepth 100000 in
set_option maxHeartbeats 1000000 in
theorem refCheckRule_any (r : Ru) (hn : W64 r.num) (hd : W64 r.den) (w : World) : Calls Tryz.prog 39 #[.agg (ruC r)] w fun e w' => e = .returned (.int .i64 (ruleE r)) ∧ Below w.heap.size w w' := by
  have HR : Hid (ruleE r = if !(wi r.along 0 100000) || !(wi r.down 0 100000) then 2 else if !(lowB r.num r.den) then 3 else if decide (r.num < 0) || decide (100 < r.den) || decide (4 * r.den < r.num) then 2 else 0) := Lib.hid rfl
  have HLD : Hid (lowB r.num r.den = true → 0 < r.den) := Lib.hid (fun h => by unfold lowB at h; simp at h; exact h.1)
  have HC := fun w => bIsLowest_any r.num r.den hn hd w
  obtain ⟨X, hX⟩ : ∃ X, wi r.along 0 100000 = X := ⟨_, rfl⟩
  obtain ⟨Y, hY⟩ : ∃ Y, wi r.down 0 100000 = Y := ⟨_, rfl⟩
  obtain ⟨Z, hZ⟩ : ∃ Z, lowB r.num r.den = Z := ⟨_, rfl⟩
  have HX := Lib.hid hX; have HY := Lib.hid hY
  rw [hX, hY, hZ] at HR
  rw [hZ] at HC HLD
  clear hX hY hZ
  have b1 := Blk.new w 62 (ruC r)
  have hBB : Below w.heap.size w (w.alloc (.cells (ruC r) 62)) := (by repeat (first | (with_reducible exact Below.refl _ _) | (with_reducible assumption) | ((with_reducible refine Below.setCell ?_ ?_ _); rotate_left; · (first | exact Nat.le_refl _ | (simp; done) | (simp; omega) | omega)) | ((with_reducible refine Below.alloc ?_ ?_ _); rotate_left; · (first | exact Nat.le_refl _ | (simp; done) | (simp; omega) | omega)) | (with_reducible apply Below.drew) | (with_reducible apply below_drewN') | (refine Below.trans ?_ (Below.mono (by assumption) (by first | exact Nat.le_refl _ | (simp; done) | (simp; omega) | omega))) | exact Below.refl _ _ | assumption))
  go_enter Tryz.func39, Tryz.ntmps39
  go_upto_region 1 with fail
  obtain ⟨W, hW⟩ : ∃ W, w.alloc (.cells (ruC r) 62) = W := ⟨_, rfl⟩
  rw [hW] at b1 hBB
  try rw [hW]
  have hzW : w.heap.size < W.heap.size := b1.lt
  clear hW
  have l_b1 := b1.lt
  obtain ⟨c0, c1, c2, c3, f0⟩ := blk4r b1
  by_cases hxy : X = true ∧ Y = true
  · obtain ⟨rfl, rfl⟩ := hxy
    go_wp2_with (go_at_call 27; refine (bWithin_any _ _ _ _).mono ?_; (first | rw [HX.out] | rw [HY.out]); rintro e w1 ⟨rfl, rfl⟩)
    refine (HC _).mono ?_
    rintro e w1 ⟨rfl, hB1⟩
    replace b1 := b1.gr hB1
    replace hBB := hBB.trans (Below.mono hB1 (Below.size hBB))
    clear hB1 l_b1 c0 c1 c2 c3 f0
    have l_b1 := b1.lt
    obtain ⟨c0, c1, c2, c3, f0⟩ := blk4r b1
    cases Z
    · go_wp2
      go_ret
      exact ⟨by rw [HR.out]; rfl, hBB⟩
    · have hd0 := HLD.out rfl
      by_cases h1 : 100 < r.den
      · have HE : Hid (ruleE r = 2) := Lib.hid (by rw [HR.out]; simp [h1])
        go_wp2
        go_ret
        exact ⟨by rw [HE.out]; rfl, hBB⟩
      · cases hw : wi r.num 0 (4 * r.den)
        · have HE : Hid (ruleE r = 2) := Lib.hid (by
            rw [HR.out]; simp [wi] at hw ⊢; omega)
          have HW := Lib.hid hw; clear hw
          go_wp2_with (go_at_call 27; refine (bWithin_any _ _ _ _).mono ?_; rw [HW.out]; rintro e w1 ⟨rfl, rfl⟩)
          go_ret
          exact ⟨by rw [HE.out]; rfl, hBB⟩
        · have HE : Hid (ruleE r = 0) := Lib.hid (by
            rw [HR.out]; simp [wi] at hw ⊢; omega)
          have HW := Lib.hid hw; clear hw
          go_wp2_with (go_at_call 27; refine (bWithin_any _ _ _ _).mono ?_; rw [HW.out]; rintro e w1 ⟨rfl, rfl⟩)
          go_ret
          exact ⟨by rw [HE.out]; rfl, hBB⟩
  · have HE : Hid (ruleE r = 2) := Lib.hid (by rw [HR.out]; cases X <;> cases Y <;> simp_all)
    cases X
    · go_wp2_with (go_at_call 27; refine (bWithin_any _ _ _ _).mono ?_; (first | rw [HX.out] | rw [HY.out]); rintro e w1 ⟨rfl, rfl⟩)
      go_ret
      exact ⟨by rw [HE.out]; rfl, hBB⟩
    · cases Y
      · go_wp2_with (go_at_call 27; refine (bWithin_any _ _ _ _).mono ?_; (first | rw [HX.out] | rw [HY.out]); rintro e w1 ⟨rfl, rfl⟩)
        go_ret
        exact ⟨by rw [HE.out]; rfl, hBB⟩
      · exact absurd ⟨rfl, rfl⟩ hxy
end Go.Proofs.YtidgeagpgllkeaaGreat

namespace Go.Proofs.YtidgeagpgllkeaaGreat
open Go.RowKit

set_option maxRecDepth 100000 in
set_option maxHeartbeats 1000000 in
theorem refNear_any (x0 x1 y0 y1 most num den : Int) (h0 : Sm x0) (h1 : Sm x1) (h2 : Sm y0) (h3 : Sm y1) (hm : 0 ≤ most ∧ most ≤ 100000) (n1 : 0 ≤ num ∧ num ≤ 400) (n2 : 1 ≤ den ∧ den ≤ 100) (w : World) :
    Calls Tryz.prog 129 #[.agg (rgC x0 x1), .agg (rgC y0 y1), .int .i64 most, .agg #[.int .i64 num, .int .i64 den]] w fun e w' => e = .returned (.bool (nearV x0 x1 y0 y1 most num den)) ∧ Below w.heap.size w w' := by
  have HN : Hid (decide ((gapV x0 x1 y0 y1 - most) * den ≤ num * min (x1 - x0) (y1 - y0)) = nearV x0 x1 y0 y1 most num den) := Lib.hid (by
    unfold nearV
    congr 1
    rw [Int.sub_mul]
    exact propext ⟨fun h => by omega, fun h => by omega⟩)
  unfold Sm at h0 h1 h2 h3
  have hg : 0 ≤ gapV x0 x1 y0 y1 ∧ gapV x0 x1 y0 y1 ≤ 2000000 := by unfold gapV; omega
  have m1 := mul_sm (A := 3000000) (B := 100) (by omega) (show 0 ≤ den ∧ den ≤ 100 by omega) (by omega) (a := gapV x0 x1 y0 y1 - most)
  have m3 : ∀ z, -2000000 ≤ z ∧ z ≤ 2000000 → -(2000000 * 400) ≤ num * z ∧ num * z ≤ 2000000 * 400 := fun z hz => by have := mul_sm (A := 2000000) (B := 400) hz n1 (by omega); rw [Int.mul_comm z] at this; exact this
  have m4 := m3 (x1 - x0) (by omega)
  have m5 := m3 (y1 - y0) (by omega)
  have m6 := m3 (min (x1 - x0) (y1 - y0)) (by omega)
  clear m3
  have hG : Hid (∀ w, Calls Tryz.prog 130 #[.agg (rgC x0 x1), .agg (rgC y0 y1)] w fun e w' => e = .returned (.int .i64 (gapV x0 x1 y0 y1)) ∧ Below w.heap.size w w') := Lib.hid (fun w => refGap_any x0 x1 y0 y1 (by omega) (by omega) (by omega) (by omega) w)
  obtain ⟨G, hGV⟩ : ∃ G, gapV x0 x1 y0 y1 = G := ⟨_, rfl⟩
  rw [hGV] at HN hg m1 hG
  clear hGV
  unfold rgC at *
  go_enter Tryz.func129, Tryz.ntmps129
  go_wp2_with fail
  have b4 := ((Blk.new w 48 #[.int .i64 x0, .int .i64 x1]).alloc (.cells #[.int .i64 y0, .int .i64 y1] 48)).alloc (.cells #[.int .i64 num, .int .i64 den] 45)
  have b5 := (Blk.new (w.alloc (.cells #[.int .i64 x0, .int .i64 x1] 48)) 48 #[.int .i64 y0, .int .i64 y1]).alloc (.cells #[.int .i64 num, .int .i64 den] 45)
  have b7 := Blk.new ((w.alloc (.cells #[.int .i64 x0, .int .i64 x1] 48)).alloc (.cells #[.int .i64 y0, .int .i64 y1] 48)) 45 #[.int .i64 num, .int .i64 den]
  have hBB : Below w.heap.size w (((w.alloc (.cells #[.int .i64 x0, .int .i64 x1] 48)).alloc (.cells #[.int .i64 y0, .int .i64 y1] 48)).alloc (.cells #[.int .i64 num, .int .i64 den] 45)) := (by repeat (first | (with_reducible exact Below.refl _ _) | (with_reducible assumption) | ((with_reducible refine Below.setCell ?_ ?_ _); rotate_left; · (first | exact Nat.le_refl _ | (simp; done) | (simp; omega) | omega)) | ((with_reducible refine Below.alloc ?_ ?_ _); rotate_left; · (first | exact Nat.le_refl _ | (simp; done) | (simp; omega) | omega)) | (with_reducible apply Below.drew) | (with_reducible apply below_drewN') | (refine Below.trans ?_ (Below.mono (by assumption) (by first | exact Nat.le_refl _ | (simp; done) | (simp; omega) | omega))) | exact Below.refl _ _ | assumption))
  simp only [World.size_alloc] at b5 b7
  obtain ⟨W, hW⟩ : ∃ W, ((w.alloc (.cells #[.int .i64 x0, .int .i64 x1] 48)).alloc (.cells #[.int .i64 y0, .int .i64 y1] 48)).alloc (.cells #[.int .i64 num, .int .i64 den] 45) = W := ⟨_, rfl⟩
  rw [hW] at b4 b5 b7 hBB ⊢
  clear hW
  have l_b4 := b4.lt
  obtain ⟨e0, e1, f4⟩ := blk2c b4
  have l_b5 := b5.lt
  obtain ⟨e2, e3, f5⟩ := blk2c b5
  have l_b7 := b7.lt
  obtain ⟨c0, c1, f7⟩ := blk2c b7
  refine wp_region_b 23 (by kernel_rfl) (by kernel_rfl) ?_; simp only [List.take, List.drop]
  repeat (first
    | (apply StepsD.run
       · go_simp
         done
       · intro w' hS K hK
         have hc := (bcell hS).1
         have hf := (bcell hS).2
         have hz := hS.size
         try simp at hz
         go_simp
         try go_bits
         first
           | exact hK _ hS
           | (go_at_call 130; (with_reducible refine (hG.out _).mono ?_); rintro e w1 ⟨rfl, hB1⟩; obtain ⟨hc1, hf1⟩ := bcell hB1; have hz1 := hB1.size; (try simp at hz1); exact hK _ (Below.trans hS (Below.mono hB1 (by first | exact Nat.le_refl _ | (simp; done) | (simp; omega) | omega))))
           | exact hK _ (by repeat (first | (with_reducible exact Below.refl _ _) | (with_reducible assumption) | ((with_reducible refine Below.setCell ?_ ?_ _); rotate_left; · (first | exact Nat.le_refl _ | (simp; done) | (simp; omega) | omega)) | ((with_reducible refine Below.alloc ?_ ?_ _); rotate_left; · (first | exact Nat.le_refl _ | (simp; done) | (simp; omega) | omega)) | (with_reducible apply Below.drew) | (with_reducible apply below_drewN') | (refine Below.trans ?_ (Below.mono (by assumption) (by first | exact Nat.le_refl _ | (simp; done) | (simp; omega) | omega))) | exact Below.refl _ _ | assumption))
       · simp [Act.put]
         done)
    | (apply StepsD.pass
       · go_simp
         done
       · simp only [Act.put, List.setIfInBounds_toArray, List.set_cons_succ, List.set_cons_zero]
         rfl))
  refine StepsD.done ?_
  intro w1 hS
  replace b4 := b4.gr hS
  replace b5 := b5.gr hS
  replace b7 := b7.gr hS
  replace hBB := hBB.trans (Below.mono hS (Below.size hBB))
  clear hS
  clear l_b4 e0 e1 f4 l_b5 e2 e3 f5 l_b7 c0 c1 f7
  have l_b4 := b4.lt
  have l_b5 := b5.lt
  have l_b7 := b7.lt
  obtain ⟨e0, e1, f4⟩ := blk2c b4
  obtain ⟨e2, e3, f5⟩ := blk2c b5
  obtain ⟨c0, c1, f7⟩ := blk2c b7
  go_wp2
  all_goals
    go_ret
    refine ⟨?_, hBB⟩
    rw [← HN.out]
    (show Ending.returned (Value.bool _) = _)
    first
      | (rw [show min (x1 - x0) (y1 - y0) = x1 - x0 by omega, wr64 (num * (x1 - x0)) (by omega)]; done)
      | (rw [show min (x1 - x0) (y1 - y0) = y1 - y0 by omega, wr64 (num * (y1 - y0)) (by omega)]; done)

set_option maxRecDepth 100000 in
set_option maxHeartbeats 1000000 in
theorem refInteract_any (a b : Mk) (r : Ru) (ha : MkS a) (hb : MkS b) (hr : RuS r) (w : World) :
    Calls Tryz.prog 70 #[.agg (mkC a), .agg (mkC b), .agg (ruC r)] w fun e w' => e = .returned (.bool (interactV a b r)) ∧ Below w.heap.size w w' := by
  have HV : Hid ((nearV a.al a.ah b.al b.ah r.along r.num r.den && nearV a.dl a.dh b.dl b.dh r.down r.num r.den) = interactV a b r) := Lib.hid rfl
  have C1 := fun w => refNear_any a.al a.ah b.al b.ah r.along r.num r.den ha.al ha.ah hb.al hb.ah hr.along hr.num hr.den w
  have C2 := fun w => refNear_any a.dl a.dh b.dl b.dh r.down r.num r.den ha.dl ha.dh hb.dl hb.dh hr.down hr.num hr.den w
  obtain ⟨X, hX⟩ : ∃ X, nearV a.al a.ah b.al b.ah r.along r.num r.den = X := ⟨_, rfl⟩
  obtain ⟨Y, hY⟩ : ∃ Y, nearV a.dl a.dh b.dl b.dh r.down r.num r.den = Y := ⟨_, rfl⟩
  rw [hX, hY] at HV
  rw [hX] at C1; rw [hY] at C2
  clear hX hY
  unfold rgC at C1 C2
  have b3 := ((Blk.new w 79 (mkC a)).alloc (.cells (mkC b) 79)).alloc (.cells (ruC r) 62)
  have b4 := (Blk.new (w.alloc (.cells (mkC a) 79)) 79 (mkC b)).alloc (.cells (ruC r) 62)
  have b5 := Blk.new ((w.alloc (.cells (mkC a) 79)).alloc (.cells (mkC b) 79)) 62 (ruC r)
  have hBB : Below w.heap.size w (((w.alloc (.cells (mkC a) 79)).alloc (.cells (mkC b) 79)).alloc (.cells (ruC r) 62)) := (by repeat (first | (with_reducible exact Below.refl _ _) | (with_reducible assumption) | ((with_reducible refine Below.setCell ?_ ?_ _); rotate_left; · (first | exact Nat.le_refl _ | (simp; done) | (simp; omega) | omega)) | ((with_reducible refine Below.alloc ?_ ?_ _); rotate_left; · (first | exact Nat.le_refl _ | (simp; done) | (simp; omega) | omega)) | (with_reducible apply Below.drew) | (with_reducible apply below_drewN') | (refine Below.trans ?_ (Below.mono (by assumption) (by first | exact Nat.le_refl _ | (simp; done) | (simp; omega) | omega))) | exact Below.refl _ _ | assumption))
  simp only [World.size_alloc] at b4 b5
  go_enter Tryz.func70, Tryz.ntmps70
  go_upto_region 1 with fail
  obtain ⟨W, hW⟩ : ∃ W, ((w.alloc (.cells (mkC a) 79)).alloc (.cells (mkC b) 79)).alloc (.cells (ruC r) 62) = W := ⟨_, rfl⟩
  rw [hW] at b3 b4 b5 hBB
  try rw [hW]
  clear hW
  have l_b3 := b3.lt
  obtain ⟨d0, d1, d2, d3, d4, d5, f3⟩ := blk6 b3
  have l_b4 := b4.lt
  obtain ⟨e0, e1, e2, e3, e4, e5, f4⟩ := blk6 b4
  have l_b5 := b5.lt
  obtain ⟨c0, c1, c2, c3, f5⟩ := blk4r b5
  cases X
  · have t0 := hBB
    clear t0
    go_wp2_with fail
    refine (C1 _).mono ?_
    rintro e wc1 ⟨rfl, hBc1⟩
    replace b3 := b3.gr hBc1
    replace b4 := b4.gr hBc1
    replace b5 := b5.gr hBc1
    replace hBB := hBB.trans (Below.mono hBc1 (Below.size hBB))
    clear hBc1
    clear l_b3 d0 d1 d2 d3 d4 d5 f3 l_b4 e0 e1 e2 e3 e4 e5 f4 l_b5 c0 c1 c2 c3 f5
    have l_b3 := b3.lt
    have l_b4 := b4.lt
    have l_b5 := b5.lt
    obtain ⟨d0, d1, d2, d3, d4, d5, f3⟩ := blk6 b3
    obtain ⟨e0, e1, e2, e3, e4, e5, f4⟩ := blk6 b4
    obtain ⟨c0, c1, c2, c3, f5⟩ := blk4r b5
    go_wp2
    go_ret
    exact ⟨by rw [← HV.out]; rfl, hBB⟩
  · have t0 := hBB
    clear t0
    go_wp2_with fail
    refine (C1 _).mono ?_
    rintro e wc2 ⟨rfl, hBc2⟩
    replace b3 := b3.gr hBc2
    replace b4 := b4.gr hBc2
    replace b5 := b5.gr hBc2
    replace hBB := hBB.trans (Below.mono hBc2 (Below.size hBB))
    clear hBc2
    clear l_b3 d0 d1 d2 d3 d4 d5 f3 l_b4 e0 e1 e2 e3 e4 e5 f4 l_b5 c0 c1 c2 c3 f5
    have l_b3 := b3.lt
    have l_b4 := b4.lt
    have l_b5 := b5.lt
    obtain ⟨d0, d1, d2, d3, d4, d5, f3⟩ := blk6 b3
    obtain ⟨e0, e1, e2, e3, e4, e5, f4⟩ := blk6 b4
    obtain ⟨c0, c1, c2, c3, f5⟩ := blk4r b5
    go_wp2_with fail
    refine (C2 _).mono ?_
    rintro e wc3 ⟨rfl, hBc3⟩
    replace b3 := b3.gr hBc3
    replace b4 := b4.gr hBc3
    replace b5 := b5.gr hBc3
    replace hBB := hBB.trans (Below.mono hBc3 (Below.size hBB))
    clear hBc3
    clear l_b3 d0 d1 d2 d3 d4 d5 f3 l_b4 e0 e1 e2 e3 e4 e5 f4 l_b5 c0 c1 c2 c3 f5
    have l_b3 := b3.lt
    have l_b4 := b4.lt
    have l_b5 := b5.lt
    obtain ⟨d0, d1, d2, d3, d4, d5, f3⟩ := blk6 b3
    obtain ⟨e0, e1, e2, e3, e4, e5, f4⟩ := blk6 b4
    obtain ⟨c0, c1, c2, c3, f5⟩ := blk4r b5
    go_wp2
    go_ret
    exact ⟨by rw [← HV.out]; rfl, hBB⟩

def alikeV (a b : Mk) (n : Int) : Bool := decide (gapV a.al a.ah b.al b.ah ≤ n) && decide (gapV a.dl a.dh b.dl b.dh ≤ n)
set_option maxRecDepth 100000 in
set_option maxHeartbeats 1000000 in
theorem refAlike_any (a b : Mk) (n : Int) (ha : MkS a) (hb : MkS b) (w : World) :
    Calls Tryz.prog 71 #[.agg (mkC a), .agg (mkC b), .int .i64 n] w fun e w' => e = .returned (.bool (alikeV a b n)) ∧ Below w.heap.size w w' := by
  have sm : ∀ x, Sm x → -1000000000 ≤ x ∧ x ≤ 1000000000 := fun x h => by unfold Sm at h; omega
  have HV : Hid ((decide (gapV a.al a.ah b.al b.ah ≤ n) && decide (gapV a.dl a.dh b.dl b.dh ≤ n)) = alikeV a b n) := Lib.hid rfl
  have C1 := fun w => refGap_any a.al a.ah b.al b.ah (sm _ ha.al) (sm _ ha.ah) (sm _ hb.al) (sm _ hb.ah) w
  have C2 := fun w => refGap_any a.dl a.dh b.dl b.dh (sm _ ha.dl) (sm _ ha.dh) (sm _ hb.dl) (sm _ hb.dh) w
  clear sm
  obtain ⟨X, hX⟩ : ∃ X, gapV a.al a.ah b.al b.ah = X := ⟨_, rfl⟩
  obtain ⟨Y, hY⟩ : ∃ Y, gapV a.dl a.dh b.dl b.dh = Y := ⟨_, rfl⟩
  rw [hX, hY] at HV
  rw [hX] at C1; rw [hY] at C2
  clear hX hY
  unfold rgC at C1 C2
  have b3 := (Blk.new w 79 (mkC a)).alloc (.cells (mkC b) 79)
  have b4 := Blk.new (w.alloc (.cells (mkC a) 79)) 79 (mkC b)
  have hBB : Below w.heap.size w ((w.alloc (.cells (mkC a) 79)).alloc (.cells (mkC b) 79)) := (by repeat (first | (with_reducible exact Below.refl _ _) | (with_reducible assumption) | ((with_reducible refine Below.setCell ?_ ?_ _); rotate_left; · (first | exact Nat.le_refl _ | (simp; done) | (simp; omega) | omega)) | ((with_reducible refine Below.alloc ?_ ?_ _); rotate_left; · (first | exact Nat.le_refl _ | (simp; done) | (simp; omega) | omega)) | (with_reducible apply Below.drew) | (with_reducible apply below_drewN') | (refine Below.trans ?_ (Below.mono (by assumption) (by first | exact Nat.le_refl _ | (simp; done) | (simp; omega) | omega))) | exact Below.refl _ _ | assumption))
  simp only [World.size_alloc] at b4
  go_enter Tryz.func71, Tryz.ntmps71
  go_upto_region 1 with fail
  obtain ⟨W, hW⟩ : ∃ W, (w.alloc (.cells (mkC a) 79)).alloc (.cells (mkC b) 79) = W := ⟨_, rfl⟩
  rw [hW] at b3 b4 hBB
  try rw [hW]
  clear hW
  have l_b3 := b3.lt
  obtain ⟨d0, d1, d2, d3, d4, d5, f3⟩ := blk6 b3
  have l_b4 := b4.lt
  obtain ⟨e0, e1, e2, e3, e4, e5, f4⟩ := blk6 b4
  by_cases h1 : X ≤ n
  · have HE : Hid (alikeV a b n = decide (Y ≤ n)) := Lib.hid (by rw [← HV.out, decide_eq_true h1, Bool.true_and])
    go_wp2_with fail
    refine (C1 _).mono ?_
    rintro e wc4 ⟨rfl, hBc4⟩
    replace b3 := b3.gr hBc4
    replace b4 := b4.gr hBc4
    replace hBB := hBB.trans (Below.mono hBc4 (Below.size hBB))
    clear hBc4
    clear l_b3 d0 d1 d2 d3 d4 d5 f3 l_b4 e0 e1 e2 e3 e4 e5 f4
    have l_b3 := b3.lt
    have l_b4 := b4.lt
    obtain ⟨d0, d1, d2, d3, d4, d5, f3⟩ := blk6 b3
    obtain ⟨e0, e1, e2, e3, e4, e5, f4⟩ := blk6 b4
    go_wp2_with fail
    refine (C2 _).mono ?_
    rintro e wc5 ⟨rfl, hBc5⟩
    replace b3 := b3.gr hBc5
    replace b4 := b4.gr hBc5
    replace hBB := hBB.trans (Below.mono hBc5 (Below.size hBB))
    clear hBc5
    clear l_b3 d0 d1 d2 d3 d4 d5 f3 l_b4 e0 e1 e2 e3 e4 e5 f4
    have l_b3 := b3.lt
    have l_b4 := b4.lt
    obtain ⟨d0, d1, d2, d3, d4, d5, f3⟩ := blk6 b3
    obtain ⟨e0, e1, e2, e3, e4, e5, f4⟩ := blk6 b4
    go_wp2
    go_ret
    exact ⟨by rw [HE.out]; rfl, hBB⟩
  · have HE : Hid (alikeV a b n = false) := Lib.hid (by rw [← HV.out, decide_eq_false h1, Bool.false_and])
    have h1' : decide (X ≤ n) = false := decide_eq_false h1
    go_wp2_with fail
    refine (C1 _).mono ?_
    rintro e wc6 ⟨rfl, hBc6⟩
    replace b3 := b3.gr hBc6
    replace b4 := b4.gr hBc6
    replace hBB := hBB.trans (Below.mono hBc6 (Below.size hBB))
    clear hBc6
    clear l_b3 d0 d1 d2 d3 d4 d5 f3 l_b4 e0 e1 e2 e3 e4 e5 f4
    have l_b3 := b3.lt
    have l_b4 := b4.lt
    obtain ⟨d0, d1, d2, d3, d4, d5, f3⟩ := blk6 b3
    obtain ⟨e0, e1, e2, e3, e4, e5, f4⟩ := blk6 b4
    go_wp2
    go_ret
    exact ⟨by rw [HE.out]; rfl, hBB⟩
end Go.Proofs.YtidgeagpgllkeaaGreat
