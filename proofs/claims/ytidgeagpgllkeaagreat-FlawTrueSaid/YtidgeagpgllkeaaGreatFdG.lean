/- Plain law: the true tip is enclosed; a narrower telling finds no wider range. The law FlawTrue answers true. -/
import Derived.Test.YtidgeagpgllkeaaGreatFbA
import Derived.Test.YtidgeagpgllkeaaGreatFdC
namespace Go.Proofs.YtidgeagpgllkeaaGreat

def trN (z x : Int) : Int := z * z + x * x
def trL (z x sp : Int) : Int := 20000000 * isq (trN z x) / sp
def trH (z x sp : Int) : Int := -(-(20000000 * isqUp (trN z x)) / sp)
theorem trN_bd {z x : Int} (hz : 0 ≤ z ∧ z ≤ 30000) (hx : 0 ≤ x ∧ x ≤ 30000) : 0 ≤ z * z ∧ z * z ≤ 900000000 ∧ 0 ≤ x * x ∧ x * x ≤ 900000000 ∧ 0 ≤ trN z x ∧ trN z x ≤ 1800000000 := by
  have h1 := Int.mul_le_mul hx.2 hx.2 hx.1 (by omega)
  have h2 := Int.mul_le_mul hz.2 hz.2 hz.1 (by omega)
  have h3 := Int.mul_nonneg hx.1 hx.1
  have h4 := Int.mul_nonneg hz.1 hz.1
  unfold trN; omega
theorem trT_bd {z x sp : Int} (hz : 0 ≤ z ∧ z ≤ 30000) (hx : 0 ≤ x ∧ x ≤ 30000) (hs : 500 ≤ sp ∧ sp ≤ 10000) :
    0 ≤ isq (trN z x) ∧ isq (trN z x) ≤ isqUp (trN z x) ∧ isqUp (trN z x) ≤ 45000 ∧ 0 ≤ trL z x sp ∧ trL z x sp ≤ trH z x sp ∧ trH z x sp ≤ 2000000000 ∧ trL z x sp * sp ≤ 20000000 * isq (trN z x) ∧ 20000000 * isqUp (trN z x) ≤ trH z x sp * sp := by
  obtain ⟨_, _, _, _, hN⟩ := trN_bd hz hx
  have l0 := isq_nonneg (trN z x)
  have lu := isq_le_isqUp (trN z x)
  have u1 : isqUp (trN z x) ≤ 45000 := isqUp_le_of (by omega) (by omega)
  have a0 : 0 ≤ trL z x sp := Int.ediv_nonneg (by omega) (by omega)
  have a1 : trL z x sp * sp ≤ 20000000 * isq (trN z x) := Int.ediv_mul_le _ (by omega)
  have b1 : -(20000000 * isqUp (trN z x)) / sp * sp ≤ -(20000000 * isqUp (trN z x)) := Int.ediv_mul_le _ (by omega)
  have b2 : 20000000 * isqUp (trN z x) ≤ trH z x sp * sp := by unfold trH; rw [Int.neg_mul]; omega
  have b3 : -(20000000 * isqUp (trN z x)) < (-(20000000 * isqUp (trN z x)) / sp + 1) * sp := Int.lt_ediv_add_one_mul_self _ (by omega)
  have ab : trL z x sp ≤ trH z x sp := by
    have : trL z x sp * sp ≤ trH z x sp * sp := by omega
    exact Int.le_of_mul_le_mul_right this (by omega)
  refine ⟨l0, lu, u1, a0, ab, ?_, a1, b2⟩
  rcases Int.lt_or_le 2000000000 (trH z x sp) with h | h
  · exfalso
    unfold trH at h
    generalize -(20000000 * isqUp (trN z x)) / sp = q at *
    have h2 : 2000000000 * 500 ≤ (-(q + 1)) * sp := Int.mul_le_mul (by omega) hs.1 (by omega) (by omega)
    rw [Int.neg_mul] at h2
    omega
  · exact h
theorem tipE_ok {t : Tip} (h1 : 0 ≤ t.tl) (h2 : t.tl ≤ t.th) (h3 : t.th ≤ 1000000000000) (h4 : 0 ≤ t.ol) (h5 : t.ol ≤ t.oh) (h6 : t.oh ≤ 100000) (h7 : 500 ≤ t.sp) (h8 : t.sp ≤ 10000) : tipE t = 0 := by
  unfold tipE
  rw [firstE_zero]
  have e1 := rangeE_ok h1 h2 h3
  have e2 := rangeE_ok h4 h5 h6
  have e3 : unlessE (wi t.sp 500 10000) 2 = 0 := by
    have h1 : wi t.sp 500 10000 = true := by simp [wi]; omega
    unfold unlessE; rw [if_pos h1]
  intro e he
  simp only [List.mem_cons, List.not_mem_nil, or_false] at he
  rcases he with rfl | rfl | rfl
  · exact e1
  · exact e2
  · exact e3
theorem sq_le {a b : Int} (h0 : 0 ≤ a) (h : a ≤ b) : a * a ≤ b * b := Int.mul_le_mul h h h0 (by omega)
/-- The law. -/
theorem true_law {z x sp p q r s : Int} (hz : 0 ≤ z ∧ z ≤ 30000) (hx : 0 ≤ x ∧ x ≤ 30000) (hs : 500 ≤ sp ∧ sp ≤ 10000) (hp : 0 ≤ p ∧ p ≤ 1000000) (hq : 0 ≤ q ∧ q ≤ 1000000) (hr : 0 ≤ r ∧ r ≤ 1000) (hs' : 0 ≤ s ∧ s ≤ 1000) :
    ∃ d0 d1 e0 e1, tipV ⟨trL z x sp, trH z x sp, x, x, sp⟩ = ⟨d0, d1, 0⟩ ∧ tipV ⟨max 0 (trL z x sp - p), trH z x sp + q, max 0 (x - r), x + s, sp⟩ = ⟨e0, e1, 0⟩ ∧ d0 ≤ z ∧ z ≤ d1 ∧ e0 ≤ d0 ∧ d1 ≤ e1 := by
  obtain ⟨n1, n2, n3, n4, n5, n6⟩ := trN_bd hz hx
  obtain ⟨t1, t2, t3, t4, t5, t6, t7, t8⟩ := trT_bd hz hx hs
  have l2 := isq_le n5
  have u2 := isqUp_sq (trN z x)
  have hE1 : tipE ⟨trL z x sp, trH z x sp, x, x, sp⟩ = 0 := tipE_ok t4 t5 (by show trH z x sp ≤ _; omega) hx.1 (Int.le_refl _) (by show x ≤ _; omega) hs.1 hs.2
  have hE2 : tipE ⟨max 0 (trL z x sp - p), trH z x sp + q, max 0 (x - r), x + s, sp⟩ = 0 := tipE_ok (by dsimp only; omega) (by dsimp only; omega) (by dsimp only; omega) (by dsimp only; omega) (by dsimp only; omega) (by dsimp only; omega) hs.1 hs.2
  obtain ⟨a, ha⟩ : ∃ a, trL z x sp * sp / 20000000 = a := ⟨_, rfl⟩
  obtain ⟨b, hb⟩ : ∃ b, (trH z x sp * sp + 20000000 - 1) / 20000000 = b := ⟨_, rfl⟩
  obtain ⟨a', ha'⟩ : ∃ a, max 0 (trL z x sp - p) * sp / 20000000 = a := ⟨_, rfl⟩
  obtain ⟨b', hb'⟩ : ∃ b, ((trH z x sp + q) * sp + 20000000 - 1) / 20000000 = b := ⟨_, rfl⟩
  have m1 : max 0 (trL z x sp - p) * sp ≤ trL z x sp * sp := Int.mul_le_mul_of_nonneg_right (by omega) (by omega)
  have m0 : 0 ≤ max 0 (trL z x sp - p) * sp := Int.mul_nonneg (by omega) (by omega)
  have m3 : trH z x sp * sp ≤ (trH z x sp + q) * sp := Int.mul_le_mul_of_nonneg_right (by omega) (by omega)
  have aa : 0 ≤ a' ∧ a' ≤ a ∧ a ≤ isq (trN z x) := by omega
  have bb : isqUp (trN z x) ≤ b ∧ b ≤ b' := by omega
  have k1 := sq_le aa.1 aa.2.1
  have k2 := sq_le (show 0 ≤ a by omega) aa.2.2
  have k3 := sq_le (show 0 ≤ isqUp (trN z x) by omega) bb.1
  have k4 := sq_le (show 0 ≤ b by omega) bb.2
  have k5 := sq_le (show 0 ≤ max 0 (x - r) by omega) (show max 0 (x - r) ≤ x by omega)
  have k6 := sq_le hx.1 (show x ≤ x + s by omega)
  have hN : trN z x = z * z + x * x := rfl
  have L1 : tipLo ⟨trL z x sp, trH z x sp, x, x, sp⟩ = max 0 (a * a - x * x) := by unfold tipLo; dsimp only; rw [ha]
  have H1 : tipHi ⟨trL z x sp, trH z x sp, x, x, sp⟩ = b * b - x * x := by unfold tipHi; dsimp only; rw [hb]
  have L2 : tipLo ⟨max 0 (trL z x sp - p), trH z x sp + q, max 0 (x - r), x + s, sp⟩ = max 0 (a' * a' - (x + s) * (x + s)) := by unfold tipLo; dsimp only; rw [ha']
  have H2 : tipHi ⟨max 0 (trL z x sp - p), trH z x sp + q, max 0 (x - r), x + s, sp⟩ = b' * b' - max 0 (x - r) * max 0 (x - r) := by unfold tipHi; dsimp only; rw [hb']
  have g1 : isq (max 0 (a * a - x * x)) ≤ z := isq_le_of hz.1 (by omega)
  have g2 : z ≤ isqUp (b * b - x * x) := le_isqUp hz.1 (by omega)
  have g3 : isq (max 0 (a' * a' - (x + s) * (x + s))) ≤ isq (max 0 (a * a - x * x)) := by
    refine le_isq (by omega) ?_
    have := isq_le (show 0 ≤ max 0 (a' * a' - (x + s) * (x + s)) by omega)
    omega
  have g4 : isqUp (b * b - x * x) ≤ isqUp (b' * b' - max 0 (x - r) * max 0 (x - r)) := by
    refine isqUp_le_of (isqUp_nonneg _) ?_
    have := isqUp_sq (b' * b' - max 0 (x - r) * max 0 (x - r))
    omega
  refine ⟨_, _, _, _, ?_, ?_, g1, g2, g3, g4⟩
  · unfold tipV; rw [if_pos hE1, H1, L1, if_neg (by omega)]
  · unfold tipV; rw [if_pos hE2, H2, L2, if_neg (by omega)]
end Go.Proofs.YtidgeagpgllkeaaGreat

namespace Go.Proofs.YtidgeagpgllkeaaGreat
open Go.RowKit

theorem blk4c {w : World} {g t : Nat} {v0 v1 v2 v3 : Value} (h : Blk w g t #[v0, v1, v2, v3]) : w.cell? ⟨g, 0, none⟩ = some v0 ∧ w.cell? ⟨g, 1, none⟩ = some v1 ∧ w.cell? ⟨g, 2, none⟩ = some v2 ∧ w.cell? ⟨g, 3, none⟩ = some v3 ∧ ∀ i, w.frozen? ⟨g, i, none⟩ = false :=
  ⟨h.cell 0, h.cell 1, h.cell 2, h.cell 3, h.frozen⟩

set_option maxRecDepth 100000 in
set_option maxHeartbeats 4000000 in
theorem flawTrue_any (z x sp p q r s : Int) (w : World) :
    Calls Tryz.prog 5 #[.agg #[.int .i64 z, .int .i64 x], .int .i64 sp, .agg #[.int .i64 p, .int .i64 q, .int .i64 r, .int .i64 s]] w fun e w' => e = .returned (.bool true) ∧ Below w.heap.size w w' := by
  have hC : Hid ((wi z 0 30000 = false ∨ (wi z 0 30000 = true ∧ wi x 0 30000 = false) ∨ (wi z 0 30000 = true ∧ wi x 0 30000 = true ∧ wi sp 500 10000 = false)) ∨ (wi z 0 30000 = true ∧ wi x 0 30000 = true ∧ wi sp 500 10000 = true)) := Lib.hid (by
    cases wi z 0 30000 <;> cases wi x 0 30000 <;> cases wi sp 500 10000 <;> simp)
  go_enter Tryz.func5, Tryz.ntmps5
  go_wp2_with fail
  have b3 := (Blk.new w 25 #[.int .i64 z, .int .i64 x]).alloc (.cells #[.int .i64 p, .int .i64 q, .int .i64 r, .int .i64 s] 54)
  have b5 := Blk.new (w.alloc (.cells #[.int .i64 z, .int .i64 x] 25)) 54 #[.int .i64 p, .int .i64 q, .int .i64 r, .int .i64 s]
  have hBB : Below w.heap.size w ((w.alloc (.cells #[.int .i64 z, .int .i64 x] 25)).alloc (.cells #[.int .i64 p, .int .i64 q, .int .i64 r, .int .i64 s] 54)) := (by repeat (first | (with_reducible exact Below.refl _ _) | (with_reducible assumption) | ((with_reducible refine Below.setCell ?_ ?_ _); rotate_left; · (first | exact Nat.le_refl _ | (simp; done) | (simp; omega) | omega)) | ((with_reducible refine Below.alloc ?_ ?_ _); rotate_left; · (first | exact Nat.le_refl _ | (simp; done) | (simp; omega) | omega)) | (with_reducible apply Below.drew) | (with_reducible apply below_drewN') | (refine Below.trans ?_ (Below.mono (by assumption) (by first | exact Nat.le_refl _ | (simp; done) | (simp; omega) | omega))) | exact Below.refl _ _ | assumption))
  simp only [World.size_alloc] at b5
  refine (awake_any _).mono ?_
  rintro e w1 ⟨rfl, hB1⟩
  replace b3 := b3.gr hB1
  replace b5 := b5.gr hB1
  replace hBB := hBB.trans (hB1.mono (Below.size hBB))
  clear hB1
  have l_b3 := b3.lt
  obtain ⟨e0, e1, f3⟩ := blk2c b3
  have l_b5 := b5.lt
  obtain ⟨g0, g1, g2, g3, f5⟩ := blk4c b5
  rcases hC.out with hq | ⟨q0, q1, q2⟩
  · clear hC
    rcases hq with q0 | ⟨q0, q1⟩ | ⟨q0, q1, q2⟩
    all_goals
      go_wp2_with (go_at_call 27; refine (bWithin_any _ _ _ _).mono ?_; rintro e w1 ⟨rfl, rfl⟩)
      go_ret
      exact ⟨rfl, hBB⟩
  · clear hC
    have hz : 0 ≤ z ∧ z ≤ 30000 := by simpa [wi] using q0
    have hx : 0 ≤ x ∧ x ≤ 30000 := by simpa [wi] using q1
    have hs : 500 ≤ sp ∧ sp ≤ 10000 := by simpa [wi] using q2
    go_wp2_with (go_at_call 27; refine (bWithin_any _ _ _ _).mono ?_; rintro e w1 ⟨rfl, rfl⟩)
    clear q0 q1 q2
    go_loop [7] (fun i => ∃ k : Nat, k ≤ 4 ∧ i = .int .i64 k ∧ Hid ((0 < k → wi p 0 1000000 = true) ∧ (1 < k → wi q 0 1000000 = true) ∧ (2 < k → wi r 0 1000000 = true) ∧ (3 < k → wi s 0 1000000 = true))) (fun i => 4 - (intOf i).toNat)
    case atStart => exact ⟨0, by omega, rfl, Lib.hid (by omega)⟩
    case round =>
      obtain ⟨k, hk, rfl, HI⟩ := hrel
      rcases (by omega : k = 0 ∨ k = 1 ∨ k = 2 ∨ k = 3 ∨ k = 4) with rfl | rfl | rfl | rfl | rfl
      · cases hw : wi p 0 1000000
        · have HW := Lib.hid hw; clear hw
          go_wp2_with (go_at_call 27; refine (bWithin_any _ _ _ _).mono ?_; rw [HW.out]; rintro e w1 ⟨rfl, rfl⟩)
          go_ret
          exact ⟨rfl, hBB⟩
        · have HW := Lib.hid hw; clear hw
          go_wp2_with (go_at_call 27; refine (bWithin_any _ _ _ _).mono ?_; rw [HW.out]; rintro e w1 ⟨rfl, rfl⟩)
          go_round
          case rel => exact ⟨1, by omega, rfl, Lib.hid ⟨fun _ => (by first | trivial | exact HW.out), by omega, by omega, by omega⟩⟩
          case measure => simp [intOf]
      · cases hw : wi q 0 1000000
        · have HW := Lib.hid hw; clear hw
          go_wp2_with (go_at_call 27; refine (bWithin_any _ _ _ _).mono ?_; rw [HW.out]; rintro e w1 ⟨rfl, rfl⟩)
          go_ret
          exact ⟨rfl, hBB⟩
        · have HW := Lib.hid hw; clear hw
          go_wp2_with (go_at_call 27; refine (bWithin_any _ _ _ _).mono ?_; rw [HW.out]; rintro e w1 ⟨rfl, rfl⟩)
          go_round
          case rel => exact ⟨2, by omega, rfl, Lib.hid ⟨fun _ => HI.out.1 (by omega), fun _ => (by first | trivial | exact HW.out), by omega, by omega⟩⟩
          case measure => simp [intOf]
      · cases hw : wi r 0 1000000
        · have HW := Lib.hid hw; clear hw
          go_wp2_with (go_at_call 27; refine (bWithin_any _ _ _ _).mono ?_; rw [HW.out]; rintro e w1 ⟨rfl, rfl⟩)
          go_ret
          exact ⟨rfl, hBB⟩
        · have HW := Lib.hid hw; clear hw
          go_wp2_with (go_at_call 27; refine (bWithin_any _ _ _ _).mono ?_; rw [HW.out]; rintro e w1 ⟨rfl, rfl⟩)
          go_round
          case rel => exact ⟨3, by omega, rfl, Lib.hid ⟨fun _ => HI.out.1 (by omega), fun _ => HI.out.2.1 (by omega), fun _ => (by first | trivial | exact HW.out), by omega⟩⟩
          case measure => simp [intOf]
      · cases hw : wi s 0 1000000
        · have HW := Lib.hid hw; clear hw
          go_wp2_with (go_at_call 27; refine (bWithin_any _ _ _ _).mono ?_; rw [HW.out]; rintro e w1 ⟨rfl, rfl⟩)
          go_ret
          exact ⟨rfl, hBB⟩
        · have HW := Lib.hid hw; clear hw
          go_wp2_with (go_at_call 27; refine (bWithin_any _ _ _ _).mono ?_; rw [HW.out]; rintro e w1 ⟨rfl, rfl⟩)
          go_round
          case rel => exact ⟨4, by omega, rfl, Lib.hid ⟨fun _ => HI.out.1 (by omega), fun _ => HI.out.2.1 (by omega), fun _ => HI.out.2.2.1 (by omega), fun _ => (by first | trivial | exact HW.out)⟩⟩
          case measure => simp [intOf]
      · have hp : 0 ≤ p ∧ p ≤ 1000000 := by simpa [wi] using HI.out.1 (by omega)
        have hq : 0 ≤ q ∧ q ≤ 1000000 := by simpa [wi] using HI.out.2.1 (by omega)
        have hr : 0 ≤ r ∧ r ≤ 1000000 := by simpa [wi] using HI.out.2.2.1 (by omega)
        have hs' : 0 ≤ s ∧ s ≤ 1000000 := by simpa [wi] using HI.out.2.2.2 (by omega)
        clear HI
        obtain ⟨n1, n2, n3, n4, n5, n6⟩ := trN_bd hz hx
        obtain ⟨t1, t2, t3, t4, t5, t6, _, _⟩ := trT_bd hz hx hs
        have C1 := fun w => bRoot_any (trN z x) n5 (by omega) w
        have C3 := fun w => rootUp_any (trN z x) n5 (by omega) w
        have C2 := fun w => floor_any (20000000 * isq (trN z x)) sp (by omega) (by omega) w
        have C4 := fun w => ceil_any (20000000 * isqUp (trN z x)) sp (by omega) (by omega) w
        obtain ⟨d0, d1, e0', e1', D1, D2, D3, D4, D5, D6⟩ := true_law hz hx hs hp hq (show 0 ≤ r % 1000 ∧ r % 1000 ≤ 1000 by omega) (show 0 ≤ s % 1000 ∧ s % 1000 ≤ 1000 by omega)
        have C5 := fun w => tipDepth_any ⟨trL z x sp, trH z x sp, x, x, sp⟩ w
        have C6 := fun w => tipDepth_any ⟨max 0 (trL z x sp - p), trH z x sp + q, max 0 (x - r % 1000), x + s % 1000, sp⟩ w
        rw [D1] at C5; rw [D2] at C6
        clear D1 D2
        unfold reC at C5 C6
        dsimp only at C5 C6
        have eL : 20000000 * isq (trN z x) / sp = trL z x sp := rfl
        have eH : -(-(20000000 * isqUp (trN z x)) / sp) = trH z x sp := rfl
        rw [eL] at C2; rw [eH] at C4
        clear eL eH
        generalize isq (trN z x) = R at *
        generalize isqUp (trN z x) = U at *
        generalize trL z x sp = L at *
        generalize trH z x sp = H at *
        unfold trN at C1 C3 n5 n6
        have hwz : wi z d0 d1 = true := by simp [wi]; omega
        have hr1 : r.tmod 1000 = r % 1000 := Int.tmod_eq_emod_of_nonneg hr.1
        have hs1 : s.tmod 1000 = s % 1000 := Int.tmod_eq_emod_of_nonneg hs'.1
        go_wp2_with fail
        refine (C1 _).mono ?_
        rintro e w1 ⟨rfl, rfl⟩
        go_wp2_with fail
        refine (C2 _).mono ?_
        rintro e w1 ⟨rfl, rfl⟩
        go_wp2_with fail
        refine (C3 _).mono ?_
        rintro e w1 ⟨rfl, rfl⟩
        go_wp2_with fail
        refine (C4 _).mono ?_
        rintro e w1 ⟨rfl, rfl⟩
        clear C1 C2 C3 C4
        go_upto_region 14 with fail
        have b11 := Blk.new w1 57 #[.int .i64 L, .int .i64 H, .int .i64 x, .int .i64 x, .int .i64 sp]
        replace b3 := b3.alloc (.cells #[.int .i64 L, .int .i64 H, .int .i64 x, .int .i64 x, .int .i64 sp] 57 (0, 0))
        replace b5 := b5.alloc (.cells #[.int .i64 L, .int .i64 H, .int .i64 x, .int .i64 x, .int .i64 sp] 57 (0, 0))
        replace hBB := hBB.alloc (Below.size hBB) (.cells #[.int .i64 L, .int .i64 H, .int .i64 x, .int .i64 x, .int .i64 sp] 57 (0, 0))
        clear l_b3 e0 e1 f3 l_b5 g0 g1 g2 g3 f5
        have l_b3 := b3.lt
        have l_b5 := b5.lt
        have l_b11 := b11.lt
        obtain ⟨e0, e1, f3⟩ := blk2c b3
        obtain ⟨g0, g1, g2, g3, f5⟩ := blk4c b5
        obtain ⟨i0, i1, i2, i3, i4, f11⟩ := blk5c b11
        have b12 := Blk.new (w1.alloc (.cells #[.int .i64 L, .int .i64 H, .int .i64 x, .int .i64 x, .int .i64 sp] 57)) 57 #[.int .i64 (max 0 (L - p)), .int .i64 (H + q), .int .i64 (max 0 (x - r % 1000)), .int .i64 (x + s % 1000), .int .i64 sp]
        replace b3 := b3.alloc (.cells #[.int .i64 (max 0 (L - p)), .int .i64 (H + q), .int .i64 (max 0 (x - r % 1000)), .int .i64 (x + s % 1000), .int .i64 sp] 57 (0, 0))
        replace b5 := b5.alloc (.cells #[.int .i64 (max 0 (L - p)), .int .i64 (H + q), .int .i64 (max 0 (x - r % 1000)), .int .i64 (x + s % 1000), .int .i64 sp] 57 (0, 0))
        replace b11 := b11.alloc (.cells #[.int .i64 (max 0 (L - p)), .int .i64 (H + q), .int .i64 (max 0 (x - r % 1000)), .int .i64 (x + s % 1000), .int .i64 sp] 57 (0, 0))
        replace hBB := hBB.alloc (Below.size hBB) (.cells #[.int .i64 (max 0 (L - p)), .int .i64 (H + q), .int .i64 (max 0 (x - r % 1000)), .int .i64 (x + s % 1000), .int .i64 sp] 57 (0, 0))
        clear l_b3 e0 e1 f3 l_b5 g0 g1 g2 g3 f5 l_b11 i0 i1 i2 i3 i4 f11
        have l_b3 := b3.lt
        have l_b5 := b5.lt
        have l_b11 := b11.lt
        have l_b12 := b12.lt
        obtain ⟨e0, e1, f3⟩ := blk2c b3
        obtain ⟨g0, g1, g2, g3, f5⟩ := blk4c b5
        obtain ⟨i0, i1, i2, i3, i4, f11⟩ := blk5c b11
        obtain ⟨j0, j1, j2, j3, j4, f12⟩ := blk5c b12
        simp only [World.size_alloc] at b12 j0 j1 j2 j3 j4 f12 l_b12
        clear hr1 hs1 n1 n2 n3 n4 n5 n6 t1 t2 t3 t4 t5 t6
        go_wp2_with fail
        refine (C5 _).mono ?_
        rintro e wc1 ⟨rfl, hBc1⟩
        replace b3 := b3.gr hBc1
        replace b5 := b5.gr hBc1
        replace b11 := b11.gr hBc1
        replace b12 := b12.gr hBc1
        replace hBB := hBB.trans (Below.mono hBc1 (Below.size hBB))
        clear hBc1
        clear l_b3 e0 e1 f3 l_b5 g0 g1 g2 g3 f5 l_b11 i0 i1 i2 i3 i4 f11 l_b12 j0 j1 j2 j3 j4 f12
        have l_b3 := b3.lt
        have l_b5 := b5.lt
        have l_b11 := b11.lt
        have l_b12 := b12.lt
        obtain ⟨e0, e1, f3⟩ := blk2c b3
        obtain ⟨g0, g1, g2, g3, f5⟩ := blk4c b5
        obtain ⟨i0, i1, i2, i3, i4, f11⟩ := blk5c b11
        obtain ⟨j0, j1, j2, j3, j4, f12⟩ := blk5c b12
        have b13 := Blk.new wc1 48 #[.int .i64 d0, .int .i64 d1]
        replace b3 := b3.alloc (.cells #[.int .i64 d0, .int .i64 d1] 48 (0, 0))
        replace b5 := b5.alloc (.cells #[.int .i64 d0, .int .i64 d1] 48 (0, 0))
        replace b11 := b11.alloc (.cells #[.int .i64 d0, .int .i64 d1] 48 (0, 0))
        replace b12 := b12.alloc (.cells #[.int .i64 d0, .int .i64 d1] 48 (0, 0))
        replace hBB := hBB.alloc (Below.size hBB) (.cells #[.int .i64 d0, .int .i64 d1] 48 (0, 0))
        clear l_b3 e0 e1 f3 l_b5 g0 g1 g2 g3 f5 l_b11 i0 i1 i2 i3 i4 f11 l_b12 j0 j1 j2 j3 j4 f12
        have l_b3 := b3.lt
        have l_b5 := b5.lt
        have l_b11 := b11.lt
        have l_b12 := b12.lt
        have l_b13 := b13.lt
        obtain ⟨e0, e1, f3⟩ := blk2c b3
        obtain ⟨g0, g1, g2, g3, f5⟩ := blk4c b5
        obtain ⟨i0, i1, i2, i3, i4, f11⟩ := blk5c b11
        obtain ⟨j0, j1, j2, j3, j4, f12⟩ := blk5c b12
        obtain ⟨k0, k1, f13⟩ := blk2c b13
        go_wp2_with fail
        refine (C6 _).mono ?_
        rintro e wc2 ⟨rfl, hBc2⟩
        replace b3 := b3.gr hBc2
        replace b5 := b5.gr hBc2
        replace b11 := b11.gr hBc2
        replace b12 := b12.gr hBc2
        replace b13 := b13.gr hBc2
        replace hBB := hBB.trans (Below.mono hBc2 (Below.size hBB))
        clear hBc2
        clear l_b3 e0 e1 f3 l_b5 g0 g1 g2 g3 f5 l_b11 i0 i1 i2 i3 i4 f11 l_b12 j0 j1 j2 j3 j4 f12 l_b13 k0 k1 f13
        have l_b3 := b3.lt
        have l_b5 := b5.lt
        have l_b11 := b11.lt
        have l_b12 := b12.lt
        have l_b13 := b13.lt
        obtain ⟨e0, e1, f3⟩ := blk2c b3
        obtain ⟨g0, g1, g2, g3, f5⟩ := blk4c b5
        obtain ⟨i0, i1, i2, i3, i4, f11⟩ := blk5c b11
        obtain ⟨j0, j1, j2, j3, j4, f12⟩ := blk5c b12
        obtain ⟨k0, k1, f13⟩ := blk2c b13
        have b15 := Blk.new wc2 48 #[.int .i64 e0', .int .i64 e1']
        replace b3 := b3.alloc (.cells #[.int .i64 e0', .int .i64 e1'] 48 (0, 0))
        replace b5 := b5.alloc (.cells #[.int .i64 e0', .int .i64 e1'] 48 (0, 0))
        replace b11 := b11.alloc (.cells #[.int .i64 e0', .int .i64 e1'] 48 (0, 0))
        replace b12 := b12.alloc (.cells #[.int .i64 e0', .int .i64 e1'] 48 (0, 0))
        replace b13 := b13.alloc (.cells #[.int .i64 e0', .int .i64 e1'] 48 (0, 0))
        replace hBB := hBB.alloc (Below.size hBB) (.cells #[.int .i64 e0', .int .i64 e1'] 48 (0, 0))
        clear l_b3 e0 e1 f3 l_b5 g0 g1 g2 g3 f5 l_b11 i0 i1 i2 i3 i4 f11 l_b12 j0 j1 j2 j3 j4 f12 l_b13 k0 k1 f13
        have l_b3 := b3.lt
        have l_b5 := b5.lt
        have l_b11 := b11.lt
        have l_b12 := b12.lt
        have l_b13 := b13.lt
        have l_b15 := b15.lt
        obtain ⟨e0, e1, f3⟩ := blk2c b3
        obtain ⟨g0, g1, g2, g3, f5⟩ := blk4c b5
        obtain ⟨i0, i1, i2, i3, i4, f11⟩ := blk5c b11
        obtain ⟨j0, j1, j2, j3, j4, f12⟩ := blk5c b12
        obtain ⟨k0, k1, f13⟩ := blk2c b13
        obtain ⟨m0, m1, f15⟩ := blk2c b15
        go_wp2_with (go_at_call 27; refine (bWithin_any _ _ _ _).mono ?_; rw [hwz]; rintro e w1 ⟨rfl, rfl⟩)
        go_ret
        exact ⟨rfl, hBB⟩
end Go.Proofs.YtidgeagpgllkeaaGreat
