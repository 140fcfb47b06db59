/- Contracts of the reference: comparisons of points and fractions. -/
import Derived.Test.YtfbnpfhnffahdaaGreatDoorCwG
namespace Go.Proofs.YtfbnpfhnffahdaaGreatDoor
open Go.RowKit

theorem cmp_lt {n d m k : Int} (hd : 0 < d) (hk : 0 < k) (h : n / d < m / k) : n * k < m * d := by
  have e1 := Int.mul_ediv_add_emod n d
  have e2 := Int.mul_ediv_add_emod m k
  have r1 := Int.emod_lt_of_pos n hd
  have s0 := Int.emod_nonneg m (show k ≠ 0 by omega)
  have a1 : n % d * k < d * k := Int.mul_lt_mul_of_pos_right r1 hk
  have a2 : 0 ≤ m % k * d := Int.mul_nonneg s0 (by omega)
  have a3 : (n / d + 1) * (d * k) ≤ m / k * (d * k) := Int.mul_le_mul_of_nonneg_right (by omega) (Int.mul_nonneg (by omega) (by omega))
  have b1 : n * k = n / d * (d * k) + n % d * k := by
    rw [← Int.mul_assoc, ← Int.add_mul, Int.mul_comm (n / d) d, e1]
  have b2 : m * d = m / k * (d * k) + m % k * d := by
    rw [Int.mul_comm d k, ← Int.mul_assoc, ← Int.add_mul, Int.mul_comm (m / k) k, e2]
  rw [Int.add_mul] at a3
  omega
theorem cmp_step {n d m k : Int} (h : n / d = m / k) : cmpI (n * k) (m * d) = cmpI ((n - n / d * d) * k) ((m - m / k * k) * d) := by
  have b1 : (n - n / d * d) * k = n * k - n / d * (d * k) := by rw [Int.sub_mul, Int.mul_assoc]
  have b2 : (m - m / k * k) * d = m * d - n / d * (d * k) := by rw [Int.sub_mul, Int.mul_assoc, h, Int.mul_comm k d]
  rw [b1, b2]
  unfold cmpI
  split <;> split <;> first | rfl | (split <;> first | rfl | omega) | omega
theorem cmp_val_lt {x y : Int} (h : x < y) : cmpI x y = -1 := by unfold cmpI; rw [if_pos h]
theorem cmp_val_gt {x y : Int} (h : y < x) : cmpI x y = 1 := by unfold cmpI; rw [if_neg (by omega), if_pos h]
theorem cmp_val_eq (x : Int) : cmpI x x = 0 := by unfold cmpI; rw [if_neg (by omega), if_neg (by omega)]

set_option maxRecDepth 100000 in
set_option maxHeartbeats 1000000 in
theorem bCompare_any (n d m k : Int) (hn : 0 ≤ n ∧ n ≤ 4000000000000000000) (hd : 1 ≤ d ∧ d ≤ 4000000000000000000) (hm : 0 ≤ m ∧ m ≤ 4000000000000000000) (hk : 1 ≤ k ∧ k ≤ 4000000000000000000) (w : World) :
    Calls Tryz.prog 72 #[.int .i64 n, .int .i64 d, .int .i64 m, .int .i64 k] w fun e w' => e = .returned (.int .i64 (cmpI (n * k) (m * d))) ∧ w = w' := by
  go_enter Tryz.func72, Tryz.ntmps72
  go_wp2
  go_loop [0, 1, 2, 3] (fun a b c e => ∃ n' d' m' k' : Int, a = .int .i64 n' ∧ b = .int .i64 d' ∧ c = .int .i64 m' ∧ e = .int .i64 k' ∧ (0 ≤ n' ∧ n' ≤ 4000000000000000000) ∧ (1 ≤ d' ∧ d' ≤ 4000000000000000000) ∧ (0 ≤ m' ∧ m' ≤ 4000000000000000000) ∧ (1 ≤ k' ∧ k' ≤ 4000000000000000000) ∧ Hid (cmpI (n * k) (m * d) = cmpI (n' * k') (m' * d'))) (fun _ b _ e => (intOf b + intOf e).toNat)
  case atStart => exact ⟨n, d, m, k, rfl, rfl, rfl, rfl, hn, hd, hm, hk, rfl⟩
  case round =>
    obtain ⟨n', d', m', k', rfl, rfl, rfl, rfl, hn', hd', hm', hk', HC⟩ := hrel
    clear hn hd hm hk
    have p0 : 0 ≤ n' / d' := Int.ediv_nonneg (by omega) (by omega)
    have q0 : 0 ≤ m' / k' := Int.ediv_nonneg (by omega) (by omega)
    have e1 : n' / d' * d' ≤ n' := Int.ediv_mul_le _ (by omega)
    have e2 : 0 ≤ n' / d' * d' := Int.mul_nonneg p0 (by omega)
    have e3 : m' / k' * k' ≤ m' := Int.ediv_mul_le _ (by omega)
    have e4 : 0 ≤ m' / k' * k' := Int.mul_nonneg q0 (by omega)
    have f1 : n' - n' / d' * d' < d' := by
      have h1 := Int.mul_ediv_add_emod n' d'
      have h2 := Int.emod_lt_of_pos n' (show 0 < d' by omega)
      rw [Int.mul_comm] at h1; omega
    have f2 : m' - m' / k' * k' < k' := by
      have h1 := Int.mul_ediv_add_emod m' k'
      have h2 := Int.emod_lt_of_pos m' (show 0 < k' by omega)
      rw [Int.mul_comm] at h1; omega
    have HL := Lib.hid (fun h : n' / d' < m' / k' => HC.out.trans (cmp_val_lt (cmp_lt (by omega) (by omega) h)))
    have HG := Lib.hid (fun h : m' / k' < n' / d' => HC.out.trans (cmp_val_gt (cmp_lt (by omega) (by omega) h)))
    have HS := Lib.hid (fun h : n' / d' = m' / k' => HC.out.trans (cmp_step h))
    by_cases h1 : n' / d' < m' / k'
    · have HV := Lib.hid (HL.out h1)
      go_wp2_with (go_at_call 62; refine (floor_any _ _ ⟨by omega, by omega⟩ ⟨by omega, by omega⟩ _).mono ?_; rintro e w1 ⟨rfl, rfl⟩)
      go_ret
      exact ⟨by rw [HV.out]; rfl, rfl⟩
    · by_cases h2 : m' / k' < n' / d'
      · have HV := Lib.hid (HG.out h2)
        go_wp2_with (go_at_call 62; refine (floor_any _ _ ⟨by omega, by omega⟩ ⟨by omega, by omega⟩ _).mono ?_; rintro e w1 ⟨rfl, rfl⟩)
        go_ret
        exact ⟨by rw [HV.out]; rfl, rfl⟩
      · have HV := Lib.hid (HS.out (by omega))
        clear HL HG HS HC
        generalize hR : n' - n' / d' * d' = R at *
        generalize hT : m' - m' / k' * k' = T at *
        have r0 : 0 ≤ R := by omega
        have t0 : 0 ≤ T := by omega
        by_cases h3 : R = 0
        · by_cases h4 : T = 0
          · have HF : Hid (cmpI (n * k) (m * d) = 0) := Lib.hid (by rw [HV.out, h3, h4, Int.zero_mul, Int.zero_mul]; exact cmp_val_eq 0)
            have g1 : (R == 0) = true := by simpa using h3
            have g2 : (T == 0) = true := by simpa using h4
            clear h3 h4
            go_wp2_with (go_at_call 62; refine (floor_any _ _ ⟨by omega, by omega⟩ ⟨by omega, by omega⟩ _).mono ?_; rintro e w1 ⟨rfl, rfl⟩)
            go_ret
            exact ⟨by rw [HF.out]; rfl, rfl⟩
          · have HF : Hid (cmpI (n * k) (m * d) = -1) := Lib.hid (by rw [HV.out, h3, Int.zero_mul]; exact cmp_val_lt (Int.mul_pos (by omega) (by omega)))
            have g1 : (R == 0) = true := by simpa using h3
            have g2 : (T == 0) = false := by simpa using h4
            clear h3 h4
            go_wp2_with (go_at_call 62; refine (floor_any _ _ ⟨by omega, by omega⟩ ⟨by omega, by omega⟩ _).mono ?_; rintro e w1 ⟨rfl, rfl⟩)
            go_ret
            exact ⟨by rw [HF.out]; rfl, rfl⟩
        · by_cases h4 : T = 0
          · have HF : Hid (cmpI (n * k) (m * d) = 1) := Lib.hid (by rw [HV.out, h4, Int.zero_mul]; exact cmp_val_gt (Int.mul_pos (by omega) (by omega)))
            have g1 : (R == 0) = false := by simpa using h3
            have g2 : (T == 0) = true := by simpa using h4
            clear h3 h4
            go_wp2_with (go_at_call 62; refine (floor_any _ _ ⟨by omega, by omega⟩ ⟨by omega, by omega⟩ _).mono ?_; rintro e w1 ⟨rfl, rfl⟩)
            go_ret
            exact ⟨by rw [HF.out]; rfl, rfl⟩
          · have HF : Hid (cmpI (n * k) (m * d) = cmpI (k' * R) (d' * T)) := Lib.hid (by rw [HV.out, Int.mul_comm R, Int.mul_comm T])
            have g1 : (R == 0) = false := by simpa using h3
            have g2 : (T == 0) = false := by simpa using h4
            have r1 : 1 ≤ R := by omega
            have t1 : 1 ≤ T := by omega
            clear h3 h4
            go_wp2_with (go_at_call 62; refine (floor_any _ _ ⟨by omega, by omega⟩ ⟨by omega, by omega⟩ _).mono ?_; rintro e w1 ⟨rfl, rfl⟩)
            go_round
            case rel => exact ⟨k', T, d', R, rfl, rfl, rfl, rfl, by omega, by omega, by omega, by omega, HF⟩
            case measure => simp [intOf]; omega

theorem before_any (n d m k : Int) (hn : 0 ≤ n ∧ n ≤ 4000000000000000000) (hd : 1 ≤ d ∧ d ≤ 4000000000000000000) (hm : 0 ≤ m ∧ m ≤ 4000000000000000000) (hk : 1 ≤ k ∧ k ≤ 4000000000000000000) (w : World) :
    Calls Tryz.prog 35 #[.agg #[.int .i64 n, .int .i64 d], .agg #[.int .i64 m, .int .i64 k]] w fun e w' => e = .returned (.int .i64 (cmpI (n * k) (m * d))) ∧ Below w.heap.size w w' := by
  go_enter Tryz.func35, Tryz.ntmps35
  go_wp2_with (go_at_call 72; refine (bCompare_any n d m k hn hd hm hk _).mono ?_; rintro e w1 ⟨rfl, rfl⟩)
  go_ret
  exact ⟨rfl, (by repeat (first | (with_reducible exact Below.refl _ _) | (with_reducible assumption) | ((with_reducible refine Below.setCell ?_ ?_ _); rotate_left; · (first | exact Nat.le_refl _ | (simp; done) | (simp; omega) | omega)) | ((with_reducible refine Below.alloc ?_ ?_ _); rotate_left; · (first | exact Nat.le_refl _ | (simp; done) | (simp; omega) | omega)) | (with_reducible apply Below.drew) | (with_reducible apply below_drewN') | (refine Below.trans ?_ (Below.mono (by assumption) (by first | exact Nat.le_refl _ | (simp; done) | (simp; omega) | omega))) | exact Below.refl _ _ | assumption))⟩

set_option maxRecDepth 100000 in
set_option maxHeartbeats 1000000 in
theorem rCmp_any (a b c d : Int) (ha : -1000000000 ≤ a ∧ a ≤ 1000000000) (hb : -1000000000 ≤ b ∧ b ≤ 1000000000) (hc' : -1000000000 ≤ c ∧ c ≤ 1000000000) (hd : -1000000000 ≤ d ∧ d ≤ 1000000000) (w : World) :
    Calls Tryz.prog 105 #[.agg #[.int .i64 a, .int .i64 b], .agg #[.int .i64 c, .int .i64 d]] w fun e w' => e = .returned (.int .i64 (cmpI (a * d) (c * b))) ∧ Below w.heap.size w w' := by
  have m1 := mul_bd a d 1000000000 1000000000 ha hd
  have m2 := mul_bd c b 1000000000 1000000000 hc' hb
  have hB0 : Below w.heap.size w ((w.alloc (.cells #[.int .i64 a, .int .i64 b] 26)).alloc (.cells #[.int .i64 c, .int .i64 d] 26)) := ((Below.refl _ _).alloc (Nat.le_refl _) _).alloc (by simp) _
  rcases Int.lt_trichotomy (a * d) (c * b) with h | h | h
  · have HV := Lib.hid (cmp_val_lt h)
    go_enter Tryz.func105, Tryz.ntmps105
    go_wp2_with fail
    refine wp_region_b 12 (by kernel_rfl) (by kernel_rfl) ?_; simp only [List.take, List.drop]
    repeat (first
      | (apply StepsD.run
         · go_simp
           done
         · intro w' hS K hK
           have hc := (bcell hS).1
           have hf := (bcell hS).2
           have hz := hS.size
           try simp at hz
           go_simp
           try go_bits
           first
             | exact hK _ hS
             | exact hK _ (by repeat (first | (with_reducible exact Below.refl _ _) | (with_reducible assumption) | ((with_reducible refine Below.setCell ?_ ?_ _); rotate_left; · (first | exact Nat.le_refl _ | (simp; done) | (simp; omega) | omega)) | ((with_reducible refine Below.alloc ?_ ?_ _); rotate_left; · (first | exact Nat.le_refl _ | (simp; done) | (simp; omega) | omega)) | (with_reducible apply Below.drew) | (with_reducible apply below_drewN') | (refine Below.trans ?_ (Below.mono (by assumption) (by first | exact Nat.le_refl _ | (simp; done) | (simp; omega) | omega))) | exact Below.refl _ _ | assumption))
         · simp [Act.put]
           done)
      | (apply StepsD.pass
         · go_simp
           done
         · simp only [Act.put, List.setIfInBounds_toArray, List.set_cons_succ, List.set_cons_zero]
           rfl))
    refine StepsD.done ?_
    intro w' hS
    go_wp2
    go_ret
    exact ⟨by rw [HV.out]; rfl, hB0.trans (hS.mono (Below.size hB0))⟩
  · have HV : Hid (cmpI (a * d) (c * b) = 0) := Lib.hid (by rw [h]; exact cmp_val_eq _)
    have h1 : ¬ a * d < c * b := by omega
    have h2 : ¬ c * b < a * d := by omega
    clear h
    go_enter Tryz.func105, Tryz.ntmps105
    go_wp2_with fail
    refine wp_region_b 12 (by kernel_rfl) (by kernel_rfl) ?_; simp only [List.take, List.drop]
    repeat (first
      | (apply StepsD.run
         · go_simp
           done
         · intro w' hS K hK
           have hc := (bcell hS).1
           have hf := (bcell hS).2
           have hz := hS.size
           try simp at hz
           go_simp
           try go_bits
           first
             | exact hK _ hS
             | exact hK _ (by repeat (first | (with_reducible exact Below.refl _ _) | (with_reducible assumption) | ((with_reducible refine Below.setCell ?_ ?_ _); rotate_left; · (first | exact Nat.le_refl _ | (simp; done) | (simp; omega) | omega)) | ((with_reducible refine Below.alloc ?_ ?_ _); rotate_left; · (first | exact Nat.le_refl _ | (simp; done) | (simp; omega) | omega)) | (with_reducible apply Below.drew) | (with_reducible apply below_drewN') | (refine Below.trans ?_ (Below.mono (by assumption) (by first | exact Nat.le_refl _ | (simp; done) | (simp; omega) | omega))) | exact Below.refl _ _ | assumption))
         · simp [Act.put]
           done)
      | (apply StepsD.pass
         · go_simp
           done
         · simp only [Act.put, List.setIfInBounds_toArray, List.set_cons_succ, List.set_cons_zero]
           rfl))
    refine StepsD.done ?_
    intro w' hS
    go_wp2
    go_ret
    exact ⟨by rw [HV.out]; rfl, hB0.trans (hS.mono (Below.size hB0))⟩
  · have HV := Lib.hid (cmp_val_gt h)
    have h1 : ¬ a * d < c * b := by omega
    go_enter Tryz.func105, Tryz.ntmps105
    go_wp2_with fail
    refine wp_region_b 12 (by kernel_rfl) (by kernel_rfl) ?_; simp only [List.take, List.drop]
    repeat (first
      | (apply StepsD.run
         · go_simp
           done
         · intro w' hS K hK
           have hc := (bcell hS).1
           have hf := (bcell hS).2
           have hz := hS.size
           try simp at hz
           go_simp
           try go_bits
           first
             | exact hK _ hS
             | exact hK _ (by repeat (first | (with_reducible exact Below.refl _ _) | (with_reducible assumption) | ((with_reducible refine Below.setCell ?_ ?_ _); rotate_left; · (first | exact Nat.le_refl _ | (simp; done) | (simp; omega) | omega)) | ((with_reducible refine Below.alloc ?_ ?_ _); rotate_left; · (first | exact Nat.le_refl _ | (simp; done) | (simp; omega) | omega)) | (with_reducible apply Below.drew) | (with_reducible apply below_drewN') | (refine Below.trans ?_ (Below.mono (by assumption) (by first | exact Nat.le_refl _ | (simp; done) | (simp; omega) | omega))) | exact Below.refl _ _ | assumption))
         · simp [Act.put]
           done)
      | (apply StepsD.pass
         · go_simp
           done
         · simp only [Act.put, List.setIfInBounds_toArray, List.set_cons_succ, List.set_cons_zero]
           rfl))
    refine StepsD.done ?_
    intro w' hS
    go_wp2
    go_ret
    exact ⟨by rw [HV.out]; rfl, hB0.trans (hS.mono (Below.size hB0))⟩

set_option maxHeartbeats 400000 in
theorem hasFace_any (j : Jo) (face : Int) (A : Option Addr) (c : Nat) (w : World) (hl : j.fs.length ≤ 1000000000) :
    Calls Tryz.prog 43 #[.agg (joC j A c), .int .i64 face] w fun e w' => e = .returned (.bool (wi face 0 (j.fs.length - 1))) ∧ Below w.heap.size w w' := by
  unfold joC
  go_enter Tryz.func43, Tryz.ntmps43
  go_wp2_with (go_at_call 20; refine (bWithin_any _ _ _ _).mono ?_; rintro e w1 ⟨rfl, rfl⟩)
  go_ret
  exact ⟨rfl, (by repeat (first | (with_reducible exact Below.refl _ _) | (with_reducible assumption) | ((with_reducible refine Below.setCell ?_ ?_ _); rotate_left; · (first | exact Nat.le_refl _ | (simp; done) | (simp; omega) | omega)) | ((with_reducible refine Below.alloc ?_ ?_ _); rotate_left; · (first | exact Nat.le_refl _ | (simp; done) | (simp; omega) | omega)) | (with_reducible apply Below.drew) | (with_reducible apply below_drewN') | (refine Below.trans ?_ (Below.mono (by assumption) (by first | exact Nat.le_refl _ | (simp; done) | (simp; omega) | omega))) | exact Below.refl _ _ | assumption))⟩
end Go.Proofs.YtfbnpfhnffahdaaGreatDoor
