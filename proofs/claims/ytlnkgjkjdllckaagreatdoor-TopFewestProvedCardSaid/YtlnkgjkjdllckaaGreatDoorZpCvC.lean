/- Contracts of comparisons of points, and of points of shares. -/
import Derived.Test.YtlnkgjkjdllckaaGreatDoorZpCvB
import Derived.Test.YtlnkgjkjdllckaaGreatDoorZpShelf
namespace Go.Proofs.YtlnkgjkjdllckaaGreatDoor
open Go.RowKit

set_option maxHeartbeats 400000 in
theorem cmpU_any (x y : Int) (w : World) :
    Calls Tryz.prog 55 #[.int .u64 x, .int .u64 y] w fun e w' => e = .returned (.int .i64 (cmpI x y)) ∧ w = w' := by
  go_enter Tryz.func55, Tryz.ntmps55
  go_wp2
  all_goals
    go_ret
    refine ⟨?_, rfl⟩
    show Ending.returned (Value.int _ _) = _
    congr 2
    unfold cmpI
    grind

/-- The first number that is not 0. -/
def orI (a b : Int) : Int := if a = 0 then b else a
theorem orI_yes {a b : Int} (h : a = 0) : orI a b = b := by unfold orI; rw [if_pos h]
theorem orI_no {a b : Int} (h : ¬ a = 0) : orI a b = a := by unfold orI; rw [if_neg h]

set_option maxHeartbeats 400000 in
theorem orTwo_any (a b : Int) (B : Nat) (w : World) (h0 : w.cell? ⟨B, 0, none⟩ = some (.int .i64 a)) (h1 : w.cell? ⟨B, 1, none⟩ = some (.int .i64 b)) :
    Calls Tryz.prog 54 #[.slice (some ⟨B, 0, none⟩) 2 2] w fun e w' => e = .returned (.int .i64 (orI a b)) ∧ w = w' := by
  go_enter Tryz.func54, Tryz.ntmps54
  go_wp2
  go_loop [8] (fun i => i = .int .i64 0 ∨ (i = .int .i64 1 ∧ Hid (a = 0)) ∨ (i = .int .i64 2 ∧ Hid (a = 0) ∧ Hid (b = 0))) (fun i => 2 - (intOf i).toNat)
  case atStart => exact .inl rfl
  case round =>
    rcases hrel with rfl | ⟨rfl, ha⟩ | ⟨rfl, ha, hb⟩
    · by_cases hz : a = 0
      · have hz' : (a != 0) = false := by simpa using hz
        have H := Lib.hid hz; clear hz
        go_wp2
        exact ⟨.inr (.inl ⟨rfl, H⟩), by simp [intOf]⟩
      · have hz' : (a != 0) = true := by simpa using hz
        have H := Lib.hid hz; clear hz
        go_wp2
        go_ret
        exact ⟨by rw [orI_no H.out]; rfl, rfl⟩
    · by_cases hz : b = 0
      · have hz' : (b != 0) = false := by simpa using hz
        have H := Lib.hid hz; clear hz
        go_wp2
        exact ⟨.inr (.inr ⟨rfl, ha, H⟩), by simp [intOf]⟩
      · have hz' : (b != 0) = true := by simpa using hz
        have H := Lib.hid hz; clear hz
        go_wp2
        go_ret
        exact ⟨by rw [orI_yes ha.out]; rfl, rfl⟩
    · go_wp2
      go_ret
      exact ⟨by rw [orI_yes ha.out, hb.out]; rfl, rfl⟩

set_option maxHeartbeats 400000 in
theorem mulU_any (a b : Int) (ha : 0 ≤ a ∧ a ≤ 9223372036854775807) (hb : 0 ≤ b ∧ b ≤ 9223372036854775807) (w : World) :
    Calls Tryz.prog 53 #[.int .u64 a, .int .u64 b] w fun e w' => ∃ h l : Nat, e = .returned (.tuple #[.int .u64 h, .int .u64 l]) ∧ Hid (a * b = (h : Int) * 18446744073709551616 + l) ∧ h < 18446744073709551616 ∧ l < 18446744073709551616 ∧ w = w' := by
  obtain ⟨x, rfl⟩ := Int.eq_ofNat_of_zero_le ha.1
  obtain ⟨y, rfl⟩ := Int.eq_ofNat_of_zero_le hb.1
  refine (Tryz.bits_Mul64 x y (by omega) (by omega) w).mono ?_
  rintro e w' ⟨rfl, rfl⟩
  have hxy : x * y < 18446744073709551616 * 18446744073709551616 := Nat.mul_lt_mul'' (by omega) (by omega)
  refine ⟨_, _, rfl, ?_, Nat.div_lt_of_lt_mul hxy, Nat.mod_lt _ (by omega), rfl⟩
  show (x : Int) * y = _
  rw [← Int.natCast_mul]
  generalize x * y = z
  omega

theorem cmp_two {a b : Int} {h l h' l' : Nat} (ha : a = (h : Int) * 18446744073709551616 + l) (hb : b = (h' : Int) * 18446744073709551616 + l') (h2 : l < 18446744073709551616) (h4 : l' < 18446744073709551616) :
    orI (cmpI (h : Int) (h' : Int)) (cmpI (l : Int) (l' : Int)) = cmpI a b := by
  unfold orI cmpI
  grind

set_option maxHeartbeats 400000 in
theorem compare_any (n d m k : Int) (hn : 0 ≤ n ∧ n ≤ 9223372036854775807) (hd : 0 ≤ d ∧ d ≤ 9223372036854775807) (hm : 0 ≤ m ∧ m ≤ 9223372036854775807) (hk : 0 ≤ k ∧ k ≤ 9223372036854775807) (w : World) :
    Calls Tryz.prog 32 #[.agg #[.int .i64 n, .int .i64 d], .agg #[.int .i64 m, .int .i64 k]] w fun e w' => e = .returned (.int .i64 (cmpI (n * k) (m * d))) ∧ Below w.heap.size w w' := by
  go_enter Tryz.func32, Tryz.ntmps32
  go_wp2_with fail
  refine (mulU_any n k hn hk _).mono ?_
  rintro e w1 ⟨h, l, rfl, E1, b1, b2, rfl⟩
  go_wp2_with fail
  refine (mulU_any m d hm hd _).mono ?_
  rintro e w1 ⟨h', l', rfl, E2, b3, b4, rfl⟩
  go_wp2_with (go_at_call 55; refine (cmpU_any _ _ _).mono ?_; rintro e w1 ⟨rfl, rfl⟩)
  refine (orTwo_any (cmpI h h') (cmpI l l') _ _ ?c0 ?c1).mono ?_
  case c0 => go_simp
  case c1 => go_simp
  rintro e w1 ⟨rfl, rfl⟩
  go_wp2
  go_ret
  exact ⟨by rw [← cmp_two E1.out E2.out b2 b4]; rfl, (by repeat (first | (with_reducible exact Below.refl _ _) | (with_reducible assumption) | ((with_reducible refine Below.setCell ?_ ?_ _); rotate_left; · (first | exact Nat.le_refl _ | (simp; done) | (simp; omega) | omega)) | ((with_reducible refine Below.alloc ?_ ?_ _); rotate_left; · (first | exact Nat.le_refl _ | (simp; done) | (simp; omega) | omega)) | (with_reducible apply Below.drew) | (with_reducible apply below_drewN') | (refine Below.trans ?_ (Below.mono (by assumption) (by first | exact Nat.le_refl _ | (simp; done) | (simp; omega) | omega))) | exact Below.refl _ _ | assumption))⟩

/-! ### points of shares -/
theorem gcd_pos_left {n d : Int} (h : 0 < d) : 0 < Int.gcd n d := Int.gcd_pos_of_ne_zero_right _ (by omega)
theorem gcd_div (n d : Int) : (Int.gcd n d : Int) ∣ n ∧ (Int.gcd n d : Int) ∣ d := ⟨Int.gcd_dvd_left .., Int.gcd_dvd_right ..⟩

set_option maxHeartbeats 400000 in
theorem point_any (n d : Int) (hn : 0 ≤ n ∧ n ≤ 9223372036854775807) (hd : 1 ≤ d ∧ d ≤ 9223372036854775807) (w : World) :
    Calls Tryz.prog 89 #[.int .i64 n, .int .i64 d] w fun e w' => e = .returned (.agg #[.int .i64 (shN n d), .int .i64 (shD n d)]) ∧ Below w.heap.size w w' := by
  have hg := gcd_pos_left (n := n) (d := d) (by omega)
  have hl : (Int.gcd n d : Int) ≤ d := Int.le_of_dvd (by omega) (gcd_div n d).2
  have e1 : n.tdiv (Int.gcd n d) = shN n d := Int.tdiv_eq_ediv_of_nonneg hn.1
  have e2 : d.tdiv (Int.gcd n d) = shD n d := Int.tdiv_eq_ediv_of_nonneg (by omega)
  obtain ⟨g, hgg⟩ : ∃ g : Int, (Int.gcd n d : Int) = g := ⟨_, rfl⟩
  have b1 := td_bd n g
  have b2 := td_bd d g
  have h1 : 1 ≤ g := by omega
  have h0 : (g == 0) = false := by simp; omega
  have hgl : g ≤ d := by omega
  rw [hgg] at e1 e2
  have HG := Lib.hid hgg; have E1 := Lib.hid e1; have E2 := Lib.hid e2; clear hgg e1 e2 hg hl
  have b3 : -9223372036854775807 ≤ n.tdiv g ∧ n.tdiv g ≤ 9223372036854775807 := by omega
  have b4 : -9223372036854775807 ≤ d.tdiv g ∧ d.tdiv g ≤ 9223372036854775807 := by omega
  clear b1 b2
  go_enter Tryz.func89, Tryz.ntmps89
  go_wp2_with (go_at_call 90; refine (divisor_any _ _ (by omega) (by omega) (by omega) _).mono ?_; rw [HG.out]; rintro e w1 ⟨rfl, hB1⟩; obtain ⟨hc1, hf1⟩ := bcell hB1; have hz1 := hB1.size; (try simp at hz1))
  go_region
  go_wp2
  refine bodyPost_ret (v := .agg #[.int .i64 (n.tdiv g), .int .i64 (d.tdiv g)]) (by simp [results, Tryz.results89, go_sem, hc1]) rfl ⟨by rw [E1.out, E2.out], (by repeat (first | (with_reducible exact Below.refl _ _) | (with_reducible assumption) | ((with_reducible refine Below.setCell ?_ ?_ _); rotate_left; · (first | exact Nat.le_refl _ | (simp; done) | (simp; omega) | omega)) | ((with_reducible refine Below.alloc ?_ ?_ _); rotate_left; · (first | exact Nat.le_refl _ | (simp; done) | (simp; omega) | omega)) | (with_reducible apply Below.drew) | (with_reducible apply below_drewN') | (refine Below.trans ?_ (Below.mono (by assumption) (by first | exact Nat.le_refl _ | (simp; done) | (simp; omega) | omega))) | exact Below.refl _ _ | assumption))⟩
end Go.Proofs.YtlnkgjkjdllckaaGreatDoor
