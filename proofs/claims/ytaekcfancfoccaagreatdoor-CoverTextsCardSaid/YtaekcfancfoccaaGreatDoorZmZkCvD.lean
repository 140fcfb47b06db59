/- Contracts of the functions of the packages cover and couplantbase on fractions, points and ways. DERIVED: THE SHELF's CONTRACTS AT THIS DUMP, IN PLAIN WORDS (tools/lay-plain.mjs out of 'YtaekcfancfoccaaGreatDoorShRaw.lean', which tools/lay-shelf.mjs wrote): THE SAME DECLARATIONS UNDER THE SAME NAMES: 'import', 'namespace', 'open', 'def', 'theorem' AND NOTHING ELSE: no command of the shelf's: FOR A HAND-IN. Each laying: the table of numbers ('.._ren') and one theorem, a field a fact of the dump's own or the kernel's comparison; each contract: ONE APPLICATION. Contracts of comparisons of points, and of points of shares. Contracts of the methods of parts. -/
import Derived.Shelf.Bits.Mul64
import Derived.Test.YtaekcfancfoccaaGreatDoorProg
import Derived.Deep.RegionHeld3
import Derived.Deep.RegionWith
import Derived.RegionTactic
import Derived.Test.YtaekcfancfoccaaGreatDoorZmZkCvN
import Derived.Test.YtaekcfancfoccaaGreatDoorZmZkCvW
import Derived.Test.YtaekcfancfoccaaGreatDoorZmZkRgW
namespace Go.Proofs.YtaekcfancfoccaaGreatDoor
open Go.RowKit

set_option maxHeartbeats 400000 in
theorem isLowest_any (n d : Int) (hn : -9223372036854775808 ≤ n ∧ n ≤ 9223372036854775807) (hd : -9223372036854775808 ≤ d ∧ d ≤ 9223372036854775807) (w : World) :
    Calls Tryz.prog 89 #[.int .i64 n, .int .i64 d] w fun e w' => e = .returned (.bool (lowB n d)) ∧ Below w.heap.size w w' := by
  go_enter Tryz.func89, Tryz.ntmps89
  go_wp2_with (go_at_call 118; refine (divisor_any _ _ (by omega) (by omega) (by omega) _).mono ?_; rintro e w1 ⟨rfl, hB1⟩; obtain ⟨hc1, hf1⟩ := bcell hB1; have hz1 := hB1.size; (try simp at hz1))
  all_goals
    go_ret
    refine ⟨?_, (by repeat first | (with_reducible first | exact Below.refl _ _ | assumption) | ((with_reducible first | refine Below.setCell ?_ ?_ _ | refine Below.alloc ?_ ?_ _); rotate_left; · first | exact Nat.le_refl _ | (simp; done) | (simp; omega) | omega) | (with_reducible first | apply Below.drew | apply below_drewN') | refine Below.trans ?_ (Below.mono (by assumption) (by first | exact Nat.le_refl _ | (simp; done) | (simp; omega) | omega)) | exact Below.refl _ _ | assumption)⟩
    show Ending.returned (Value.bool _) = _
    congr 2
    grind [lowB]

set_option maxHeartbeats 400000 in
theorem tangentErr_any (n d : Int) (hn : -9223372036854775808 ≤ n ∧ n ≤ 9223372036854775807) (hd : -9223372036854775808 ≤ d ∧ d ≤ 9223372036854775807) (w : World) :
    Calls Tryz.prog 59 #[.agg #[.int .i64 n, .int .i64 d]] w fun e w' => e = .returned (.int .i64 (tanE n d)) ∧ Below w.heap.size w w' := by
  go_enter Tryz.func59, Tryz.ntmps59
  go_wp2_with (first
    | (go_at_call 89; refine (isLowest_any _ _ (by omega) (by omega) _).mono ?_; rintro e w1 ⟨rfl, hB1⟩; obtain ⟨hc1, hf1⟩ := bcell hB1; have hz1 := hB1.size; (try simp at hz1))
    | (go_at_call 58; refine (within_any _ _ _ _).mono ?_; rintro e w1 ⟨rfl, rfl⟩))
  all_goals
    go_ret
    refine ⟨?_, (by repeat first | (with_reducible first | exact Below.refl _ _ | assumption) | ((with_reducible first | refine Below.setCell ?_ ?_ _ | refine Below.alloc ?_ ?_ _); rotate_left; · first | exact Nat.le_refl _ | (simp; done) | (simp; omega) | omega) | (with_reducible first | apply Below.drew | apply below_drewN') | refine Below.trans ?_ (Below.mono (by assumption) (by first | exact Nat.le_refl _ | (simp; done) | (simp; omega) | omega)) | exact Below.refl _ _ | assumption)⟩
    show Ending.returned (Value.int _ _) = _
    congr 2
    grind [tanE]

set_option maxHeartbeats 400000 in
theorem from_any (a b c d : Int) (ha : -1000000000 ≤ a ∧ a ≤ 1000000000) (hb : -1000000000 ≤ b ∧ b ≤ 1000000000) (hc : -1000000000 ≤ c ∧ c ≤ 1000000000) (hd : -1000000000 ≤ d ∧ d ≤ 1000000000) (w : World) :
    Calls Tryz.prog 91 #[.agg #[.int .i64 a, .int .i64 b], .agg #[.int .i64 c, .int .i64 d]] w fun e w' => e = .returned (.agg #[.int .i64 (c - a), .int .i64 (d - b)]) ∧ Below w.heap.size w w' := by
  go_enter Tryz.func91, Tryz.ntmps91
  go_wp2
  exact bodyPost_ret (v := .agg #[.int .i64 (c - a), .int .i64 (d - b)]) (by simp [results, Tryz.results91, go_sem]) rfl ⟨rfl, (by repeat first | (with_reducible first | exact Below.refl _ _ | assumption) | ((with_reducible first | refine Below.setCell ?_ ?_ _ | refine Below.alloc ?_ ?_ _); rotate_left; · first | exact Nat.le_refl _ | (simp; done) | (simp; omega) | omega) | (with_reducible first | apply Below.drew | apply below_drewN') | refine Below.trans ?_ (Below.mono (by assumption) (by first | exact Nat.le_refl _ | (simp; done) | (simp; omega) | omega)) | exact Below.refl _ _ | assumption)⟩

set_option maxHeartbeats 400000 in
theorem lawPoint_any (n d : Int) (w : World) :
    Calls Tryz.prog 27 #[.int .i64 n, .int .i64 d] w fun e w' => e = .returned (.agg #[.int .i64 n, .int .i64 d]) ∧ Below w.heap.size w w' := by
  go_enter Tryz.func27, Tryz.ntmps27
  go_wp2
  exact bodyPost_ret (v := .agg #[.int .i64 n, .int .i64 d]) (by simp [results, Tryz.results27, go_sem]) rfl ⟨rfl, (by repeat first | (with_reducible first | exact Below.refl _ _ | assumption) | ((with_reducible first | refine Below.setCell ?_ ?_ _ | refine Below.alloc ?_ ?_ _); rotate_left; · first | exact Nat.le_refl _ | (simp; done) | (simp; omega) | omega) | (with_reducible first | apply Below.drew | apply below_drewN') | refine Below.trans ?_ (Below.mono (by assumption) (by first | exact Nat.le_refl _ | (simp; done) | (simp; omega) | omega)) | exact Below.refl _ _ | assumption)⟩

theorem mul_bd (a b A B : Int) (ha : -A ≤ a ∧ a ≤ A) (hb : -B ≤ b ∧ b ≤ B) : -(A * B) ≤ a * b ∧ a * b ≤ A * B := by
  have h1 : a.natAbs ≤ A.natAbs := by omega
  have h2 : b.natAbs ≤ B.natAbs := by omega
  have h3 : (a * b).natAbs ≤ A.natAbs * B.natAbs := by rw [Int.natAbs_mul]; exact Nat.mul_le_mul h1 h2
  have h4 : (A.natAbs * B.natAbs : Int) = A * B := by rw [show (A.natAbs : Int) = A by omega, show (B.natAbs : Int) = B by omega]
  omega

set_option maxHeartbeats 400000 in
theorem dot_any (a b c d : Int) (ha : -1000000000 ≤ a ∧ a ≤ 1000000000) (hb : -1000000000 ≤ b ∧ b ≤ 1000000000) (hc : -1000000000 ≤ c ∧ c ≤ 1000000000) (hd : -1000000000 ≤ d ∧ d ≤ 1000000000) (w : World) :
    Calls Tryz.prog 94 #[.agg #[.int .i64 a, .int .i64 b], .agg #[.int .i64 c, .int .i64 d]] w fun e w' => e = .returned (.int .i64 (a * c + b * d)) ∧ Below w.heap.size w w' := by
  have h1 : -1000000000000000000 ≤ a * c ∧ a * c ≤ 1000000000000000000 := mul_bd a c _ _ ha hc
  have h2 : -1000000000000000000 ≤ b * d ∧ b * d ≤ 1000000000000000000 := mul_bd b d _ _ hb hd
  go_enter Tryz.func94, Tryz.ntmps94
  go_wp2
  go_ret
  exact ⟨rfl, (by repeat first | (with_reducible first | exact Below.refl _ _ | assumption) | ((with_reducible first | refine Below.setCell ?_ ?_ _ | refine Below.alloc ?_ ?_ _); rotate_left; · first | exact Nat.le_refl _ | (simp; done) | (simp; omega) | omega) | (with_reducible first | apply Below.drew | apply below_drewN') | refine Below.trans ?_ (Below.mono (by assumption) (by first | exact Nat.le_refl _ | (simp; done) | (simp; omega) | omega)) | exact Below.refl _ _ | assumption)⟩

set_option maxHeartbeats 400000 in
theorem cross_any (a b c d : Int) (ha : -1000000000 ≤ a ∧ a ≤ 1000000000) (hb : -1000000000 ≤ b ∧ b ≤ 1000000000) (hc : -1000000000 ≤ c ∧ c ≤ 1000000000) (hd : -1000000000 ≤ d ∧ d ≤ 1000000000) (w : World) :
    Calls Tryz.prog 92 #[.agg #[.int .i64 a, .int .i64 b], .agg #[.int .i64 c, .int .i64 d]] w fun e w' => e = .returned (.int .i64 (a * d - b * c)) ∧ Below w.heap.size w w' := by
  have h1 : -1000000000000000000 ≤ a * d ∧ a * d ≤ 1000000000000000000 := mul_bd a d _ _ ha hd
  have h2 : -1000000000000000000 ≤ b * c ∧ b * c ≤ 1000000000000000000 := mul_bd b c _ _ hb hc
  go_enter Tryz.func92, Tryz.ntmps92
  go_wp2
  go_ret
  exact ⟨rfl, (by repeat first | (with_reducible first | exact Below.refl _ _ | assumption) | ((with_reducible first | refine Below.setCell ?_ ?_ _ | refine Below.alloc ?_ ?_ _); rotate_left; · first | exact Nat.le_refl _ | (simp; done) | (simp; omega) | omega) | (with_reducible first | apply Below.drew | apply below_drewN') | refine Below.trans ?_ (Below.mono (by assumption) (by first | exact Nat.le_refl _ | (simp; done) | (simp; omega) | omega)) | exact Below.refl _ _ | assumption)⟩

set_option maxHeartbeats 400000 in
theorem square_any (a b : Int) (ha : -1000000000 ≤ a ∧ a ≤ 1000000000) (hb : -1000000000 ≤ b ∧ b ≤ 1000000000) (w : World) :
    Calls Tryz.prog 95 #[.agg #[.int .i64 a, .int .i64 b]] w fun e w' => e = .returned (.int .i64 (a * a + b * b)) ∧ Below w.heap.size w w' := by
  go_enter Tryz.func95, Tryz.ntmps95
  go_wp2_with (go_at_call 94; refine (dot_any _ _ _ _ (by omega) (by omega) (by omega) (by omega) _).mono ?_; rintro e w1 ⟨rfl, hB1⟩; obtain ⟨hc1, hf1⟩ := bcell hB1; have hz1 := hB1.size; (try simp at hz1))
  go_ret
  exact ⟨rfl, (by repeat first | (with_reducible first | exact Below.refl _ _ | assumption) | ((with_reducible first | refine Below.setCell ?_ ?_ _ | refine Below.alloc ?_ ?_ _); rotate_left; · first | exact Nat.le_refl _ | (simp; done) | (simp; omega) | omega) | (with_reducible first | apply Below.drew | apply below_drewN') | refine Below.trans ?_ (Below.mono (by assumption) (by first | exact Nat.le_refl _ | (simp; done) | (simp; omega) | omega)) | exact Below.refl _ _ | assumption)⟩

end Go.Proofs.YtaekcfancfoccaaGreatDoor

namespace Go.Proofs
open Go.Shelf
def Tryz.lays264_ren : Go.Shelf.Ren := ⟨fun | 264 => 120 | n => n, fun | 53 => 195 | 46 => 204 | n => n, fun | n => n⟩
theorem Tryz.lays264 : Go.Proofs.Lays.n264 Tryz.prog Tryz.lays264_ren := {
  mixed := by kernel_rfl
  f264 := Tryz.func120.trans (congrArg some (by kernel_rfl))
  t46 := Tryz.underlying204
  a46 := Tryz.isAgg204
  z46 := Tryz.sizeOf204
  v46 := Tryz.zeroValue204
  t53 := Tryz.underlying195
  a53 := Tryz.isAgg195
  z53 := Tryz.sizeOf195
  v53 := Tryz.zeroValue195 }
open Go.RowKit Go.Lib in
theorem Tryz.bits_Mul64 (x y : Nat) (hx : x < 18446744073709551616) (hy : y < 18446744073709551616) (w : World) :
    Calls Tryz.prog 120 #[.int .u64 x, .int .u64 y] w fun e w' => e = .returned (.tuple #[.int .u64 ((x * y / 18446744073709551616 : Nat) : Int), .int .u64 ((x * y % 18446744073709551616 : Nat) : Int)]) ∧ w' = w := Any.bits_Mul64 Tryz.lays264 x y hx hy w
end Go.Proofs

namespace Go.Proofs.YtaekcfancfoccaaGreatDoor
open Go.RowKit

set_option maxHeartbeats 400000 in
theorem cmpU_any (x y : Int) (w : World) :
    Calls Tryz.prog 122 #[.int .u64 x, .int .u64 y] w fun e w' => e = .returned (.int .i64 (cmpI x y)) ∧ w = w' := by
  go_enter Tryz.func122, Tryz.ntmps122
  go_wp2
  all_goals
    go_ret
    refine ⟨?_, rfl⟩
    show Ending.returned (Value.int _ _) = _
    congr 2
    unfold cmpI
    grind

def orI (a b : Int) : Int := if a = 0 then b else a
theorem orI_yes {a b : Int} (h : a = 0) : orI a b = b := by unfold orI; rw [if_pos h]
theorem orI_no {a b : Int} (h : ¬ a = 0) : orI a b = a := by unfold orI; rw [if_neg h]

set_option maxHeartbeats 400000 in
theorem orTwo_any (a b : Int) (B : Nat) (w : World) (h0 : w.cell? ⟨B, 0, none⟩ = some (.int .i64 a)) (h1 : w.cell? ⟨B, 1, none⟩ = some (.int .i64 b)) :
    Calls Tryz.prog 121 #[.slice (some ⟨B, 0, none⟩) 2 2] w fun e w' => e = .returned (.int .i64 (orI a b)) ∧ w = w' := by
  go_enter Tryz.func121, Tryz.ntmps121
  go_wp2
  go_loop [8] (fun i => i = .int .i64 0 ∨ (i = .int .i64 1 ∧ Hid (a = 0)) ∨ (i = .int .i64 2 ∧ Hid (a = 0) ∧ Hid (b = 0))) (fun i => 2 - (intOf i).toNat)
  case atStart => exact .inl rfl
  case round =>
    rcases hrel with rfl | ⟨rfl, ha⟩ | ⟨rfl, ha, hb⟩
    · by_cases hz : a = 0
      · have hz' : (a != 0) = false := by simpa using hz
        have H := Lib.hid hz; clear hz
        go_wp2
        exact ⟨.inr (.inl ⟨rfl, H⟩), by simp [intOf]⟩
      · have hz' : (a != 0) = true := by simpa using hz
        have H := Lib.hid hz; clear hz
        go_wp2
        go_ret
        exact ⟨by rw [orI_no H.out]; rfl, rfl⟩
    · by_cases hz : b = 0
      · have hz' : (b != 0) = false := by simpa using hz
        have H := Lib.hid hz; clear hz
        go_wp2
        exact ⟨.inr (.inr ⟨rfl, ha, H⟩), by simp [intOf]⟩
      · have hz' : (b != 0) = true := by simpa using hz
        have H := Lib.hid hz; clear hz
        go_wp2
        go_ret
        exact ⟨by rw [orI_yes ha.out]; rfl, rfl⟩
    · go_wp2
      go_ret
      exact ⟨by rw [orI_yes ha.out, hb.out]; rfl, rfl⟩

set_option maxHeartbeats 400000 in
theorem mulU_any (a b : Int) (ha : 0 ≤ a ∧ a ≤ 9223372036854775807) (hb : 0 ≤ b ∧ b ≤ 9223372036854775807) (w : World) :
    Calls Tryz.prog 120 #[.int .u64 a, .int .u64 b] w fun e w' => ∃ h l : Nat, e = .returned (.tuple #[.int .u64 h, .int .u64 l]) ∧ Hid (a * b = (h : Int) * 18446744073709551616 + l) ∧ h < 18446744073709551616 ∧ l < 18446744073709551616 ∧ w = w' := by
  obtain ⟨x, rfl⟩ := Int.eq_ofNat_of_zero_le ha.1
  obtain ⟨y, rfl⟩ := Int.eq_ofNat_of_zero_le hb.1
  refine (Tryz.bits_Mul64 x y (by omega) (by omega) w).mono ?_
  rintro e w' ⟨rfl, rfl⟩
  have hxy : x * y < 18446744073709551616 * 18446744073709551616 := Nat.mul_lt_mul'' (by omega) (by omega)
  refine ⟨_, _, rfl, ?_, Nat.div_lt_of_lt_mul hxy, Nat.mod_lt _ (by omega), rfl⟩
  show (x : Int) * y = _
  rw [← Int.natCast_mul]
  generalize x * y = z
  omega

theorem cmp_two {a b : Int} {h l h' l' : Nat} (ha : a = (h : Int) * 18446744073709551616 + l) (hb : b = (h' : Int) * 18446744073709551616 + l') (h2 : l < 18446744073709551616) (h4 : l' < 18446744073709551616) :
    orI (cmpI (h : Int) (h' : Int)) (cmpI (l : Int) (l' : Int)) = cmpI a b := by
  unfold orI cmpI
  grind

set_option maxHeartbeats 400000 in
theorem compare_any (n d m k : Int) (hn : 0 ≤ n ∧ n ≤ 9223372036854775807) (hd : 0 ≤ d ∧ d ≤ 9223372036854775807) (hm : 0 ≤ m ∧ m ≤ 9223372036854775807) (hk : 0 ≤ k ∧ k ≤ 9223372036854775807) (w : World) :
    Calls Tryz.prog 96 #[.agg #[.int .i64 n, .int .i64 d], .agg #[.int .i64 m, .int .i64 k]] w fun e w' => e = .returned (.int .i64 (cmpI (n * k) (m * d))) ∧ Below w.heap.size w w' := by
  go_enter Tryz.func96, Tryz.ntmps96
  go_wp2_with fail
  refine (mulU_any n k hn hk _).mono ?_
  rintro e w1 ⟨h, l, rfl, E1, b1, b2, rfl⟩
  go_wp2_with fail
  refine (mulU_any m d hm hd _).mono ?_
  rintro e w1 ⟨h', l', rfl, E2, b3, b4, rfl⟩
  go_wp2_with (go_at_call 122; refine (cmpU_any _ _ _).mono ?_; rintro e w1 ⟨rfl, rfl⟩)
  refine (orTwo_any (cmpI h h') (cmpI l l') _ _ ?c0 ?c1).mono ?_
  case c0 => go_simp
  case c1 => go_simp
  rintro e w1 ⟨rfl, rfl⟩
  go_wp2
  go_ret
  exact ⟨by rw [← cmp_two E1.out E2.out b2 b4]; rfl, (by repeat first | (with_reducible first | exact Below.refl _ _ | assumption) | ((with_reducible first | refine Below.setCell ?_ ?_ _ | refine Below.alloc ?_ ?_ _); rotate_left; · first | exact Nat.le_refl _ | (simp; done) | (simp; omega) | omega) | (with_reducible first | apply Below.drew | apply below_drewN') | refine Below.trans ?_ (Below.mono (by assumption) (by first | exact Nat.le_refl _ | (simp; done) | (simp; omega) | omega)) | exact Below.refl _ _ | assumption)⟩

/-! ### points of shares -/
theorem gcd_pos_left {n d : Int} (h : 0 < d) : 0 < Int.gcd n d := Int.gcd_pos_of_ne_zero_right _ (by omega)
theorem gcd_div (n d : Int) : (Int.gcd n d : Int) ∣ n ∧ (Int.gcd n d : Int) ∣ d := ⟨Int.gcd_dvd_left .., Int.gcd_dvd_right ..⟩

set_option maxHeartbeats 400000 in
theorem point_any (n d : Int) (hn : 0 ≤ n ∧ n ≤ 9223372036854775807) (hd : 1 ≤ d ∧ d ≤ 9223372036854775807) (w : World) :
    Calls Tryz.prog 119 #[.int .i64 n, .int .i64 d] w fun e w' => e = .returned (.agg #[.int .i64 (shN n d), .int .i64 (shD n d)]) ∧ Below w.heap.size w w' := by
  have hg := gcd_pos_left (n := n) (d := d) (by omega)
  have hl : (Int.gcd n d : Int) ≤ d := Int.le_of_dvd (by omega) (gcd_div n d).2
  have e1 : n.tdiv (Int.gcd n d) = shN n d := Int.tdiv_eq_ediv_of_nonneg hn.1
  have e2 : d.tdiv (Int.gcd n d) = shD n d := Int.tdiv_eq_ediv_of_nonneg (by omega)
  obtain ⟨g, hgg⟩ : ∃ g : Int, (Int.gcd n d : Int) = g := ⟨_, rfl⟩
  have b1 := td_bd n g
  have b2 := td_bd d g
  have h1 : 1 ≤ g := by omega
  have h0 : (g == 0) = false := by simp; omega
  have hgl : g ≤ d := by omega
  rw [hgg] at e1 e2
  have HG := Lib.hid hgg; have E1 := Lib.hid e1; have E2 := Lib.hid e2; clear hgg e1 e2 hg hl
  have b3 : -9223372036854775807 ≤ n.tdiv g ∧ n.tdiv g ≤ 9223372036854775807 := by omega
  have b4 : -9223372036854775807 ≤ d.tdiv g ∧ d.tdiv g ≤ 9223372036854775807 := by omega
  clear b1 b2
  go_enter Tryz.func119, Tryz.ntmps119
  go_wp2_with (go_at_call 118; refine (divisor_any _ _ (by omega) (by omega) (by omega) _).mono ?_; rw [HG.out]; rintro e w1 ⟨rfl, hB1⟩; obtain ⟨hc1, hf1⟩ := bcell hB1; have hz1 := hB1.size; (try simp at hz1))
  go_region
  go_wp2
  refine bodyPost_ret (v := .agg #[.int .i64 (n.tdiv g), .int .i64 (d.tdiv g)]) (by simp [results, Tryz.results119, go_sem, hc1]) rfl ⟨by rw [E1.out, E2.out], (by repeat first | (with_reducible first | exact Below.refl _ _ | assumption) | ((with_reducible first | refine Below.setCell ?_ ?_ _ | refine Below.alloc ?_ ?_ _); rotate_left; · first | exact Nat.le_refl _ | (simp; done) | (simp; omega) | omega) | (with_reducible first | apply Below.drew | apply below_drewN') | refine Below.trans ?_ (Below.mono (by assumption) (by first | exact Nat.le_refl _ | (simp; done) | (simp; omega) | omega)) | exact Below.refl _ _ | assumption)⟩
end Go.Proofs.YtaekcfancfoccaaGreatDoor

namespace Go.Proofs.YtaekcfancfoccaaGreatDoor
open Go.RowKit

def ptC (a b c d : Int) (none up : Bool) : Array Value := #[.int .i64 a, .int .i64 b, .int .i64 c, .int .i64 d, .bool none, .bool up]

theorem blk6 {w : World} {g t : Nat} {v0 v1 v2 v3 v4 v5 : Value} (h : Blk w g t #[v0, v1, v2, v3, v4, v5]) :
    w.cell? ⟨g, 0, none⟩ = some v0 ∧ w.cell? ⟨g, 1, none⟩ = some v1 ∧ w.cell? ⟨g, 2, none⟩ = some v2 ∧ w.cell? ⟨g, 3, none⟩ = some v3 ∧ w.cell? ⟨g, 4, none⟩ = some v4 ∧ w.cell? ⟨g, 5, none⟩ = some v5 ∧
    ∀ i, w.frozen? ⟨g, i, none⟩ = false :=
  ⟨h.cell 0, h.cell 1, h.cell 2, h.cell 3, h.cell 4, h.cell 5, h.frozen⟩

set_option maxHeartbeats 400000 in
theorem empty_any (g : Nat) (a b c d : Int) (none up : Bool) (ha : 0 ≤ a ∧ a ≤ 9223372036854775807) (hb : 0 ≤ b ∧ b ≤ 9223372036854775807) (hc' : 0 ≤ c ∧ c ≤ 9223372036854775807) (hd : 0 ≤ d ∧ d ≤ 9223372036854775807)
    (w : World) (h : Blk w g 137 (ptC a b c d none up)) :
    Calls Tryz.prog 97 #[.pointer (some ⟨g, 0, Option.none⟩)] w fun e w' => e = .returned (.tuple #[]) ∧ Blk w' g 137 (ptC a b c d (none || decide (0 < cmpI (a * d) (c * b))) up) ∧ w.grownBy w' (some g) := by
  obtain ⟨c0, c1, c2, c3, c4, c5, hfz⟩ := blk6 h
  have f4 := hfz 4
  have hlt := h.lt
  have hr := Below.refl w.heap.size w
  cases none with
  | true =>
    go_enter Tryz.func97, Tryz.ntmps97
    go_wp2_with fail
    refine wp_region_text 21 (Below w.heap.size w) (by kernel_rfl) (by kernel_rfl) hr.drew ?_
    simp only [List.take, List.drop]
    repeat (first
      | (apply StepsD.run
         · go_simp
           done
         · intro w' hS K hK
           have hc := (bcell hS).1; have hf := (bcell hS).2; have hz := hS.size; (try simp at hz); go_simp; (try go_bits)
           first
             | exact hK _ hS
             | exact hK _ (by repeat first | (with_reducible first | exact Below.refl _ _ | assumption) | ((with_reducible first | refine Below.setCell ?_ ?_ _ | refine Below.alloc ?_ ?_ _); rotate_left; · first | exact Nat.le_refl _ | (simp; done) | (simp; omega) | omega) | (with_reducible first | apply Below.drew | apply below_drewN') | refine Below.trans ?_ (Below.mono (by assumption) (by first | exact Nat.le_refl _ | (simp; done) | (simp; omega) | omega)) | exact Below.refl _ _ | assumption)
         · simp [Act.put]
           done)
      | (apply StepsD.pass
         · first | (go_simp; done) | rfl
         · simp only [Act.put, List.setIfInBounds_toArray, List.set_cons_succ, List.set_cons_zero]
           rfl))
    refine StepsD.done ?_
    intro w' hS
    have hc := (bcell hS).1
    have hf := (bcell hS).2
    go_wp2
    go_end0
    exact ⟨rfl, (h.below hS hlt).set_ 4 (.bool true), only_setCell (only_of_below hS _) (.inl rfl) _⟩
  | false =>
    go_enter Tryz.func97, Tryz.ntmps97
    go_wp2_with fail
    refine wp_region_text 21 (Below w.heap.size w) (by kernel_rfl) (by kernel_rfl) hr.drew ?_
    simp only [List.take, List.drop]
    repeat (first
      | (apply StepsD.run
         · go_simp
           done
         · intro w' hS K hK
           have hc := (bcell hS).1; have hf := (bcell hS).2; have hz := hS.size; (try simp at hz); go_simp; (try go_bits)
           first
             | exact hK _ hS
             | (refine (compare_any _ _ _ _ ha hb hc' hd _).mono ?_; rintro e w1 ⟨rfl, hB1⟩; obtain ⟨hc1, hf1⟩ := bcell hB1; have hz1 := hB1.size; (try simp at hz1); exact hK _ (Below.trans hS (Below.mono hB1 (by first | exact Nat.le_refl _ | (simp; done) | (simp; omega) | omega))))
             | exact hK _ (by repeat first | (with_reducible first | exact Below.refl _ _ | assumption) | ((with_reducible first | refine Below.setCell ?_ ?_ _ | refine Below.alloc ?_ ?_ _); rotate_left; · first | exact Nat.le_refl _ | (simp; done) | (simp; omega) | omega) | (with_reducible first | apply Below.drew | apply below_drewN') | refine Below.trans ?_ (Below.mono (by assumption) (by first | exact Nat.le_refl _ | (simp; done) | (simp; omega) | omega)) | exact Below.refl _ _ | assumption)
         · simp [Act.put]
           done)
      | (apply StepsD.pass
         · first | (go_simp; done) | rfl
         · simp only [Act.put, List.setIfInBounds_toArray, List.set_cons_succ, List.set_cons_zero]
           rfl))
    refine StepsD.done ?_
    intro w' hS
    have hc := (bcell hS).1
    have hf := (bcell hS).2
    go_wp2
    go_end0
    exact ⟨rfl, (h.below hS hlt).set_ 4 _, only_setCell (only_of_below hS _) (.inl rfl) _⟩

abbrev NN (x : Int) : Prop := 0 ≤ x ∧ x ≤ 9223372036854775807

set_option maxRecDepth 100000 in
set_option maxHeartbeats 400000 in
theorem from_part (g : Nat) (n m a b c d : Int) (none up : Bool) (hn : NN n) (hm : NN m) (ha : NN a) (hb : NN b) (hc' : NN c) (hd : NN d)
    (w : World) (h : Blk w g 137 (ptC a b c d none up)) (big : Bool) (hbig : decide (0 < cmpI (n * b) (a * m)) = big) :
    Calls Tryz.prog 65 #[.pointer (some ⟨g, 0, Option.none⟩), .agg #[.int .i64 n, .int .i64 m]] w fun e w' => e = .returned (.tuple #[]) ∧
      Blk w' g 137 (ptC (if big then n else a) (if big then m else b) c d (none || decide (0 < cmpI ((if big then n else a) * d) (c * (if big then m else b)))) up) ∧ w.grownBy w' (some g) := by
  obtain ⟨c0, c1, c2, c3, c4, c5, hfz⟩ := blk6 h
  have f0 := hfz 0
  have f1 := hfz 1
  have hlt := h.lt
  have hne : g ≠ w.heap.size := by omega
  have HBIG := Lib.hid hbig; clear hbig
  go_enter Tryz.func65, Tryz.ntmps65
  go_wp2_with fail
  refine wp_region_b 8 (by kernel_rfl) (by kernel_rfl) ?_; simp only [List.take, List.drop]
  repeat (first
    | (apply StepsD.run
       · go_simp
         done
       · intro w' hS K hK
         have hc := (bcell hS).1; have hf := (bcell hS).2; have hz := hS.size; (try simp at hz); go_simp; (try go_bits)
         first
           | exact hK _ hS
           | (refine (compare_any _ _ _ _ hn hm ha hb _).mono ?_; rintro e w1 ⟨rfl, hB1⟩; obtain ⟨hc1, hf1⟩ := bcell hB1; have hz1 := hB1.size; (try simp at hz1); exact hK _ (Below.trans hS (Below.mono hB1 (by first | exact Nat.le_refl _ | (simp; done) | (simp; omega) | omega))))
           | exact hK _ (by repeat first | (with_reducible first | exact Below.refl _ _ | assumption) | ((with_reducible first | refine Below.setCell ?_ ?_ _ | refine Below.alloc ?_ ?_ _); rotate_left; · first | exact Nat.le_refl _ | (simp; done) | (simp; omega) | omega) | (with_reducible first | apply Below.drew | apply below_drewN') | refine Below.trans ?_ (Below.mono (by assumption) (by first | exact Nat.le_refl _ | (simp; done) | (simp; omega) | omega)) | exact Below.refl _ _ | assumption)
       · simp [Act.put]
         done)
    | (apply StepsD.pass
       · first | (go_simp; done) | rfl
       · simp only [Act.put, List.setIfInBounds_toArray, List.set_cons_succ, List.set_cons_zero]
         rfl))
  refine StepsD.done ?_
  intro w' hS; have hc := (bcell hS).1; have hf := (bcell hS).2; have hz := hS.size; (try simp at hz)
  have hblk : Blk w' g 137 (ptC a b c d none up) := (h.alloc _).below hS (by simp; omega)
  have hog : w.grownBy w' (some g) := only_of_below ((Below.refl _ _).alloc (Nat.le_refl _) _ |>.trans (hS.mono (by simp))) _
  cases big with
  | true =>
    have hq : 0 < cmpI (n * b) (a * m) := of_decide_eq_true HBIG.out
    go_wp2_with fail
    refine (empty_any g n m c d none up hn hm hc' hd _ ((hblk.set_ 0 (.int .i64 n)).set_ 1 (.int .i64 m))).mono ?_
    rintro e w2 ⟨rfl, hb2, hg2⟩
    go_wp2
    go_end0
    exact ⟨rfl, hb2, only_trans (only_setCell (only_setCell hog (.inl rfl) _) (.inl rfl) _) hg2⟩
  | false =>
    have hq : cmpI (n * b) (a * m) ≤ 0 := by have := of_decide_eq_false HBIG.out; omega
    go_wp2_with fail
    refine (empty_any g a b c d none up ha hb hc' hd _ hblk).mono ?_
    rintro e w2 ⟨rfl, hb2, hg2⟩
    go_wp2
    go_end0
    exact ⟨rfl, hb2, only_trans hog hg2⟩

set_option maxRecDepth 100000 in
set_option maxHeartbeats 400000 in
theorem to_part (g : Nat) (n m a b c d : Int) (none up : Bool) (hn : NN n) (hm : NN m) (ha : NN a) (hb : NN b) (hc' : NN c) (hd : NN d)
    (w : World) (h : Blk w g 137 (ptC a b c d none up)) (big : Bool) (hbig : decide (cmpI (n * d) (c * m) < 0) = big) :
    Calls Tryz.prog 66 #[.pointer (some ⟨g, 0, Option.none⟩), .agg #[.int .i64 n, .int .i64 m]] w fun e w' => e = .returned (.tuple #[]) ∧
      Blk w' g 137 (ptC a b (if big then n else c) (if big then m else d) (none || decide (0 < cmpI (a * (if big then m else d)) ((if big then n else c) * b))) up) ∧ w.grownBy w' (some g) := by
  obtain ⟨c0, c1, c2, c3, c4, c5, hfz⟩ := blk6 h
  have f2 := hfz 2
  have f3 := hfz 3
  have hlt := h.lt
  have hne : g ≠ w.heap.size := by omega
  have HBIG := Lib.hid hbig; clear hbig
  go_enter Tryz.func66, Tryz.ntmps66
  go_wp2_with fail
  refine wp_region_b 8 (by kernel_rfl) (by kernel_rfl) ?_; simp only [List.take, List.drop]
  repeat (first
    | (apply StepsD.run
       · go_simp
         done
       · intro w' hS K hK
         have hc := (bcell hS).1; have hf := (bcell hS).2; have hz := hS.size; (try simp at hz); go_simp; (try go_bits)
         first
           | exact hK _ hS
           | (refine (compare_any _ _ _ _ hn hm hc' hd _).mono ?_; rintro e w1 ⟨rfl, hB1⟩; obtain ⟨hc1, hf1⟩ := bcell hB1; have hz1 := hB1.size; (try simp at hz1); exact hK _ (Below.trans hS (Below.mono hB1 (by first | exact Nat.le_refl _ | (simp; done) | (simp; omega) | omega))))
           | exact hK _ (by repeat first | (with_reducible first | exact Below.refl _ _ | assumption) | ((with_reducible first | refine Below.setCell ?_ ?_ _ | refine Below.alloc ?_ ?_ _); rotate_left; · first | exact Nat.le_refl _ | (simp; done) | (simp; omega) | omega) | (with_reducible first | apply Below.drew | apply below_drewN') | refine Below.trans ?_ (Below.mono (by assumption) (by first | exact Nat.le_refl _ | (simp; done) | (simp; omega) | omega)) | exact Below.refl _ _ | assumption)
       · simp [Act.put]
         done)
    | (apply StepsD.pass
       · first | (go_simp; done) | rfl
       · simp only [Act.put, List.setIfInBounds_toArray, List.set_cons_succ, List.set_cons_zero]
         rfl))
  refine StepsD.done ?_
  intro w' hS; have hc := (bcell hS).1; have hf := (bcell hS).2; have hz := hS.size; (try simp at hz)
  have hblk : Blk w' g 137 (ptC a b c d none up) := (h.alloc _).below hS (by simp; omega)
  have hog : w.grownBy w' (some g) := only_of_below ((Below.refl _ _).alloc (Nat.le_refl _) _ |>.trans (hS.mono (by simp))) _
  cases big with
  | true =>
    have hq : cmpI (n * d) (c * m) < 0 := of_decide_eq_true HBIG.out
    go_wp2_with fail
    refine (empty_any g a b n m none up ha hb hn hm _ ((hblk.set_ 2 (.int .i64 n)).set_ 3 (.int .i64 m))).mono ?_
    rintro e w2 ⟨rfl, hb2, hg2⟩
    go_wp2
    go_end0
    exact ⟨rfl, hb2, only_trans (only_setCell (only_setCell hog (.inl rfl) _) (.inl rfl) _) hg2⟩
  | false =>
    have hq : 0 ≤ cmpI (n * d) (c * m) := by have := of_decide_eq_false HBIG.out; omega
    go_wp2_with fail
    refine (empty_any g a b c d none up ha hb hc' hd _ hblk).mono ?_
    rintro e w2 ⟨rfl, hb2, hg2⟩
    go_wp2
    go_end0
    exact ⟨rfl, hb2, only_trans hog hg2⟩
end Go.Proofs.YtaekcfancfoccaaGreatDoor
