/- Contracts of the small functions of the packages flaw and couplantbase: ranges, divisors, quotients, names. -/
import Derived.Test.YtidgeagpgllkeaaProg
import Derived.Test.YtidgeagpgllkeaaFaP
import Derived.WalkKit
import Derived.WalkSpells
import Derived.WalkLawsBesides
import Derived.Lib.Hide
import Derived.BigQuiet
import Derived.Deep.QuietTactic
namespace Go.Proofs.Ytidgeagpgllkeaa
open Go.RowKit

set_option maxHeartbeats 400000 in
theorem within_any (n lo hi : Int) (w : World) :
    Calls Try.prog 17 #[.int .i64 n, .int .i64 lo, .int .i64 hi] w fun e w' => e = .returned (.bool (wi n lo hi)) ∧ w = w' := by
  go_enter Try.func17, Try.ntmps17
  go_wp2
  all_goals
    go_ret
    exact ⟨by simp [wi, *]; try omega, rfl⟩

set_option maxHeartbeats 400000 in
theorem bWithin_any (n lo hi : Int) (w : World) :
    Calls Try.prog 5 #[.int .i64 n, .int .i64 lo, .int .i64 hi] w fun e w' => e = .returned (.bool (wi n lo hi)) ∧ w = w' := by
  go_enter Try.func5, Try.ntmps5
  go_wp2
  all_goals
    go_ret
    exact ⟨by simp [wi, *]; try omega, rfl⟩

set_option maxHeartbeats 400000 in
theorem small_any (n m : Int) (h0 : 0 ≤ m) (h1 : m ≤ 1000000000000) (w : World) :
    Calls Try.prog 55 #[.int .i64 n, .int .i64 m] w fun e w' => e = .returned (.bool (wi n (-m) m)) ∧ w = w' := by
  go_enter Try.func55, Try.ntmps55
  go_wp2_with (go_at_call 17; refine (within_any _ _ _ _).mono ?_; rintro e w' ⟨rfl, rfl⟩)
  go_ret
  exact ⟨rfl, rfl⟩

theorem below_drewN' {B : Nat} {a w : World} (h : Below B a w) (n : Nat) : Below B a (w.drewN n) := ⟨h.os, h.tape, h.output, h.size, h.block⟩

theorem bcell {W w1 : World} (hb : Below W.heap.size W w1) : (∀ b o, b < W.heap.size → w1.cell? ⟨b, o, none⟩ = W.cell? ⟨b, o, none⟩) ∧ (∀ b o, b < W.heap.size → w1.frozen? ⟨b, o, none⟩ = W.frozen? ⟨b, o, none⟩) :=
  ⟨fun b o h => hb.cell (p := ⟨b, o, none⟩) h, fun b o h => hb.frozen (p := ⟨b, o, none⟩) h⟩

/-! ### quotients -/
theorem tm_bd (n d : Int) (hd : 0 < d) : -d < n.tmod d ∧ n.tmod d < d := by
  have := Int.natAbs_tmod n d
  have h2 : n.natAbs % d.natAbs < d.natAbs := Nat.mod_lt _ (by omega)
  omega
theorem floor_neg (n d : Int) (hd : 0 < d) (h : n.tmod d < 0) : n / d = n.tdiv d - 1 := by
  have hb := tm_bd n d hd
  have he := Int.mul_tdiv_add_tmod n d
  exact (Int.ediv_emod_unique (r := n.tmod d + d) hd |>.2 ⟨by rw [Int.mul_sub]; omega, by omega, by omega⟩).1
theorem floor_pos (n d : Int) (hd : 0 < d) (h : 0 ≤ n.tmod d) : n / d = n.tdiv d := by
  have hb := tm_bd n d hd
  have he := Int.mul_tdiv_add_tmod n d
  exact (Int.ediv_emod_unique (r := n.tmod d) hd |>.2 ⟨by omega, by omega, by omega⟩).1
theorem mod_neg (n d : Int) (hd : 0 < d) (h : n.tmod d < 0) : n % d = n.tmod d + d := by
  have hb := tm_bd n d hd
  have he := Int.mul_tdiv_add_tmod n d
  exact (Int.ediv_emod_unique (q := n.tdiv d - 1) hd |>.2 ⟨by rw [Int.mul_sub]; omega, by omega, by omega⟩).2
theorem mod_pos (n d : Int) (hd : 0 < d) (h : 0 ≤ n.tmod d) : n % d = n.tmod d := by
  have hb := tm_bd n d hd
  have he := Int.mul_tdiv_add_tmod n d
  exact (Int.ediv_emod_unique (q := n.tdiv d) hd |>.2 ⟨by omega, by omega, by omega⟩).2
theorem td_bd (n d : Int) : -(n.natAbs : Int) ≤ n.tdiv d ∧ n.tdiv d ≤ n.natAbs := by
  have h : (n.tdiv d).natAbs = n.natAbs / d.natAbs := Int.natAbs_tdiv n d
  have := Nat.div_le_self n.natAbs d.natAbs
  omega

/-! ### the greatest common divisor -/
theorem gcd_zero_max (p : Int) : ((Int.gcd p 0 : Nat) : Int) = max p (-p) := by
  simp
  omega
theorem gcd_step (p q : Int) : Int.gcd q (p.tmod q) = Int.gcd p q := by
  simp only [Int.gcd, Int.natAbs_tmod]
  rw [Nat.gcd_comm q.natAbs, ← Nat.gcd_rec, Nat.gcd_comm]
theorem tmod_bound (p q : Int) (hq : q ≠ 0) : (p.tmod q).natAbs < q.natAbs := by
  rw [Int.natAbs_tmod]; exact Nat.mod_lt _ (by omega)




end Go.Proofs.Ytidgeagpgllkeaa
