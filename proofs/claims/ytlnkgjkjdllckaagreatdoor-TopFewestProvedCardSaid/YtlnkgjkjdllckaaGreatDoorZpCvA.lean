/- Contracts of the small functions of the packages cover and couplantbase: ranges, divisors, quotients, names. -/
import Derived.Test.YtlnkgjkjdllckaaGreatDoorProg
import Derived.WalkKit
import Derived.WalkSpells
import Derived.WalkLawsBesides
import Derived.Lib.Hide
import Derived.BigQuiet
import Derived.Deep.QuietTactic
import Derived.Test.YtlnkgjkjdllckaaGreatDoorZpCvQ
namespace Go.Proofs.YtlnkgjkjdllckaaGreatDoor
open Go.RowKit

set_option maxHeartbeats 400000 in
theorem within_any (n lo hi : Int) (w : World) :
    Calls Tryz.prog 60 #[.int .i64 n, .int .i64 lo, .int .i64 hi] w fun e w' => e = .returned (.bool (wi n lo hi)) ∧ w = w' := by
  go_enter Tryz.func60, Tryz.ntmps60
  go_wp2
  all_goals
    go_ret
    exact ⟨by simp [wi, *]; try omega, rfl⟩

set_option maxHeartbeats 400000 in
theorem bWithin_any (n lo hi : Int) (w : World) :
    Calls Tryz.prog 42 #[.int .i64 n, .int .i64 lo, .int .i64 hi] w fun e w' => e = .returned (.bool (wi n lo hi)) ∧ w = w' := by
  go_enter Tryz.func42, Tryz.ntmps42
  go_wp2
  all_goals
    go_ret
    exact ⟨by simp [wi, *]; try omega, rfl⟩

set_option maxHeartbeats 400000 in
theorem small_any (n m : Int) (h0 : 0 ≤ m) (h1 : m ≤ 1000000000000) (w : World) :
    Calls Tryz.prog 68 #[.int .i64 n, .int .i64 m] w fun e w' => e = .returned (.bool (wi n (-m) m)) ∧ w = w' := by
  go_enter Tryz.func68, Tryz.ntmps68
  go_wp2_with (go_at_call 60; refine (within_any _ _ _ _).mono ?_; rintro e w' ⟨rfl, rfl⟩)
  go_ret
  exact ⟨rfl, rfl⟩

theorem below_drewN' {B : Nat} {a w : World} (h : Below B a w) (n : Nat) : Below B a (w.drewN n) := ⟨h.os, h.tape, h.output, h.size, h.block⟩

theorem bcell {W w1 : World} (hb : Below W.heap.size W w1) : (∀ b o, b < W.heap.size → w1.cell? ⟨b, o, none⟩ = W.cell? ⟨b, o, none⟩) ∧ (∀ b o, b < W.heap.size → w1.frozen? ⟨b, o, none⟩ = W.frozen? ⟨b, o, none⟩) :=
  ⟨fun b o h => hb.cell (p := ⟨b, o, none⟩) h, fun b o h => hb.frozen (p := ⟨b, o, none⟩) h⟩

/-! ### quotients -/
theorem td_bd (n d : Int) : -(n.natAbs : Int) ≤ n.tdiv d ∧ n.tdiv d ≤ n.natAbs := by
  have h : (n.tdiv d).natAbs = n.natAbs / d.natAbs := Int.natAbs_tdiv n d
  have := Nat.div_le_self n.natAbs d.natAbs
  omega

/-! ### the greatest common divisor -/
theorem gcd_zero_max (p : Int) : ((Int.gcd p 0 : Nat) : Int) = max p (-p) := by
  simp
  omega
theorem gcd_step (p q : Int) : Int.gcd q (p.tmod q) = Int.gcd p q := by
  simp only [Int.gcd, Int.natAbs_tmod]
  rw [Nat.gcd_comm q.natAbs, ← Nat.gcd_rec, Nat.gcd_comm]
theorem tmod_bound (p q : Int) (hq : q ≠ 0) : (p.tmod q).natAbs < q.natAbs := by
  rw [Int.natAbs_tmod]; exact Nat.mod_lt _ (by omega)
set_option maxHeartbeats 400000 in
theorem divisor_any (a b : Int) (ha : -9223372036854775808 ≤ a ∧ a ≤ 9223372036854775807) (hb : -9223372036854775807 ≤ b ∧ b ≤ 9223372036854775807) (hab : b = 0 → -9223372036854775807 ≤ a) (w : World) :
    Calls Tryz.prog 90 #[.int .i64 a, .int .i64 b] w fun e w' => e = .returned (.int .i64 (Int.gcd a b)) ∧ Below w.heap.size w w' := by
  have HAB := Lib.hid hab; clear hab
  go_enter Tryz.func90, Tryz.ntmps90
  go_wp2
  go_loopw [0, 1] (fun x y wr => ∃ p q : Int, x = .int .i64 p ∧ y = .int .i64 q ∧ (-9223372036854775808 ≤ p ∧ p ≤ 9223372036854775807) ∧ (-9223372036854775807 ≤ q ∧ q ≤ 9223372036854775807) ∧ Hid (q = 0 → -9223372036854775807 ≤ p) ∧ Int.gcd p q = Int.gcd a b ∧ Below w.heap.size w wr) (fun _ y _ => (intOf y).natAbs)
  case atStart => exact ⟨a, b, rfl, rfl, ha, hb, HAB, rfl, Below.refl _ _⟩
  case round =>
    obtain ⟨p, q, rfl, rfl, hp, hq, hpq, hg, hB⟩ := hrel
    have HG := Lib.hid hg; clear hg
    by_cases h0 : q = 0
    · subst h0
      have hp' := hpq.out rfl
      have HE : Hid ((Int.gcd a b : Int) = max p (-p)) := by rw [← HG.out]; exact gcd_zero_max p
      go_wp2
      all_goals
        go_ret
        refine ⟨?_, hB⟩
        rw [HE.out]
        show Ending.returned (Value.int .i64 _) = _
        congr 2
        omega
    · have h0' : (q != 0) = true := by simpa using h0
      have h0'' : (q == 0) = false := by simpa using h0
      have hm := tmod_bound p q h0
      go_wp2
      go_quiet (fail)
      go_wp2
      refine ⟨⟨q, p.tmod q, rfl, rfl, by omega, by omega, fun _ => by omega, by rw [← HG.out]; exact gcd_step p q, below_drewN' hB _⟩, by show (p.tmod q).natAbs < q.natAbs; exact hm⟩
set_option maxHeartbeats 400000 in
theorem size_any (n : Int) (h : -9223372036854775807 ≤ n ∧ n ≤ 9223372036854775807) (w : World) :
    Calls Tryz.prog 123 #[.int .i64 n] w fun e w' => e = .returned (.int .i64 (max n (-n))) ∧ w = w' := by
  go_enter Tryz.func123, Tryz.ntmps123
  go_wp2
  all_goals
    go_ret
    refine ⟨?_, rfl⟩
    show Ending.returned (Value.int .i64 _) = _
    congr 2
    omega

set_option maxHeartbeats 400000 in
theorem gcd_any (a b : Int) (ha : -9223372036854775808 ≤ a ∧ a ≤ 9223372036854775807) (hb : -9223372036854775807 ≤ b ∧ b ≤ 9223372036854775807) (hab : b = 0 → -9223372036854775807 ≤ a) (w : World) :
    Calls Tryz.prog 116 #[.int .i64 a, .int .i64 b] w fun e w' => e = .returned (.int .i64 (Int.gcd a b)) ∧ Below w.heap.size w w' := by
  have HAB := Lib.hid hab; clear hab
  go_enter Tryz.func116, Tryz.ntmps116
  go_wp2
  go_loopw [0, 1] (fun x y wr => ∃ p q : Int, x = .int .i64 p ∧ y = .int .i64 q ∧ (-9223372036854775808 ≤ p ∧ p ≤ 9223372036854775807) ∧ (-9223372036854775807 ≤ q ∧ q ≤ 9223372036854775807) ∧ Hid (q = 0 → -9223372036854775807 ≤ p) ∧ Int.gcd p q = Int.gcd a b ∧ Below w.heap.size w wr) (fun _ y _ => (intOf y).natAbs)
  case atStart => exact ⟨a, b, rfl, rfl, ha, hb, HAB, rfl, Below.refl _ _⟩
  case round =>
    obtain ⟨p, q, rfl, rfl, hp, hq, hpq, hg, hB⟩ := hrel
    have HG := Lib.hid hg; clear hg
    by_cases h0 : q = 0
    · subst h0
      have hp' := hpq.out rfl
      have HE : Hid ((Int.gcd a b : Int) = max p (-p)) := by rw [← HG.out]; exact gcd_zero_max p
      go_wp2_with (go_at_call 123; refine (size_any _ (by omega) _).mono ?_; rintro e w' ⟨rfl, rfl⟩)
      go_ret
      exact ⟨by rw [HE.out]; rfl, hB⟩
    · have h0' : (q != 0) = true := by simpa using h0
      have h0'' : (q == 0) = false := by simpa using h0
      have hm := tmod_bound p q h0
      go_wp2
      go_quiet (fail)
      go_wp2
      refine ⟨⟨q, p.tmod q, rfl, rfl, by omega, by omega, fun _ => by omega, by rw [← HG.out]; exact gcd_step p q, below_drewN' hB _⟩, by show (p.tmod q).natAbs < q.natAbs; exact hm⟩

end Go.Proofs.YtlnkgjkjdllckaaGreatDoor
