/- Contracts of the small functions of the packages cover and couplantbase: ranges, divisors, quotients, names. -/
import Derived.Test.YtfgeipapmdhneaaDoorProg
import Derived.WalkKit
import Derived.WalkSpells
import Derived.WalkLawsBesides
import Derived.Lib.Hide
import Derived.BigQuiet
import Derived.Deep.QuietTactic
import Derived.Test.YtfgeipapmdhneaaDoorZsCvQ
namespace Go.Proofs.YtfgeipapmdhneaaDoor
open Go.RowKit

set_option maxHeartbeats 400000 in
theorem within_any (n lo hi : Int) (w : World) :
    Calls Tryd.prog 47 #[.int .i64 n, .int .i64 lo, .int .i64 hi] w fun e w' => e = .returned (.bool (wi n lo hi)) ∧ w = w' := by
  go_enter Tryd.func47, Tryd.ntmps47
  go_wp2
  all_goals
    go_ret
    exact ⟨by simp [wi, *]; try omega, rfl⟩

set_option maxHeartbeats 400000 in
theorem bWithin_any (n lo hi : Int) (w : World) :
    Calls Tryd.prog 16 #[.int .i64 n, .int .i64 lo, .int .i64 hi] w fun e w' => e = .returned (.bool (wi n lo hi)) ∧ w = w' := by
  go_enter Tryd.func16, Tryd.ntmps16
  go_wp2
  all_goals
    go_ret
    exact ⟨by simp [wi, *]; try omega, rfl⟩

set_option maxHeartbeats 400000 in
theorem small_any (n m : Int) (h0 : 0 ≤ m) (h1 : m ≤ 1000000000000) (w : World) :
    Calls Tryd.prog 34 #[.int .i64 n, .int .i64 m] w fun e w' => e = .returned (.bool (wi n (-m) m)) ∧ w = w' := by
  go_enter Tryd.func34, Tryd.ntmps34
  go_wp2_with (go_at_call 47; refine (within_any _ _ _ _).mono ?_; rintro e w' ⟨rfl, rfl⟩)
  go_ret
  exact ⟨rfl, rfl⟩

theorem below_drewN' {B : Nat} {a w : World} (h : Below B a w) (n : Nat) : Below B a (w.drewN n) := ⟨h.os, h.tape, h.output, h.size, h.block⟩

theorem bcell {W w1 : World} (hb : Below W.heap.size W w1) : (∀ b o, b < W.heap.size → w1.cell? ⟨b, o, none⟩ = W.cell? ⟨b, o, none⟩) ∧ (∀ b o, b < W.heap.size → w1.frozen? ⟨b, o, none⟩ = W.frozen? ⟨b, o, none⟩) :=
  ⟨fun b o h => hb.cell (p := ⟨b, o, none⟩) h, fun b o h => hb.frozen (p := ⟨b, o, none⟩) h⟩

/-! ### quotients -/
theorem tm_bd (n d : Int) (hd : 0 < d) : -d < n.tmod d ∧ n.tmod d < d := by
  have := Int.natAbs_tmod n d
  have h2 : n.natAbs % d.natAbs < d.natAbs := Nat.mod_lt _ (by omega)
  omega
theorem mod_neg (n d : Int) (hd : 0 < d) (h : n.tmod d < 0) : n % d = n.tmod d + d := by
  have hb := tm_bd n d hd
  have he := Int.mul_tdiv_add_tmod n d
  exact (Int.ediv_emod_unique (q := n.tdiv d - 1) hd |>.2 ⟨by rw [Int.mul_sub]; omega, by omega, by omega⟩).2
theorem mod_pos (n d : Int) (hd : 0 < d) (h : 0 ≤ n.tmod d) : n % d = n.tmod d := by
  have hb := tm_bd n d hd
  have he := Int.mul_tdiv_add_tmod n d
  exact (Int.ediv_emod_unique (q := n.tdiv d) hd |>.2 ⟨by omega, by omega, by omega⟩).2
theorem td_bd (n d : Int) : -(n.natAbs : Int) ≤ n.tdiv d ∧ n.tdiv d ≤ n.natAbs := by
  have h : (n.tdiv d).natAbs = n.natAbs / d.natAbs := Int.natAbs_tdiv n d
  have := Nat.div_le_self n.natAbs d.natAbs
  omega

/-! ### the greatest common divisor -/
theorem gcd_zero_max (p : Int) : ((Int.gcd p 0 : Nat) : Int) = max p (-p) := by
  simp
  omega
theorem gcd_step (p q : Int) : Int.gcd q (p.tmod q) = Int.gcd p q := by
  simp only [Int.gcd, Int.natAbs_tmod]
  rw [Nat.gcd_comm q.natAbs, ← Nat.gcd_rec, Nat.gcd_comm]
theorem tmod_bound (p q : Int) (hq : q ≠ 0) : (p.tmod q).natAbs < q.natAbs := by
  rw [Int.natAbs_tmod]; exact Nat.mod_lt _ (by omega)
set_option maxHeartbeats 400000 in
theorem divisor_any (a b : Int) (ha : -9223372036854775808 ≤ a ∧ a ≤ 9223372036854775807) (hb : -9223372036854775807 ≤ b ∧ b ≤ 9223372036854775807) (hab : b = 0 → -9223372036854775807 ≤ a) (w : World) :
    Calls Tryd.prog 65 #[.int .i64 a, .int .i64 b] w fun e w' => e = .returned (.int .i64 (Int.gcd a b)) ∧ Below w.heap.size w w' := by
  have HAB := Lib.hid hab; clear hab
  go_enter Tryd.func65, Tryd.ntmps65
  go_wp2
  go_loopw [0, 1] (fun x y wr => ∃ p q : Int, x = .int .i64 p ∧ y = .int .i64 q ∧ (-9223372036854775808 ≤ p ∧ p ≤ 9223372036854775807) ∧ (-9223372036854775807 ≤ q ∧ q ≤ 9223372036854775807) ∧ Hid (q = 0 → -9223372036854775807 ≤ p) ∧ Int.gcd p q = Int.gcd a b ∧ Below w.heap.size w wr) (fun _ y _ => (intOf y).natAbs)
  case atStart => exact ⟨a, b, rfl, rfl, ha, hb, HAB, rfl, Below.refl _ _⟩
  case round =>
    obtain ⟨p, q, rfl, rfl, hp, hq, hpq, hg, hB⟩ := hrel
    have HG := Lib.hid hg; clear hg
    by_cases h0 : q = 0
    · subst h0
      have hp' := hpq.out rfl
      have HE : Hid ((Int.gcd a b : Int) = max p (-p)) := by rw [← HG.out]; exact gcd_zero_max p
      go_wp2
      all_goals
        go_ret
        refine ⟨?_, hB⟩
        rw [HE.out]
        show Ending.returned (Value.int .i64 _) = _
        congr 2
        omega
    · have h0' : (q != 0) = true := by simpa using h0
      have h0'' : (q == 0) = false := by simpa using h0
      have hm := tmod_bound p q h0
      go_wp2
      go_quiet (fail)
      go_wp2
      refine ⟨⟨q, p.tmod q, rfl, rfl, by omega, by omega, fun _ => by omega, by rw [← HG.out]; exact gcd_step p q, below_drewN' hB _⟩, by show (p.tmod q).natAbs < q.natAbs; exact hm⟩

set_option maxHeartbeats 400000 in
theorem mod_any (n d : Int) (hd : 1 ≤ d ∧ d ≤ 4000000000000000000) (w : World) :
    Calls Tryd.prog 9 #[.int .i64 n, .int .i64 d] w fun e w' => e = .returned (.int .i64 (n % d)) ∧ w = w' := by
  have h0 : (d == 0) = false := by simp; omega
  have hb := tm_bd n d (by omega)
  go_enter Tryd.func9, Tryd.ntmps9
  go_wp2
  · go_ret
    exact ⟨by rw [mod_neg n d (by omega) (by assumption)]; rfl, rfl⟩
  · go_ret
    exact ⟨by rw [mod_pos n d (by omega) (by assumption)]; rfl, rfl⟩

end Go.Proofs.YtfgeipapmdhneaaDoor
