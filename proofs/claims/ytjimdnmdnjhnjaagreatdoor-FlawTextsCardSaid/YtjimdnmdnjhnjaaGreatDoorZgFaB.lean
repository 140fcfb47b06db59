/- Contracts of the small functions of the packages flaw and couplantbase: ranges, divisors, quotients, names. Contracts of the package flaw: the first error, ranges, roots, the depth of a tip, the height between two tips. Contracts of the package flaw: roots, ranges, the depth of a tip, the height between two tips. -/
import Derived.Test.YtjimdnmdnjhnjaaGreatDoorProg
import Derived.WalkKit
import Derived.WalkSpells
import Derived.WalkLawsBesides
import Derived.Lib.Hide
import Derived.BigQuiet
import Derived.Deep.QuietTactic
import Derived.Laws.Externs
import Derived.Test.YtjimdnmdnjhnjaaGreatDoorZgFaP
import Derived.Test.YtjimdnmdnjhnjaaGreatDoorZgRgW
namespace Go.Proofs.YtjimdnmdnjhnjaaGreatDoor
open Go.RowKit

set_option maxHeartbeats 400000 in
theorem within_any (n lo hi : Int) (w : World) :
    Calls Tryz.prog 38 #[.int .i64 n, .int .i64 lo, .int .i64 hi] w fun e w' => e = .returned (.bool (wi n lo hi)) ∧ w = w' := by
  go_enter Tryz.func38, Tryz.ntmps38
  go_wp2
  all_goals
    go_ret
    exact ⟨by simp [wi, *]; try omega, rfl⟩

set_option maxHeartbeats 400000 in
theorem bWithin_any (n lo hi : Int) (w : World) :
    Calls Tryz.prog 30 #[.int .i64 n, .int .i64 lo, .int .i64 hi] w fun e w' => e = .returned (.bool (wi n lo hi)) ∧ w = w' := by
  go_enter Tryz.func30, Tryz.ntmps30
  go_wp2
  all_goals
    go_ret
    exact ⟨by simp [wi, *]; try omega, rfl⟩

set_option maxHeartbeats 400000 in
theorem small_any (n m : Int) (h0 : 0 ≤ m) (h1 : m ≤ 1000000000000) (w : World) :
    Calls Tryz.prog 66 #[.int .i64 n, .int .i64 m] w fun e w' => e = .returned (.bool (wi n (-m) m)) ∧ w = w' := by
  go_enter Tryz.func66, Tryz.ntmps66
  go_wp2_with (go_at_call 38; refine (within_any _ _ _ _).mono ?_; rintro e w' ⟨rfl, rfl⟩)
  go_ret
  exact ⟨rfl, rfl⟩

theorem below_drewN' {B : Nat} {a w : World} (h : Below B a w) (n : Nat) : Below B a (w.drewN n) := ⟨h.os, h.tape, h.output, h.size, h.block⟩

theorem bcell {W w1 : World} (hb : Below W.heap.size W w1) : (∀ b o, b < W.heap.size → w1.cell? ⟨b, o, none⟩ = W.cell? ⟨b, o, none⟩) ∧ (∀ b o, b < W.heap.size → w1.frozen? ⟨b, o, none⟩ = W.frozen? ⟨b, o, none⟩) :=
  ⟨fun b o h => hb.cell (p := ⟨b, o, none⟩) h, fun b o h => hb.frozen (p := ⟨b, o, none⟩) h⟩

/-! ### quotients -/

/-! ### the greatest common divisor -/
theorem gcd_zero_max (p : Int) : ((Int.gcd p 0 : Nat) : Int) = max p (-p) := by
  simp
  omega
theorem gcd_step (p q : Int) : Int.gcd q (p.tmod q) = Int.gcd p q := by
  simp only [Int.gcd, Int.natAbs_tmod]
  rw [Nat.gcd_comm q.natAbs, ← Nat.gcd_rec, Nat.gcd_comm]
theorem tmod_bound (p q : Int) (hq : q ≠ 0) : (p.tmod q).natAbs < q.natAbs := by
  rw [Int.natAbs_tmod]; exact Nat.mod_lt _ (by omega)
set_option maxHeartbeats 400000 in
theorem divisor_any (a b : Int) (ha : -9223372036854775808 ≤ a ∧ a ≤ 9223372036854775807) (hb : -9223372036854775807 ≤ b ∧ b ≤ 9223372036854775807) (hab : b = 0 → -9223372036854775807 ≤ a) (w : World) :
    Calls Tryz.prog 85 #[.int .i64 a, .int .i64 b] w fun e w' => e = .returned (.int .i64 (Int.gcd a b)) ∧ Below w.heap.size w w' := by
  have HAB := Lib.hid hab; clear hab
  go_enter Tryz.func85, Tryz.ntmps85
  go_wp2
  go_loopw [0, 1] (fun x y wr => ∃ p q : Int, x = .int .i64 p ∧ y = .int .i64 q ∧ (-9223372036854775808 ≤ p ∧ p ≤ 9223372036854775807) ∧ (-9223372036854775807 ≤ q ∧ q ≤ 9223372036854775807) ∧ Hid (q = 0 → -9223372036854775807 ≤ p) ∧ Int.gcd p q = Int.gcd a b ∧ Below w.heap.size w wr) (fun _ y _ => (intOf y).natAbs)
  case atStart => exact ⟨a, b, rfl, rfl, ha, hb, HAB, rfl, Below.refl _ _⟩
  case round =>
    obtain ⟨p, q, rfl, rfl, hp, hq, hpq, hg, hB⟩ := hrel
    have HG := Lib.hid hg; clear hg
    by_cases h0 : q = 0
    · subst h0
      have hp' := hpq.out rfl
      have HE : Hid ((Int.gcd a b : Int) = max p (-p)) := by rw [← HG.out]; exact gcd_zero_max p
      go_wp2
      all_goals
        go_ret
        refine ⟨?_, hB⟩
        rw [HE.out]
        show Ending.returned (Value.int .i64 _) = _
        congr 2
        omega
    · have h0' : (q != 0) = true := by simpa using h0
      have h0'' : (q == 0) = false := by simpa using h0
      have hm := tmod_bound p q h0
      go_wp2
      go_quiet (fail)
      go_wp2
      refine ⟨⟨q, p.tmod q, rfl, rfl, by omega, by omega, fun _ => by omega, by rw [← HG.out]; exact gcd_step p q, below_drewN' hB _⟩, by show (p.tmod q).natAbs < q.natAbs; exact hm⟩
set_option maxHeartbeats 400000 in
theorem size_any (n : Int) (h : -9223372036854775807 ≤ n ∧ n ≤ 9223372036854775807) (w : World) :
    Calls Tryz.prog 69 #[.int .i64 n] w fun e w' => e = .returned (.int .i64 (max n (-n))) ∧ w = w' := by
  go_enter Tryz.func69, Tryz.ntmps69
  go_wp2
  all_goals
    go_ret
    refine ⟨?_, rfl⟩
    show Ending.returned (Value.int .i64 _) = _
    congr 2
    omega

end Go.Proofs.YtjimdnmdnjhnjaaGreatDoor

namespace Go.Proofs.YtjimdnmdnjhnjaaGreatDoor
open Go.RowKit

set_option maxHeartbeats 400000 in
theorem unless_any (b : Bool) (e : Int) (w : World) : Calls Tryz.prog 37 #[.bool b, .int .i64 e] w fun r w' => r = .returned (.int .i64 (unlessE b e)) ∧ w = w' := by
  cases b
  all_goals
    go_enter Tryz.func37, Tryz.ntmps37
    go_wp2
    go_ret
    exact ⟨rfl, rfl⟩

set_option maxHeartbeats 400000 in
theorem levelErr_any (n : Int) (w : World) : Calls Tryz.prog 68 #[.int .i64 n] w fun r w' => r = .returned (.int .i64 (levelE n)) ∧ w = w' := by
  go_enter Tryz.func68, Tryz.ntmps68
  go_wp2_with (first
    | (go_at_call 38; refine (within_any _ _ _ _).mono ?_; rintro e w1 ⟨rfl, rfl⟩)
    | (go_at_call 37; refine (unless_any _ _ _).mono ?_; rintro e w1 ⟨rfl, rfl⟩))
  go_ret
  exact ⟨rfl, rfl⟩

theorem firstE_take (es : List Int) (k : Nat) (h : ∀ j, j < k → es[j]?.getD 0 = 0) : firstE es = firstE (es.drop k) := by
  induction k generalizing es with
  | zero => rfl
  | succ k ih =>
    cases es with
    | nil => rfl
    | cons e l =>
      have h0 : e = 0 := h 0 (by omega)
      rw [List.drop_succ_cons, ← ih l fun j hj => h (j + 1) (by omega)]
      show (if e = 0 then firstE l else e) = _
      rw [if_pos h0]

set_option maxHeartbeats 400000 in
theorem first_any (es : List Int) (b off cap : Nat) (w : World) (hl : es.length ≤ 1000) (hc : ∀ j, j < es.length → w.cell? ⟨b, off + j, none⟩ = some (.int .i64 (es[j]?.getD 0))) :
    Calls Tryz.prog 39 #[.slice (some ⟨b, off, none⟩) es.length cap] w fun e w' => e = .returned (.int .i64 (firstE es)) ∧ w = w' := by
  go_enter Tryz.func39, Tryz.ntmps39
  go_wp2
  go_loop [7] (fun i => ∃ k : Nat, k ≤ es.length ∧ i = .int .i64 k ∧ Hid (∀ j, j < k → es[j]?.getD 0 = 0)) (fun i => es.length - (intOf i).toNat)
  case atStart => exact ⟨0, Nat.zero_le _, rfl, Lib.hid (fun j hj => absurd hj (by omega))⟩
  case round =>
    obtain ⟨k, hk, rfl, H⟩ := hrel
    by_cases hlt : k < es.length
    · have hck := hc k hlt
      obtain ⟨x, hx⟩ : ∃ x, es[k]?.getD 0 = x := ⟨_, rfl⟩
      rw [hx] at hck
      have HX := Lib.hid hx; clear hx
      have HC := Lib.hid hc; clear hc
      by_cases h0 : x = 0
      · subst h0
        go_wp2
        go_round
        case rel => exact ⟨k + 1, by omega, by go_num, Lib.hid (fun j hj => by by_cases hjk : j = k; (rw [hjk]; exact HX.out); exact H.out j (by omega))⟩
        case measure => simp [intOf]; omega
      · have h0' : (x != 0) = true := by simpa using h0
        have HE : Hid (firstE es = x) := Lib.hid (by
          rw [firstE_take es k H.out, List.drop_eq_getElem_cons hlt]
          have : es[k] = x := by have := HX.out; rw [List.getElem?_eq_getElem hlt] at this; exact this
          unfold firstE; rw [this, if_neg h0])
        go_wp2
        go_ret
        exact ⟨by rw [HE.out]; rfl, rfl⟩
    · obtain rfl : k = es.length := by omega
      have HE : Hid (firstE es = 0) := Lib.hid (by rw [firstE_take es es.length H.out, List.drop_length]; rfl)
      go_wp2
      go_ret
      exact ⟨by rw [HE.out]; rfl, rfl⟩
end Go.Proofs.YtjimdnmdnjhnjaaGreatDoor

namespace Go.Proofs.YtjimdnmdnjhnjaaGreatDoor
open Go.RowKit

theorem sqrt_run (x r : Nat) (h : Ieee.double.sqrt x = some r) (w : World) : (callFunc 109 #[.float .f64 x]).run Tryz.prog w = .ok (.value (.float .f64 r)) w := by
  rw [run_callFunc_extern Tryz.func109 (by kernel_rfl) (by kernel_rfl) (by kernel_rfl) (show Extern.find _ = some Extern.MathSqrt.sqrt by kernel_rfl)]
  show Result.andThen ((match Ieee.double.sqrt x with | some r => pure (.float .f64 r) | none => do pure (.float .f64 (← choose (.nanBits .f64 x x))) : Sem Value).run Tryz.prog w) _ = _
  rw [h]
  rfl
set_option maxHeartbeats 400000 in
set_option maxRecDepth 100000 in
theorem mathSqrt_any (x r : Nat) (h : Ieee.double.sqrt x = some r) (w : World) : Calls Tryz.prog 74 #[.float .f64 x] w fun e w' => e = .returned (.float .f64 r) ∧ w = w' := by
  have hr := sqrt_run x r h
  clear h
  go_enter Tryz.func74, Tryz.ntmps74
  go_wp2
  go_ret
  exact ⟨rfl, rfl⟩

theorem toInt_run (r k : Nat) (h : (Ieee.double.read r).toInt .zero = some (k : Int)) (hk : k ≤ 2147483648) (w : World) : (convert 139 3 (.float .f64 r)).run Tryz.prog w = .ok (.int .i64 k) w := by
  have e : (convert 139 3 (.float .f64 r)).run Tryz.prog w = (Conv.floatToInt .f64 r .i64).run Tryz.prog w := by
    simp only [convert, Sem.run_bind, run_underlying Tryz.underlying139, run_underlying Tryz.underlying3, Result.andThen]
  rw [e]
  unfold Conv.floatToInt
  have h' : (FloatKind.f64.decode r).toInt .zero = some (k : Int) := h
  rw [h']
  have h1 : IntKind.i64.min ≤ (k : Int) ∧ (k : Int) ≤ IntKind.i64.max := by
    have a : IntKind.i64.min = -9223372036854775808 := by decide
    have b : IntKind.i64.max = 9223372036854775807 := by decide
    omega
  show ((if IntKind.i64.min ≤ (k : Int) ∧ (k : Int) ≤ IntKind.i64.max then pure (.int .i64 (k : Int)) else _ : Sem Value)).run Tryz.prog w = _
  rw [if_pos h1]
  rfl

theorem sq_bd {r : Int} (h0 : 0 ≤ r) (h1 : r ≤ 2147483649) : 0 ≤ r * r ∧ r * r ≤ 4611686022722355201 := by
  have := Int.mul_le_mul h1 h1 h0 (by omega : (0 : Int) ≤ 2147483649)
  exact ⟨Int.mul_nonneg h0 h0, by omega⟩
theorem sq_mono {a b : Int} (h0 : 0 ≤ a) (h : a ≤ b) : a * a ≤ b * b := Int.mul_le_mul h h h0 (by omega)

set_option maxHeartbeats 1000000 in
theorem root_any (n : Int) (h0 : 0 ≤ n) (h1 : n < 288230376151711744) (w : World) : Calls Tryz.prog 41 #[.int .i64 n] w fun e w' => e = .returned (.int .i64 (isq n)) ∧ w = w' := by
  obtain ⟨r, k, e1, e2, hk⟩ := Flt.sqrt_whole n.toNat (by omega)
  have E1 : Hid (Ieee.double.sqrt (floatOfInt FloatKind.f64 n) = some r) := Lib.hid (by
    have : floatOfInt FloatKind.f64 n = Ieee.double.nearest false n.toNat 0 := by
      show Ieee.double.nearest (decide (n < 0)) n.natAbs 0 = _
      rw [show decide (n < 0) = false by simp; omega, show n.natAbs = n.toNat by omega]
    rw [this]; exact e1)
  have hcv := toInt_run r k e2 hk
  have hi := isq_nonneg n
  have hi2 : Hid (isq n * isq n ≤ n) := Lib.hid (isq_le h0)
  have hi3 : Hid (n < (isq n + 1) * (isq n + 1)) := Lib.hid (lt_isq h0)
  clear e1 e2
  go_enter Tryz.func41, Tryz.ntmps41
  go_wp2_with (go_at_call 74; refine (mathSqrt_any _ r E1.out _).mono ?_; rintro e w' ⟨rfl, rfl⟩)
  have hI : isq n < 536870913 := by
    have := hi2.out
    by_cases h : isq n < 536870913
    · exact h
    · have h2 := sq_mono (by omega) (show 536870913 ≤ isq n by omega)
      omega
  go_loop [3] (fun x => ∃ q : Int, x = .int .i64 q ∧ 0 ≤ q ∧ q ≤ 2147483648 ∧ Hid (n < (q + 1) * (q + 1) ∨ q * q ≤ n)) (fun x => (intOf x).toNat)
  case atStart => exact ⟨k, rfl, by omega, by omega, Lib.hid (by have := sq_mono (show 0 ≤ (k : Int) by omega) (show (k : Int) ≤ k + 1 by omega); omega)⟩
  case round =>
    obtain ⟨q, rfl, hq0, hq1, HQ⟩ := hrel
    have hs := sq_bd hq0 (by omega)
    by_cases hgt : n < q * q
    · have hq2 : 1 ≤ q := by
        by_cases h : 1 ≤ q
        · exact h
        · obtain rfl : q = 0 := by omega
          simp at hgt; omega
      go_wp2
      go_round
      case rel => exact ⟨q - 1, rfl, by omega, by omega, Lib.hid (.inl (by rw [show q - 1 + 1 = q by omega]; exact hgt))⟩
      case measure => simp [intOf]; omega
    · have hle : q * q ≤ n := by omega
      have HL := Lib.hid hle
      go_wp2
      clear hle hs
      go_loop [3] (fun x => ∃ q : Int, x = .int .i64 q ∧ 0 ≤ q ∧ q ≤ isq n ∧ Hid (q * q ≤ n)) (fun x => (536870914 - intOf x).toNat)
      case atStart =>
        refine ⟨q, rfl, hq0, ?_, HL⟩
        by_cases h : q ≤ isq n
        · exact h
        · have h2 := sq_mono (by omega) (show isq n + 1 ≤ q by omega)
          have := hi3.out; have := HL.out; omega
      case round =>
        obtain ⟨p, rfl, hp0, hp1, HP⟩ := hrel
        have hs := sq_bd (show 0 ≤ p + 1 by omega) (by omega)
        by_cases hmore : (p + 1) * (p + 1) ≤ n
        · have hp2 : p + 1 ≤ isq n := by
            by_cases h : p + 1 ≤ isq n
            · exact h
            · have h2 := sq_mono (by omega) (show isq n + 1 ≤ p + 1 by omega)
              have := hi3.out; omega
          have HM := Lib.hid hmore
          go_wp2
          go_round
          case rel => exact ⟨p + 1, rfl, by omega, by omega, HM⟩
          case measure => simp [intOf]; omega
        · have HE : Hid (isq n = p) := Lib.hid (isq_eq hp0 HP.out (by omega))
          go_wp2
          go_ret
          exact ⟨by rw [HE.out]; rfl, rfl⟩

end Go.Proofs.YtjimdnmdnjhnjaaGreatDoor
