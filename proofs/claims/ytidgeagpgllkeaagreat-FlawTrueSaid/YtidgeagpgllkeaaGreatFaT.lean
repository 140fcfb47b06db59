/- Contracts of the package flaw: roots, ranges, the depth of a tip, the height between two tips. -/
import Derived.Test.YtidgeagpgllkeaaGreatFaB
import Derived.Laws.Externs
namespace Go.Proofs.YtidgeagpgllkeaaGreat
open Go.RowKit

theorem sqrt_run (x r : Nat) (h : Ieee.double.sqrt x = some r) (w : World) : (callFunc 175 #[.float .f64 x]).run Tryz.prog w = .ok (.value (.float .f64 r)) w := by
  rw [run_callFunc_extern Tryz.func175 (by kernel_rfl) (by kernel_rfl) (by kernel_rfl) (show Extern.find _ = some Extern.MathSqrt.sqrt by kernel_rfl)]
  show Result.andThen ((match Ieee.double.sqrt x with | some r => pure (.float .f64 r) | none => do pure (.float .f64 (← choose (.nanBits .f64 x x))) : Sem Value).run Tryz.prog w) _ = _
  rw [h]
  rfl
set_option maxHeartbeats 400000 in
set_option maxRecDepth 100000 in
theorem mathSqrt_any (x r : Nat) (h : Ieee.double.sqrt x = some r) (w : World) : Calls Tryz.prog 147 #[.float .f64 x] w fun e w' => e = .returned (.float .f64 r) ∧ w = w' := by
  have hr := sqrt_run x r h
  clear h
  go_enter Tryz.func147, Tryz.ntmps147
  go_wp2
  go_ret
  exact ⟨rfl, rfl⟩

theorem toInt_run (r k : Nat) (h : (Ieee.double.read r).toInt .zero = some (k : Int)) (hk : k ≤ 2147483648) (w : World) : (convert 212 3 (.float .f64 r)).run Tryz.prog w = .ok (.int .i64 k) w := by
  have e : (convert 212 3 (.float .f64 r)).run Tryz.prog w = (Conv.floatToInt .f64 r .i64).run Tryz.prog w := by
    simp only [convert, Sem.run_bind, run_underlying Tryz.underlying212, run_underlying Tryz.underlying3, Result.andThen]
  rw [e]
  unfold Conv.floatToInt
  have h' : (FloatKind.f64.decode r).toInt .zero = some (k : Int) := h
  rw [h']
  have h1 : IntKind.i64.min ≤ (k : Int) ∧ (k : Int) ≤ IntKind.i64.max := by
    have a : IntKind.i64.min = -9223372036854775808 := by decide
    have b : IntKind.i64.max = 9223372036854775807 := by decide
    omega
  show ((if IntKind.i64.min ≤ (k : Int) ∧ (k : Int) ≤ IntKind.i64.max then pure (.int .i64 (k : Int)) else _ : Sem Value)).run Tryz.prog w = _
  rw [if_pos h1]
  rfl

theorem sq_bd {r : Int} (h0 : 0 ≤ r) (h1 : r ≤ 2147483649) : 0 ≤ r * r ∧ r * r ≤ 4611686022722355201 := by
  have := Int.mul_le_mul h1 h1 h0 (by omega : (0 : Int) ≤ 2147483649)
  exact ⟨Int.mul_nonneg h0 h0, by omega⟩
theorem sq_mono {a b : Int} (h0 : 0 ≤ a) (h : a ≤ b) : a * a ≤ b * b := Int.mul_le_mul h h h0 (by omega)

set_option maxHeartbeats 1000000 in
theorem root_any (n : Int) (h0 : 0 ≤ n) (h1 : n < 288230376151711744) (w : World) : Calls Tryz.prog 98 #[.int .i64 n] w fun e w' => e = .returned (.int .i64 (isq n)) ∧ w = w' := by
  obtain ⟨r, k, e1, e2, hk⟩ := Flt.sqrt_whole n.toNat (by omega)
  have E1 : Hid (Ieee.double.sqrt (floatOfInt FloatKind.f64 n) = some r) := Lib.hid (by
    have : floatOfInt FloatKind.f64 n = Ieee.double.nearest false n.toNat 0 := by
      show Ieee.double.nearest (decide (n < 0)) n.natAbs 0 = _
      rw [show decide (n < 0) = false by simp; omega, show n.natAbs = n.toNat by omega]
    rw [this]; exact e1)
  have hcv := toInt_run r k e2 hk
  have hi := isq_nonneg n
  have hi2 : Hid (isq n * isq n ≤ n) := Lib.hid (isq_le h0)
  have hi3 : Hid (n < (isq n + 1) * (isq n + 1)) := Lib.hid (lt_isq h0)
  clear e1 e2
  go_enter Tryz.func98, Tryz.ntmps98
  go_wp2_with (go_at_call 147; refine (mathSqrt_any _ r E1.out _).mono ?_; rintro e w' ⟨rfl, rfl⟩)
  have hI : isq n < 536870913 := by
    have := hi2.out
    by_cases h : isq n < 536870913
    · exact h
    · have h2 := sq_mono (by omega) (show 536870913 ≤ isq n by omega)
      omega
  go_loop [3] (fun x => ∃ q : Int, x = .int .i64 q ∧ 0 ≤ q ∧ q ≤ 2147483648 ∧ Hid (n < (q + 1) * (q + 1) ∨ q * q ≤ n)) (fun x => (intOf x).toNat)
  case atStart => exact ⟨k, rfl, by omega, by omega, Lib.hid (by have := sq_mono (show 0 ≤ (k : Int) by omega) (show (k : Int) ≤ k + 1 by omega); omega)⟩
  case round =>
    obtain ⟨q, rfl, hq0, hq1, HQ⟩ := hrel
    have hs := sq_bd hq0 (by omega)
    by_cases hgt : n < q * q
    · have hq2 : 1 ≤ q := by
        by_cases h : 1 ≤ q
        · exact h
        · obtain rfl : q = 0 := by omega
          simp at hgt; omega
      go_wp2
      go_round
      case rel => exact ⟨q - 1, rfl, by omega, by omega, Lib.hid (.inl (by rw [show q - 1 + 1 = q by omega]; exact hgt))⟩
      case measure => simp [intOf]; omega
    · have hle : q * q ≤ n := by omega
      have HL := Lib.hid hle
      go_wp2
      clear hle hs
      go_loop [3] (fun x => ∃ q : Int, x = .int .i64 q ∧ 0 ≤ q ∧ q ≤ isq n ∧ Hid (q * q ≤ n)) (fun x => (536870914 - intOf x).toNat)
      case atStart =>
        refine ⟨q, rfl, hq0, ?_, HL⟩
        by_cases h : q ≤ isq n
        · exact h
        · have h2 := sq_mono (by omega) (show isq n + 1 ≤ q by omega)
          have := hi3.out; have := HL.out; omega
      case round =>
        obtain ⟨p, rfl, hp0, hp1, HP⟩ := hrel
        have hs := sq_bd (show 0 ≤ p + 1 by omega) (by omega)
        by_cases hmore : (p + 1) * (p + 1) ≤ n
        · have hp2 : p + 1 ≤ isq n := by
            by_cases h : p + 1 ≤ isq n
            · exact h
            · have h2 := sq_mono (by omega) (show isq n + 1 ≤ p + 1 by omega)
              have := hi3.out; omega
          have HM := Lib.hid hmore
          go_wp2
          go_round
          case rel => exact ⟨p + 1, rfl, by omega, by omega, HM⟩
          case measure => simp [intOf]; omega
        · have HE : Hid (isq n = p) := Lib.hid (isq_eq hp0 HP.out (by omega))
          go_wp2
          go_ret
          exact ⟨by rw [HE.out]; rfl, rfl⟩

end Go.Proofs.YtidgeagpgllkeaaGreat
