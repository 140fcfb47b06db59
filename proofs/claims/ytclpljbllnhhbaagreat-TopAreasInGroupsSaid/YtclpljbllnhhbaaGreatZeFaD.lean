/- Contracts of the small functions of the packages flaw and couplantbase: ranges, divisors, quotients, names. Contracts of the package flaw: the first error, ranges, roots, the depth of a tip, the height between two tips. Contracts of the package flaw: roots, ranges, the depth of a tip, the height between two tips. Contracts of the package flaw: the error of a range, the depth of a tip, the height between two tips. Contract: the depth of a tip. -/
import Derived.Test.YtclpljbllnhhbaaGreatProg
import Derived.WalkKit
import Derived.WalkSpells
import Derived.WalkLawsBesides
import Derived.Lib.Hide
import Derived.BigQuiet
import Derived.Deep.QuietTactic
import Derived.Laws.Externs
import Derived.Test.YtclpljbllnhhbaaGreatZeFaP
import Derived.Test.YtclpljbllnhhbaaGreatZeRgW
import Derived.Test.YtclpljbllnhhbaaGreatZeFaK
namespace Go.Proofs.YtclpljbllnhhbaaGreat
open Go.RowKit

set_option maxHeartbeats 400000 in
theorem within_any (n lo hi : Int) (w : World) :
    Calls Tryz.prog 53 #[.int .i64 n, .int .i64 lo, .int .i64 hi] w fun e w' => e = .returned (.bool (wi n lo hi)) ∧ w = w' := by
  go_enter Tryz.func53, Tryz.ntmps53
  go_wp2
  all_goals
    go_ret
    exact ⟨by simp [wi, *]; try omega, rfl⟩

set_option maxHeartbeats 400000 in
theorem bWithin_any (n lo hi : Int) (w : World) :
    Calls Tryz.prog 7 #[.int .i64 n, .int .i64 lo, .int .i64 hi] w fun e w' => e = .returned (.bool (wi n lo hi)) ∧ w = w' := by
  go_enter Tryz.func7, Tryz.ntmps7
  go_wp2
  all_goals
    go_ret
    exact ⟨by simp [wi, *]; try omega, rfl⟩

set_option maxHeartbeats 400000 in
theorem small_any (n m : Int) (h0 : 0 ≤ m) (h1 : m ≤ 1000000000000) (w : World) :
    Calls Tryz.prog 57 #[.int .i64 n, .int .i64 m] w fun e w' => e = .returned (.bool (wi n (-m) m)) ∧ w = w' := by
  go_enter Tryz.func57, Tryz.ntmps57
  go_wp2_with (go_at_call 53; refine (within_any _ _ _ _).mono ?_; rintro e w' ⟨rfl, rfl⟩)
  go_ret
  exact ⟨rfl, rfl⟩

theorem below_drewN' {B : Nat} {a w : World} (h : Below B a w) (n : Nat) : Below B a (w.drewN n) := ⟨h.os, h.tape, h.output, h.size, h.block⟩

theorem bcell {W w1 : World} (hb : Below W.heap.size W w1) : (∀ b o, b < W.heap.size → w1.cell? ⟨b, o, none⟩ = W.cell? ⟨b, o, none⟩) ∧ (∀ b o, b < W.heap.size → w1.frozen? ⟨b, o, none⟩ = W.frozen? ⟨b, o, none⟩) :=
  ⟨fun b o h => hb.cell (p := ⟨b, o, none⟩) h, fun b o h => hb.frozen (p := ⟨b, o, none⟩) h⟩

/-! ### quotients -/

/-! ### the greatest common divisor -/
theorem gcd_zero_max (p : Int) : ((Int.gcd p 0 : Nat) : Int) = max p (-p) := by
  simp
  omega
theorem gcd_step (p q : Int) : Int.gcd q (p.tmod q) = Int.gcd p q := by
  simp only [Int.gcd, Int.natAbs_tmod]
  rw [Nat.gcd_comm q.natAbs, ← Nat.gcd_rec, Nat.gcd_comm]
theorem tmod_bound (p q : Int) (hq : q ≠ 0) : (p.tmod q).natAbs < q.natAbs := by
  rw [Int.natAbs_tmod]; exact Nat.mod_lt _ (by omega)
set_option maxHeartbeats 400000 in
theorem divisor_any (a b : Int) (ha : -9223372036854775808 ≤ a ∧ a ≤ 9223372036854775807) (hb : -9223372036854775807 ≤ b ∧ b ≤ 9223372036854775807) (hab : b = 0 → -9223372036854775807 ≤ a) (w : World) :
    Calls Tryz.prog 89 #[.int .i64 a, .int .i64 b] w fun e w' => e = .returned (.int .i64 (Int.gcd a b)) ∧ Below w.heap.size w w' := by
  have HAB := Lib.hid hab; clear hab
  go_enter Tryz.func89, Tryz.ntmps89
  go_wp2
  go_loopw [0, 1] (fun x y wr => ∃ p q : Int, x = .int .i64 p ∧ y = .int .i64 q ∧ (-9223372036854775808 ≤ p ∧ p ≤ 9223372036854775807) ∧ (-9223372036854775807 ≤ q ∧ q ≤ 9223372036854775807) ∧ Hid (q = 0 → -9223372036854775807 ≤ p) ∧ Int.gcd p q = Int.gcd a b ∧ Below w.heap.size w wr) (fun _ y _ => (intOf y).natAbs)
  case atStart => exact ⟨a, b, rfl, rfl, ha, hb, HAB, rfl, Below.refl _ _⟩
  case round =>
    obtain ⟨p, q, rfl, rfl, hp, hq, hpq, hg, hB⟩ := hrel
    have HG := Lib.hid hg; clear hg
    by_cases h0 : q = 0
    · subst h0
      have hp' := hpq.out rfl
      have HE : Hid ((Int.gcd a b : Int) = max p (-p)) := by rw [← HG.out]; exact gcd_zero_max p
      go_wp2
      all_goals
        go_ret
        refine ⟨?_, hB⟩
        rw [HE.out]
        show Ending.returned (Value.int .i64 _) = _
        congr 2
        omega
    · have h0' : (q != 0) = true := by simpa using h0
      have h0'' : (q == 0) = false := by simpa using h0
      have hm := tmod_bound p q h0
      go_wp2
      go_quiet (fail)
      go_wp2
      refine ⟨⟨q, p.tmod q, rfl, rfl, by omega, by omega, fun _ => by omega, by rw [← HG.out]; exact gcd_step p q, below_drewN' hB _⟩, by show (p.tmod q).natAbs < q.natAbs; exact hm⟩
set_option maxHeartbeats 400000 in
theorem size_any (n : Int) (h : -9223372036854775807 ≤ n ∧ n ≤ 9223372036854775807) (w : World) :
    Calls Tryz.prog 32 #[.int .i64 n] w fun e w' => e = .returned (.int .i64 (max n (-n))) ∧ w = w' := by
  go_enter Tryz.func32, Tryz.ntmps32
  go_wp2
  all_goals
    go_ret
    refine ⟨?_, rfl⟩
    show Ending.returned (Value.int .i64 _) = _
    congr 2
    omega

end Go.Proofs.YtclpljbllnhhbaaGreat

namespace Go.Proofs.YtclpljbllnhhbaaGreat
open Go.RowKit

set_option maxHeartbeats 400000 in
theorem unless_any (b : Bool) (e : Int) (w : World) : Calls Tryz.prog 52 #[.bool b, .int .i64 e] w fun r w' => r = .returned (.int .i64 (unlessE b e)) ∧ w = w' := by
  cases b
  all_goals
    go_enter Tryz.func52, Tryz.ntmps52
    go_wp2
    go_ret
    exact ⟨rfl, rfl⟩

set_option maxHeartbeats 400000 in
theorem levelErr_any (n : Int) (w : World) : Calls Tryz.prog 59 #[.int .i64 n] w fun r w' => r = .returned (.int .i64 (levelE n)) ∧ w = w' := by
  go_enter Tryz.func59, Tryz.ntmps59
  go_wp2_with (first
    | (go_at_call 53; refine (within_any _ _ _ _).mono ?_; rintro e w1 ⟨rfl, rfl⟩)
    | (go_at_call 52; refine (unless_any _ _ _).mono ?_; rintro e w1 ⟨rfl, rfl⟩))
  go_ret
  exact ⟨rfl, rfl⟩

theorem firstE_take (es : List Int) (k : Nat) (h : ∀ j, j < k → es[j]?.getD 0 = 0) : firstE es = firstE (es.drop k) := by
  induction k generalizing es with
  | zero => rfl
  | succ k ih =>
    cases es with
    | nil => rfl
    | cons e l =>
      have h0 : e = 0 := h 0 (by omega)
      rw [List.drop_succ_cons, ← ih l fun j hj => h (j + 1) (by omega)]
      show (if e = 0 then firstE l else e) = _
      rw [if_pos h0]

set_option maxHeartbeats 400000 in
theorem first_any (es : List Int) (b off cap : Nat) (w : World) (hl : es.length ≤ 1000) (hc : ∀ j, j < es.length → w.cell? ⟨b, off + j, none⟩ = some (.int .i64 (es[j]?.getD 0))) :
    Calls Tryz.prog 26 #[.slice (some ⟨b, off, none⟩) es.length cap] w fun e w' => e = .returned (.int .i64 (firstE es)) ∧ w = w' := by
  go_enter Tryz.func26, Tryz.ntmps26
  go_wp2
  go_loop [7] (fun i => ∃ k : Nat, k ≤ es.length ∧ i = .int .i64 k ∧ Hid (∀ j, j < k → es[j]?.getD 0 = 0)) (fun i => es.length - (intOf i).toNat)
  case atStart => exact ⟨0, Nat.zero_le _, rfl, Lib.hid (fun j hj => absurd hj (by omega))⟩
  case round =>
    obtain ⟨k, hk, rfl, H⟩ := hrel
    by_cases hlt : k < es.length
    · have hck := hc k hlt
      obtain ⟨x, hx⟩ : ∃ x, es[k]?.getD 0 = x := ⟨_, rfl⟩
      rw [hx] at hck
      have HX := Lib.hid hx; clear hx
      have HC := Lib.hid hc; clear hc
      by_cases h0 : x = 0
      · subst h0
        go_wp2
        go_round
        case rel => exact ⟨k + 1, by omega, by go_num, Lib.hid (fun j hj => by by_cases hjk : j = k; (rw [hjk]; exact HX.out); exact H.out j (by omega))⟩
        case measure => simp [intOf]; omega
      · have h0' : (x != 0) = true := by simpa using h0
        have HE : Hid (firstE es = x) := Lib.hid (by
          rw [firstE_take es k H.out, List.drop_eq_getElem_cons hlt]
          have : es[k] = x := by have := HX.out; rw [List.getElem?_eq_getElem hlt] at this; exact this
          unfold firstE; rw [this, if_neg h0])
        go_wp2
        go_ret
        exact ⟨by rw [HE.out]; rfl, rfl⟩
    · obtain rfl : k = es.length := by omega
      have HE : Hid (firstE es = 0) := Lib.hid (by rw [firstE_take es es.length H.out, List.drop_length]; rfl)
      go_wp2
      go_ret
      exact ⟨by rw [HE.out]; rfl, rfl⟩
end Go.Proofs.YtclpljbllnhhbaaGreat

namespace Go.Proofs.YtclpljbllnhhbaaGreat
open Go.RowKit

theorem sqrt_run (x r : Nat) (h : Ieee.double.sqrt x = some r) (w : World) : (callFunc 100 #[.float .f64 x]).run Tryz.prog w = .ok (.value (.float .f64 r)) w := by
  rw [run_callFunc_extern Tryz.func100 (by kernel_rfl) (by kernel_rfl) (by kernel_rfl) (show Extern.find _ = some Extern.MathSqrt.sqrt by kernel_rfl)]
  show Result.andThen ((match Ieee.double.sqrt x with | some r => pure (.float .f64 r) | none => do pure (.float .f64 (← choose (.nanBits .f64 x x))) : Sem Value).run Tryz.prog w) _ = _
  rw [h]
  rfl
set_option maxHeartbeats 400000 in
set_option maxRecDepth 100000 in
theorem mathSqrt_any (x r : Nat) (h : Ieee.double.sqrt x = some r) (w : World) : Calls Tryz.prog 74 #[.float .f64 x] w fun e w' => e = .returned (.float .f64 r) ∧ w = w' := by
  have hr := sqrt_run x r h
  clear h
  go_enter Tryz.func74, Tryz.ntmps74
  go_wp2
  go_ret
  exact ⟨rfl, rfl⟩

theorem toInt_run (r k : Nat) (h : (Ieee.double.read r).toInt .zero = some (k : Int)) (hk : k ≤ 2147483648) (w : World) : (convert 132 3 (.float .f64 r)).run Tryz.prog w = .ok (.int .i64 k) w := by
  have e : (convert 132 3 (.float .f64 r)).run Tryz.prog w = (Conv.floatToInt .f64 r .i64).run Tryz.prog w := by
    simp only [convert, Sem.run_bind, run_underlying Tryz.underlying132, run_underlying Tryz.underlying3, Result.andThen]
  rw [e]
  unfold Conv.floatToInt
  have h' : (FloatKind.f64.decode r).toInt .zero = some (k : Int) := h
  rw [h']
  have h1 : IntKind.i64.min ≤ (k : Int) ∧ (k : Int) ≤ IntKind.i64.max := by
    have a : IntKind.i64.min = -9223372036854775808 := by decide
    have b : IntKind.i64.max = 9223372036854775807 := by decide
    omega
  show ((if IntKind.i64.min ≤ (k : Int) ∧ (k : Int) ≤ IntKind.i64.max then pure (.int .i64 (k : Int)) else _ : Sem Value)).run Tryz.prog w = _
  rw [if_pos h1]
  rfl

theorem sq_bd {r : Int} (h0 : 0 ≤ r) (h1 : r ≤ 2147483649) : 0 ≤ r * r ∧ r * r ≤ 4611686022722355201 := by
  have := Int.mul_le_mul h1 h1 h0 (by omega : (0 : Int) ≤ 2147483649)
  exact ⟨Int.mul_nonneg h0 h0, by omega⟩
theorem sq_mono {a b : Int} (h0 : 0 ≤ a) (h : a ≤ b) : a * a ≤ b * b := Int.mul_le_mul h h h0 (by omega)

set_option maxHeartbeats 1000000 in
theorem root_any (n : Int) (h0 : 0 ≤ n) (h1 : n < 288230376151711744) (w : World) : Calls Tryz.prog 55 #[.int .i64 n] w fun e w' => e = .returned (.int .i64 (isq n)) ∧ w = w' := by
  obtain ⟨r, k, e1, e2, hk⟩ := Flt.sqrt_whole n.toNat (by omega)
  have E1 : Hid (Ieee.double.sqrt (floatOfInt FloatKind.f64 n) = some r) := Lib.hid (by
    have : floatOfInt FloatKind.f64 n = Ieee.double.nearest false n.toNat 0 := by
      show Ieee.double.nearest (decide (n < 0)) n.natAbs 0 = _
      rw [show decide (n < 0) = false by simp; omega, show n.natAbs = n.toNat by omega]
    rw [this]; exact e1)
  have hcv := toInt_run r k e2 hk
  have hi := isq_nonneg n
  have hi2 : Hid (isq n * isq n ≤ n) := Lib.hid (isq_le h0)
  have hi3 : Hid (n < (isq n + 1) * (isq n + 1)) := Lib.hid (lt_isq h0)
  clear e1 e2
  go_enter Tryz.func55, Tryz.ntmps55
  go_wp2_with (go_at_call 74; refine (mathSqrt_any _ r E1.out _).mono ?_; rintro e w' ⟨rfl, rfl⟩)
  have hI : isq n < 536870913 := by
    have := hi2.out
    by_cases h : isq n < 536870913
    · exact h
    · have h2 := sq_mono (by omega) (show 536870913 ≤ isq n by omega)
      omega
  go_loop [3] (fun x => ∃ q : Int, x = .int .i64 q ∧ 0 ≤ q ∧ q ≤ 2147483648 ∧ Hid (n < (q + 1) * (q + 1) ∨ q * q ≤ n)) (fun x => (intOf x).toNat)
  case atStart => exact ⟨k, rfl, by omega, by omega, Lib.hid (by have := sq_mono (show 0 ≤ (k : Int) by omega) (show (k : Int) ≤ k + 1 by omega); omega)⟩
  case round =>
    obtain ⟨q, rfl, hq0, hq1, HQ⟩ := hrel
    have hs := sq_bd hq0 (by omega)
    by_cases hgt : n < q * q
    · have hq2 : 1 ≤ q := by
        by_cases h : 1 ≤ q
        · exact h
        · obtain rfl : q = 0 := by omega
          simp at hgt; omega
      go_wp2
      go_round
      case rel => exact ⟨q - 1, rfl, by omega, by omega, Lib.hid (.inl (by rw [show q - 1 + 1 = q by omega]; exact hgt))⟩
      case measure => simp [intOf]; omega
    · have hle : q * q ≤ n := by omega
      have HL := Lib.hid hle
      go_wp2
      clear hle hs
      go_loop [3] (fun x => ∃ q : Int, x = .int .i64 q ∧ 0 ≤ q ∧ q ≤ isq n ∧ Hid (q * q ≤ n)) (fun x => (536870914 - intOf x).toNat)
      case atStart =>
        refine ⟨q, rfl, hq0, ?_, HL⟩
        by_cases h : q ≤ isq n
        · exact h
        · have h2 := sq_mono (by omega) (show isq n + 1 ≤ q by omega)
          have := hi3.out; have := HL.out; omega
      case round =>
        obtain ⟨p, rfl, hp0, hp1, HP⟩ := hrel
        have hs := sq_bd (show 0 ≤ p + 1 by omega) (by omega)
        by_cases hmore : (p + 1) * (p + 1) ≤ n
        · have hp2 : p + 1 ≤ isq n := by
            by_cases h : p + 1 ≤ isq n
            · exact h
            · have h2 := sq_mono (by omega) (show isq n + 1 ≤ p + 1 by omega)
              have := hi3.out; omega
          have HM := Lib.hid hmore
          go_wp2
          go_round
          case rel => exact ⟨p + 1, rfl, by omega, by omega, HM⟩
          case measure => simp [intOf]; omega
        · have HE : Hid (isq n = p) := Lib.hid (isq_eq hp0 HP.out (by omega))
          go_wp2
          go_ret
          exact ⟨by rw [HE.out]; rfl, rfl⟩

end Go.Proofs.YtclpljbllnhhbaaGreat

namespace Go.Proofs.YtclpljbllnhhbaaGreat
open Go.RowKit

abbrev rgC (a b : Int) : Array Value := #[.int .i64 a, .int .i64 b]

theorem first2_any (a b : Int) (t : TypeId) (w : World) :
    Calls Tryz.prog 26 #[.slice (some ⟨w.heap.size, 0, none⟩) 2 2] (w.alloc (.cells #[.int .i64 a, .int .i64 b] t)) fun e w' => e = .returned (.int .i64 (firstE [a, b])) ∧ Below w.heap.size w w' :=
  (first_any [a, b] w.heap.size 0 2 _ (by simp) (fun j hj => by
    have hb := Blk.new w t #[.int .i64 a, .int .i64 b]
    rw [Nat.zero_add]
    match j, hj with
    | 0, _ => exact hb.cell 0
    | 1, _ => exact hb.cell 1)).mono fun _ _ ⟨h1, h2⟩ => ⟨h1, by rw [← h2]; exact (Below.refl _ _).alloc (Nat.le_refl _) _⟩
theorem first3_any (a b c : Int) (t : TypeId) (w : World) :
    Calls Tryz.prog 26 #[.slice (some ⟨w.heap.size, 0, none⟩) 3 3] (w.alloc (.cells #[.int .i64 a, .int .i64 b, .int .i64 c] t)) fun e w' => e = .returned (.int .i64 (firstE [a, b, c])) ∧ Below w.heap.size w w' :=
  (first_any [a, b, c] w.heap.size 0 3 _ (by simp) (fun j hj => by
    have hb := Blk.new w t #[.int .i64 a, .int .i64 b, .int .i64 c]
    rw [Nat.zero_add]
    match j, hj with
    | 0, _ => exact hb.cell 0
    | 1, _ => exact hb.cell 1
    | 2, _ => exact hb.cell 2)).mono fun _ _ ⟨h1, h2⟩ => ⟨h1, by rw [← h2]; exact (Below.refl _ _).alloc (Nat.le_refl _) _⟩
theorem first4_any (a b c d : Int) (t : TypeId) (w : World) :
    Calls Tryz.prog 26 #[.slice (some ⟨w.heap.size, 0, none⟩) 4 4] (w.alloc (.cells #[.int .i64 a, .int .i64 b, .int .i64 c, .int .i64 d] t)) fun e w' => e = .returned (.int .i64 (firstE [a, b, c, d])) ∧ Below w.heap.size w w' :=
  (first_any [a, b, c, d] w.heap.size 0 4 _ (by simp) (fun j hj => by
    have hb := Blk.new w t #[.int .i64 a, .int .i64 b, .int .i64 c, .int .i64 d]
    rw [Nat.zero_add]
    match j, hj with
    | 0, _ => exact hb.cell 0
    | 1, _ => exact hb.cell 1
    | 2, _ => exact hb.cell 2
    | 3, _ => exact hb.cell 3)).mono fun _ _ ⟨h1, h2⟩ => ⟨h1, by rw [← h2]; exact (Below.refl _ _).alloc (Nat.le_refl _) _⟩

theorem rangeE_first (a b lo hi : Int) : firstE [unlessE (wi a lo hi && wi b lo hi) 2, unlessE (decide (a ≤ b)) 9] = rangeE a b lo hi := by
  unfold rangeE firstE firstE unlessE
  cases (wi a lo hi && wi b lo hi) <;> by_cases h : a ≤ b <;> simp [h, firstE]

set_option maxRecDepth 100000 in
set_option maxHeartbeats 1000000 in
theorem rangeErr_any (a b lo hi : Int) (w : World) :
    Calls Tryz.prog 54 #[.agg (rgC a b), .int .i64 lo, .int .i64 hi] w fun e w' => e = .returned (.int .i64 (rangeE a b lo hi)) ∧ Below w.heap.size w w' := by
  unfold rgC
  cases h : wi a lo hi
  · have H := Lib.hid h; clear h
    have HE : Hid (rangeE a b lo hi = firstE [unlessE false 2, unlessE (decide (a ≤ b)) 9]) := Lib.hid (by rw [← rangeE_first, H.out]; rfl)
    go_enter Tryz.func54, Tryz.ntmps54
    go_wp2_with fail
    have c0 := (Blk.new w 44 #[.int .i64 a, .int .i64 b]).cell 0
    have c1 := (Blk.new w 44 #[.int .i64 a, .int .i64 b]).cell 1
    refine wp_region_b 19 (by kernel_rfl) (by kernel_rfl) ?_; simp only [List.take, List.drop]
    repeat (first
      | (apply StepsD.run
         · go_simp
           done
         · intro w' hS K hK
           have hc := (bcell hS).1
           have hf := (bcell hS).2
           have hz := hS.size
           try simp at hz
           go_simp
           try go_bits
           first
             | exact hK _ hS
             | (go_at_call 53; refine (within_any _ _ _ _).mono ?_; rw [H.out]; rintro e w1 ⟨rfl, rfl⟩; exact hK _ hS)
             | (go_at_call 52; refine (unless_any _ _ _).mono ?_; rintro e w1 ⟨rfl, rfl⟩; exact hK _ hS)
             | exact hK _ (by repeat (first | (with_reducible exact Below.refl _ _) | (with_reducible assumption) | ((with_reducible refine Below.setCell ?_ ?_ _); rotate_left; · (first | exact Nat.le_refl _ | (simp; done) | (simp; omega) | omega)) | ((with_reducible refine Below.alloc ?_ ?_ _); rotate_left; · (first | exact Nat.le_refl _ | (simp; done) | (simp; omega) | omega)) | (with_reducible apply Below.drew) | (with_reducible apply below_drewN') | (refine Below.trans ?_ (Below.mono (by assumption) (by first | exact Nat.le_refl _ | (simp; done) | (simp; omega) | omega))) | exact Below.refl _ _ | assumption))
         · simp [Act.put]
           done)
      | (apply StepsD.pass
         · go_simp
           done
         · simp only [Act.put, List.setIfInBounds_toArray, List.set_cons_succ, List.set_cons_zero]
           rfl))
    refine StepsD.done ?_
    intro w' hS
    have hB1 : Below w.heap.size w w' := Below.trans ((Below.refl _ w).alloc (Nat.le_refl _) _) (Below.mono hS (by simp))
    go_wp2_with fail
    refine (first2_any _ _ _ _).mono ?_
    rintro e w2 ⟨rfl, hB2⟩
    go_wp2
    go_ret
    exact ⟨by rw [HE.out]; rfl, hB1.trans (hB2.mono (Below.size hB1))⟩
  · have H := Lib.hid h; clear h
    have HE : Hid (rangeE a b lo hi = firstE [unlessE (wi b lo hi) 2, unlessE (decide (a ≤ b)) 9]) := Lib.hid (by rw [← rangeE_first, H.out]; rfl)
    go_enter Tryz.func54, Tryz.ntmps54
    go_wp2_with fail
    have c0 := (Blk.new w 44 #[.int .i64 a, .int .i64 b]).cell 0
    have c1 := (Blk.new w 44 #[.int .i64 a, .int .i64 b]).cell 1
    obtain ⟨B, hB⟩ : ∃ B, wi b lo hi = B := ⟨_, rfl⟩
    have HB := Lib.hid hB; clear hB
    refine wp_region_b 19 (by kernel_rfl) (by kernel_rfl) ?_; simp only [List.take, List.drop]
    repeat (first
      | (apply StepsD.run
         · go_simp
           done
         · intro w' hS K hK
           have hc := (bcell hS).1
           have hf := (bcell hS).2
           have hz := hS.size
           try simp at hz
           go_simp
           try go_bits
           first
             | exact hK _ hS
             | (go_at_call 53; (with_reducible refine (within_any a _ _ _).mono ?_); rw [H.out]; rintro e w1 ⟨rfl, rfl⟩; exact hK _ hS)
             | (go_at_call 53; (with_reducible refine (within_any b _ _ _).mono ?_); rw [HB.out]; rintro e w1 ⟨rfl, rfl⟩; exact hK _ hS)
             | (go_at_call 52; refine (unless_any _ _ _).mono ?_; rintro e w1 ⟨rfl, rfl⟩; exact hK _ hS)
             | exact hK _ (by repeat (first | (with_reducible exact Below.refl _ _) | (with_reducible assumption) | ((with_reducible refine Below.setCell ?_ ?_ _); rotate_left; · (first | exact Nat.le_refl _ | (simp; done) | (simp; omega) | omega)) | ((with_reducible refine Below.alloc ?_ ?_ _); rotate_left; · (first | exact Nat.le_refl _ | (simp; done) | (simp; omega) | omega)) | (with_reducible apply Below.drew) | (with_reducible apply below_drewN') | (refine Below.trans ?_ (Below.mono (by assumption) (by first | exact Nat.le_refl _ | (simp; done) | (simp; omega) | omega))) | exact Below.refl _ _ | assumption))
         · simp [Act.put]
           done)
      | (apply StepsD.pass
         · go_simp
           done
         · simp only [Act.put, List.setIfInBounds_toArray, List.set_cons_succ, List.set_cons_zero]
           rfl))
    refine StepsD.done ?_
    intro w' hS
    have hB1 : Below w.heap.size w w' := Below.trans ((Below.refl _ w).alloc (Nat.le_refl _) _) (Below.mono hS (by simp))
    go_wp2_with fail
    refine (first2_any _ _ _ _).mono ?_
    rintro e w2 ⟨rfl, hB2⟩
    go_wp2
    go_ret
    exact ⟨by rw [HE.out, HB.out]; rfl, hB1.trans (hB2.mono (Below.size hB1))⟩

abbrev tipC (x : Tip) : Array Value := #[.int .i64 x.tl, .int .i64 x.th, .int .i64 x.ol, .int .i64 x.oh, .int .i64 x.sp]
/-- A range and an error, as a result. -/
def reC (r : RE) : Value := .tuple #[.agg #[.int .i64 r.lo, .int .i64 r.hi], .int .i64 r.e]

end Go.Proofs.YtclpljbllnhhbaaGreat

namespace Go.Proofs.YtclpljbllnhhbaaGreat
open Go.RowKit

theorem mul_bd0 {a b A B : Int} (ha : 0 ≤ a) (ha' : a ≤ A) (hb : 0 ≤ b) (hb' : b ≤ B) : 0 ≤ a * b ∧ a * b ≤ A * B :=
  ⟨Int.mul_nonneg ha hb, Int.mul_le_mul ha' hb' hb (by omega)⟩

set_option maxRecDepth 100000 in
set_option maxHeartbeats 1000000 in
theorem tipDepth_any (x : Tip) (w : World) :
    Calls Tryz.prog 22 #[.agg (tipC x)] w fun e w' => e = .returned (reC (tipV x)) ∧ Below w.heap.size w w' := by
  unfold reC
  go_enter Tryz.func22, Tryz.ntmps22
  go_wp2_with (first
    | (go_at_call 53; refine (within_any _ _ _ _).mono ?_; rintro e w1 ⟨rfl, rfl⟩)
    | (go_at_call 52; refine (unless_any _ _ _).mono ?_; rintro e w1 ⟨rfl, rfl⟩))
  have b0 := (Blk.new w 72 (tipC x)).alloc (.cells #[.int .i64 0, .int .i64 0] 44)
  have b2 := Blk.new (w.alloc (.cells (tipC x) 72)) 44 #[.int .i64 0, .int .i64 0]
  have hBB : Below w.heap.size w ((w.alloc (.cells (tipC x) 72)).alloc (.cells #[.int .i64 0, .int .i64 0] 44)) := (by repeat (first | (with_reducible exact Below.refl _ _) | (with_reducible assumption) | ((with_reducible refine Below.setCell ?_ ?_ _); rotate_left; · (first | exact Nat.le_refl _ | (simp; done) | (simp; omega) | omega)) | ((with_reducible refine Below.alloc ?_ ?_ _); rotate_left; · (first | exact Nat.le_refl _ | (simp; done) | (simp; omega) | omega)) | (with_reducible apply Below.drew) | (with_reducible apply below_drewN') | (refine Below.trans ?_ (Below.mono (by assumption) (by first | exact Nat.le_refl _ | (simp; done) | (simp; omega) | omega))) | exact Below.refl _ _ | assumption))
  rw [World.size_alloc] at b2
  obtain ⟨W, hW⟩ : ∃ W, (w.alloc (.cells (tipC x) 72)).alloc (.cells #[.int .i64 0, .int .i64 0] 44) = W := ⟨_, rfl⟩
  rw [hW] at b0 b2 hBB ⊢
  clear hW
  have n02 : w.heap.size ≠ w.heap.size + 1 := by omega
  have l_b0 := b0.lt
  obtain ⟨e0, e1, e2, e3, e4, f0⟩ := blk5c b0
  have l_b2 := b2.lt
  obtain ⟨g0, g1, f2⟩ := blk2c b2
  refine wp_region_b 7 (by kernel_rfl) (by kernel_rfl) ?_; simp only [List.take, List.drop]
  repeat (first
    | (apply StepsD.run
       · go_simp
         done
       · intro w' hS K hK
         have hc := (bcell hS).1
         have hf := (bcell hS).2
         have hz := hS.size
         try simp at hz
         go_simp
         try go_bits
         first
           | exact hK _ hS
           | (go_at_call 54; (with_reducible refine (rangeErr_any _ _ _ _ _).mono ?_); rintro e w1 ⟨rfl, hB1⟩; obtain ⟨hc1, hf1⟩ := bcell hB1; have hz1 := hB1.size; (try simp at hz1); exact hK _ (Below.trans hS (Below.mono hB1 (by first | exact Nat.le_refl _ | (simp; done) | (simp; omega) | omega))))
           | exact hK _ (by repeat (first | (with_reducible exact Below.refl _ _) | (with_reducible assumption) | ((with_reducible refine Below.setCell ?_ ?_ _); rotate_left; · (first | exact Nat.le_refl _ | (simp; done) | (simp; omega) | omega)) | ((with_reducible refine Below.alloc ?_ ?_ _); rotate_left; · (first | exact Nat.le_refl _ | (simp; done) | (simp; omega) | omega)) | (with_reducible apply Below.drew) | (with_reducible apply below_drewN') | (refine Below.trans ?_ (Below.mono (by assumption) (by first | exact Nat.le_refl _ | (simp; done) | (simp; omega) | omega))) | exact Below.refl _ _ | assumption))
       · simp [Act.put]
         done)
    | (apply StepsD.pass
       · go_simp
         done
       · simp only [Act.put, List.setIfInBounds_toArray, List.set_cons_succ, List.set_cons_zero]
         rfl))
  refine StepsD.done ?_
  intro w1 hS
  replace b0 := b0.gr hS
  replace b2 := b2.gr hS
  replace hBB := hBB.trans (Below.mono hS (Below.size hBB))
  clear hS
  clear l_b0 e0 e1 e2 e3 e4 f0 l_b2 g0 g1 f2
  have l_b0 := b0.lt
  have l_b2 := b2.lt
  obtain ⟨e0, e1, e2, e3, e4, f0⟩ := blk5c b0
  obtain ⟨g0, g1, f2⟩ := blk2c b2
  have HEE : Hid (firstE [rangeE x.tl x.th 0 1000000000000, rangeE x.ol x.oh 0 100000, unlessE (wi x.sp 500 10000) 2] = tipE x) := Lib.hid rfl
  obtain ⟨E, hE⟩ : ∃ E, tipE x = E := ⟨_, rfl⟩
  have HE := Lib.hid hE; clear hE
  go_wp2_with fail
  refine (first3_any _ _ _ _ _).mono ?_
  rw [HEE.out, HE.out]
  rintro e wc2 ⟨rfl, hBc2⟩
  replace b0 := b0.gr hBc2
  replace b2 := b2.gr hBc2
  replace hBB := hBB.trans (Below.mono hBc2 (Below.size hBB))
  clear hBc2
  clear l_b0 e0 e1 e2 e3 e4 f0 l_b2 g0 g1 f2
  have l_b0 := b0.lt
  have l_b2 := b2.lt
  obtain ⟨e0, e1, e2, e3, e4, f0⟩ := blk5c b0
  obtain ⟨g0, g1, f2⟩ := blk2c b2
  by_cases h0 : E = 0
  · have HV : Hid (tipV x = if tipHi x < 0 then ⟨0, 0, 12⟩ else ⟨isq (tipLo x), isqUp (tipHi x), 0⟩) := Lib.hid (by unfold tipV; rw [HE.out, if_pos h0])
    obtain ⟨k1, k2, k3, k4, k5, k6, k7, k8⟩ := tipE_zero (HE.out.trans h0)
    subst h0
    have m1 := mul_bd0 k1 (show x.tl ≤ 1000000000000 by omega) (show 0 ≤ x.sp by omega) k8
    have m2 := mul_bd0 (show 0 ≤ x.th by omega) k3 (show 0 ≤ x.sp by omega) k8
    go_wp2_with fail
    refine wp_region_b 18 (by kernel_rfl) (by kernel_rfl) ?_; simp only [List.take, List.drop]
    repeat (first
      | (apply StepsD.run
         · go_simp
           done
         · intro w' hS K hK
           have hc := (bcell hS).1
           have hf := (bcell hS).2
           have hz := hS.size
           try simp at hz
           go_simp
           try go_bits
           first
             | exact hK _ hS
             | exact hK _ (by repeat (first | (with_reducible exact Below.refl _ _) | (with_reducible assumption) | ((with_reducible refine Below.setCell ?_ ?_ _); rotate_left; · (first | exact Nat.le_refl _ | (simp; done) | (simp; omega) | omega)) | ((with_reducible refine Below.alloc ?_ ?_ _); rotate_left; · (first | exact Nat.le_refl _ | (simp; done) | (simp; omega) | omega)) | (with_reducible apply Below.drew) | (with_reducible apply below_drewN') | (refine Below.trans ?_ (Below.mono (by assumption) (by first | exact Nat.le_refl _ | (simp; done) | (simp; omega) | omega))) | exact Below.refl _ _ | assumption))
         · simp [Act.put]
           done)
      | (apply StepsD.pass
         · go_simp
           done
         · simp only [Act.put, List.setIfInBounds_toArray, List.set_cons_succ, List.set_cons_zero]
           rfl))
    refine StepsD.done ?_
    intro w2 hS
    replace b0 := b0.gr hS
    replace b2 := b2.gr hS
    replace hBB := hBB.trans (Below.mono hS (Below.size hBB))
    clear hS
    clear l_b0 e0 e1 e2 e3 e4 f0 l_b2 g0 g1 f2
    have l_b0 := b0.lt
    have l_b2 := b2.lt
    obtain ⟨e0, e1, e2, e3, e4, f0⟩ := blk5c b0
    obtain ⟨g0, g1, f2⟩ := blk2c b2
    have q1 : 0 ≤ x.tl * x.sp / 20000000 ∧ x.tl * x.sp / 20000000 ≤ 500000000 := by omega
    have q2 : 0 ≤ (x.th * x.sp + 20000000 - 1) / 20000000 ∧ (x.th * x.sp + 20000000 - 1) / 20000000 ≤ 500000000 := by omega
    have HLo : Hid (tipLo x = max 0 ((x.tl * x.sp / 20000000) * (x.tl * x.sp / 20000000) - x.oh * x.oh)) := Lib.hid rfl
    have HHi : Hid (tipHi x = ((x.th * x.sp + 20000000 - 1) / 20000000) * ((x.th * x.sp + 20000000 - 1) / 20000000) - x.ol * x.ol) := Lib.hid rfl
    have r1 := mul_bd0 q1.1 q1.2 q1.1 q1.2
    have r2 := mul_bd0 q2.1 q2.2 q2.1 q2.2
    have r3 := mul_bd0 (show 0 ≤ x.oh by omega) k6 (show 0 ≤ x.oh by omega) k6
    have r4 := mul_bd0 k4 (show x.ol ≤ 100000 by omega) k4 (show x.ol ≤ 100000 by omega)
    go_wp2_with fail
    refine wp_region_b 25 (by kernel_rfl) (by kernel_rfl) ?_; simp only [List.take, List.drop]
    repeat (first
      | (apply StepsD.run
         · go_simp
           done
         · intro w' hS K hK
           have hc := (bcell hS).1
           have hf := (bcell hS).2
           have hz := hS.size
           try simp at hz
           go_simp
           try go_bits
           first
             | exact hK _ hS
             | exact hK _ (by repeat (first | (with_reducible exact Below.refl _ _) | (with_reducible assumption) | ((with_reducible refine Below.setCell ?_ ?_ _); rotate_left; · (first | exact Nat.le_refl _ | (simp; done) | (simp; omega) | omega)) | ((with_reducible refine Below.alloc ?_ ?_ _); rotate_left; · (first | exact Nat.le_refl _ | (simp; done) | (simp; omega) | omega)) | (with_reducible apply Below.drew) | (with_reducible apply below_drewN') | (refine Below.trans ?_ (Below.mono (by assumption) (by first | exact Nat.le_refl _ | (simp; done) | (simp; omega) | omega))) | exact Below.refl _ _ | assumption))
         · simp [Act.put]
           done)
      | (apply StepsD.pass
         · go_simp
           done
         · simp only [Act.put, List.setIfInBounds_toArray, List.set_cons_succ, List.set_cons_zero]
           rfl))
    refine StepsD.done ?_
    intro w3 hS
    replace b0 := b0.gr hS
    replace b2 := b2.gr hS
    replace hBB := hBB.trans (Below.mono hS (Below.size hBB))
    clear hS
    clear l_b0 e0 e1 e2 e3 e4 f0 l_b2 g0 g1 f2
    have l_b0 := b0.lt
    have l_b2 := b2.lt
    obtain ⟨e0, e1, e2, e3, e4, f0⟩ := blk5c b0
    obtain ⟨g0, g1, f2⟩ := blk2c b2
    obtain ⟨A, hA⟩ : ∃ A, (if x.oh * x.oh < x.tl * x.sp / 20000000 * (x.tl * x.sp / 20000000) then x.tl * x.sp / 20000000 * (x.tl * x.sp / 20000000) - x.oh * x.oh else 0) = A := ⟨_, rfl⟩
    obtain ⟨B, hB⟩ : ∃ B, (x.th * x.sp + 20000000 - 1) / 20000000 * ((x.th * x.sp + 20000000 - 1) / 20000000) - x.ol * x.ol = B := ⟨_, rfl⟩
    rw [hA, hB]
    have HA : Hid (tipLo x = A) := Lib.hid (by rw [HLo.out, ← hA]; split <;> omega)
    have HB : Hid (tipHi x = B) := Lib.hid (by rw [HHi.out, ← hB])
    have a1 : 0 ≤ A ∧ A < 288230376151711744 := by rw [← hA]; split <;> omega
    have a2 : -10000000000 ≤ B ∧ B < 288230376151711744 := by omega
    clear hA hB HLo HHi r1 r2 r3 r4 q1 q2 m1 m2
    by_cases hneg : B < 0
    · have HV2 : Hid (tipV x = ⟨0, 0, 12⟩) := Lib.hid (by rw [HV.out, HB.out, if_pos hneg])
      go_wp2
      have b3 := b2.set2 (.int .i64 0) (.int .i64 0)
      obtain ⟨u0, u1, _⟩ := blk2c b3
      rw [HV2.out]
      exact bodyPost_ret (v := .tuple #[.agg #[.int .i64 0, .int .i64 0], .int .i64 12]) (by simp [results, Tryz.results22, go_sem, u0, u1]) rfl ⟨rfl, (hBB.setCell (by simp) _).setCell (by simp) _⟩
    · have hz := Below.size hBB
      have i1 := isq_nonneg A
      have i2 := isq_nonneg B
      have i3 : isq A < 536870913 := by
        have := isq_le a1.1
        by_cases h : isq A < 536870913
        · exact h
        · have h2 := sq_mono (by omega) (show 536870913 ≤ isq A by omega); omega
      have i4 : isq B < 536870913 := by
        have := isq_le (show 0 ≤ B by omega)
        by_cases h : isq B < 536870913
        · exact h
        · have h2 := sq_mono (by omega) (show 536870913 ≤ isq B by omega); omega
      have s4 := mul_bd0 i2 (show isq B ≤ 536870912 by omega) i2 (show isq B ≤ 536870912 by omega)
      have HA1 : Hid (0 ≤ A ∧ A < 288230376151711744) := Lib.hid a1
      have HB1 : Hid (0 ≤ B ∧ B < 288230376151711744) := Lib.hid (by omega)
      have a2' : 0 ≤ B := by omega
      clear a1 a2
      go_wp2_with fail
      refine (root_any _ HA1.out.1 HA1.out.2 _).mono ?_
      rintro e w1 ⟨rfl, rfl⟩
      go_wp2_with fail
      refine (root_any _ HB1.out.1 HB1.out.2 _).mono ?_
      rintro e w1 ⟨rfl, rfl⟩
      obtain ⟨RA, hRA⟩ : ∃ R, isq A = R := ⟨_, rfl⟩
      obtain ⟨RB, hRB⟩ : ∃ R, isq B = R := ⟨_, rfl⟩
      rw [hRA] at i1 i3 ⊢
      rw [hRB] at i2 i4 s4 ⊢
      have HRA := Lib.hid hRA; have HRB := Lib.hid hRB
      clear hRA hRB
      have hwl := Blk.new w3 44 #[.int .i64 RA, .int .i64 RB]
      by_cases hlt : RB * RB < B
      · have HV2 : Hid (tipV x = ⟨RA, RB + 1, 0⟩) := Lib.hid (by rw [HV.out, HB.out, HA.out, if_neg (by omega), HRA.out]; unfold isqUp; rw [HRB.out, if_pos hlt])
        go_wp2
        have b3 := (b2.set2 (.int .i64 RA) (.int .i64 (RB + 1))).alloc (.cells #[.int .i64 RA, .int .i64 (RB + 1)] 44)
        obtain ⟨u0, u1, _⟩ := blk2c b3
        rw [HV2.out]
        exact bodyPost_ret (v := .tuple #[.agg #[.int .i64 RA, .int .i64 (RB + 1)], .int .i64 0]) (by simp [results, Tryz.results22, go_sem, u0, u1]) rfl ⟨rfl, ((hBB.setCell (by simp) _).setCell (by simp) _).alloc (by simp; omega) _⟩
      · have HV2 : Hid (tipV x = ⟨RA, RB, 0⟩) := Lib.hid (by rw [HV.out, HB.out, HA.out, if_neg (by omega), HRA.out]; unfold isqUp; rw [HRB.out, if_neg hlt])
        go_wp2
        have b3 := (b2.set2 (.int .i64 RA) (.int .i64 RB)).alloc (.cells #[.int .i64 RA, .int .i64 RB] 44)
        obtain ⟨u0, u1, _⟩ := blk2c b3
        rw [HV2.out]
        exact bodyPost_ret (v := .tuple #[.agg #[.int .i64 RA, .int .i64 RB], .int .i64 0]) (by simp [results, Tryz.results22, go_sem, u0, u1]) rfl ⟨rfl, ((hBB.setCell (by simp) _).setCell (by simp) _).alloc (by simp; omega) _⟩
  · have HV : Hid (tipV x = ⟨0, 0, E⟩) := Lib.hid (by unfold tipV; rw [HE.out, if_neg h0])
    have h0' : (E != 0) = true := by simpa using h0
    go_wp2
    have b3 := b2.set2 (.int .i64 0) (.int .i64 0)
    obtain ⟨u0, u1, _⟩ := blk2c b3
    rw [HV.out]
    exact bodyPost_ret (v := .tuple #[.agg #[.int .i64 0, .int .i64 0], .int .i64 E]) (by simp [results, Tryz.results22, go_sem, u0, u1]) rfl ⟨rfl, (hBB.setCell (by simp) _).setCell (by simp) _⟩
end Go.Proofs.YtclpljbllnhhbaaGreat
