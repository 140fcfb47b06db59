/- Plain law: the true size is enclosed. No program in sight. -/
import Derived.Test.YtidgeagpgllkeaaGreatFaP
namespace Go.Proofs.YtidgeagpgllkeaaGreat

theorem le_isq {a n : Int} (hn : 0 ≤ n) (h : a * a ≤ n) : a ≤ isq n := by
  have h1 := lt_isq hn
  have h2 := isq_nonneg n
  rcases Int.lt_or_le (isq n) a with h3 | h3
  · have := Int.mul_le_mul (show isq n + 1 ≤ a by omega) (show isq n + 1 ≤ a by omega) (by omega) (by omega)
    omega
  · exact h3
theorem isq_le_of {b n : Int} (hb : 0 ≤ b) (h : n ≤ b * b) : isq n ≤ b := by
  rcases Int.lt_or_le n 0 with h0 | h0
  · have : isq n = 0 := by unfold isq; rw [show n.toNat = 0 by omega]; rfl
    omega
  · have h1 := isq_le h0
    rcases Int.lt_or_le b (isq n) with h3 | h3
    · have := Int.mul_le_mul (show b + 1 ≤ isq n by omega) (show b + 1 ≤ isq n by omega) (by omega) (by omega)
      have e : (b + 1) * (b + 1) = b * b + 2 * b + 1 := by rw [Int.add_mul, Int.mul_add]; omega
      omega
    · exact h3
theorem isqUp_sq (n : Int) : n ≤ isqUp n * isqUp n := by
  unfold isqUp
  rcases Int.lt_or_le n 0 with h0 | h0
  · have h2 : isq n = 0 := by unfold isq; rw [show n.toNat = 0 by omega]; rfl
    rw [h2, if_neg (by omega)]; omega
  · split
    · have := lt_isq h0; omega
    · omega
theorem isqUp_nonneg (n : Int) : 0 ≤ isqUp n := by
  have := isq_nonneg n
  unfold isqUp; split <;> omega
theorem isqUp_le_of {b n : Int} (hb : 0 ≤ b) (h : n ≤ b * b) : isqUp n ≤ b := by
  have h1 := isq_le_of hb h
  unfold isqUp
  split
  · rcases Int.lt_or_le (isq n) b with h3 | h3
    · omega
    · have h4 : isq n = b := by omega
      have h5 : isq n * isq n = b * b := by rw [h4]
      omega
  · exact h1
theorem le_isqUp {a n : Int} (ha : 0 ≤ a) (h : a * a ≤ n) : a ≤ isqUp n := by
  have h1 := isqUp_sq n
  have h2 := isqUp_nonneg n
  rcases Int.lt_or_le (isqUp n) a with h3 | h3
  · have := Int.mul_le_mul (show isqUp n + 1 ≤ a by omega) (show isqUp n + 1 ≤ a by omega) (by omega) (by omega)
    have e : (isqUp n + 1) * (isqUp n + 1) = isqUp n * isqUp n + 2 * isqUp n + 1 := by rw [Int.add_mul, Int.mul_add]; omega
    omega
  · exact h3
theorem isq_le_isqUp (n : Int) : isq n ≤ isqUp n := by unfold isqUp; split <;> omega
theorem sq_le_of {a b : Int} (hb : 0 ≤ b) (h : a * a ≤ b * b) : a ≤ b := by
  rcases Int.lt_or_le b a with h3 | h3
  · have := Int.mul_le_mul (show b + 1 ≤ a by omega) (show b + 1 ≤ a by omega) (by omega) (by omega)
    have e : (b + 1) * (b + 1) = b * b + 2 * b + 1 := by rw [Int.add_mul, Int.mul_add]; omega
    omega
  · exact h3

theorem rangeE_ok {a b lo hi : Int} (h1 : lo ≤ a) (h2 : a ≤ b) (h3 : b ≤ hi) : rangeE a b lo hi = 0 := by
  have k1 : wi a lo hi = true := by simp [wi]; omega
  have k2 : wi b lo hi = true := by simp [wi]; omega
  unfold rangeE; rw [k1, k2]; simp [h2]

/-- The time of a way so far along and so far down. -/
def wayN (x z : Int) : Int := 1000000 * (x * x + z * z)
def tLo (x z sp : Int) : Int := isq (wayN x z) * 10000 / sp
def tHi (x z sp : Int) : Int := -(-(isqUp (wayN x z) * 10000) / sp)

/-- The tip that is told. -/
def tipAt (x z sp u v : Int) : Tip := ⟨max 0 (2 * tLo x z sp - u), 2 * tHi x z sp + v, x, x, sp⟩

theorem wayN_bd {x z : Int} (hx : 0 ≤ x ∧ x ≤ 20000) (hz : 0 ≤ z ∧ z ≤ 20000) : 0 ≤ wayN x z ∧ wayN x z ≤ 800000000000000 := by
  have h1 := Int.mul_le_mul hx.2 hx.2 hx.1 (by omega)
  have h2 := Int.mul_le_mul hz.2 hz.2 hz.1 (by omega)
  have h3 := Int.mul_nonneg hx.1 hx.1
  have h4 := Int.mul_nonneg hz.1 hz.1
  unfold wayN; omega
theorem time_bd {x z sp : Int} (hx : 0 ≤ x ∧ x ≤ 20000) (hz : 0 ≤ z ∧ z ≤ 20000) (hs : 500 ≤ sp ∧ sp ≤ 10000) :
    0 ≤ tLo x z sp ∧ tLo x z sp ≤ tHi x z sp ∧ tHi x z sp ≤ 700000000 ∧ tLo x z sp * sp ≤ isq (wayN x z) * 10000 ∧ isqUp (wayN x z) * 10000 ≤ tHi x z sp * sp := by
  have hN := wayN_bd hx hz
  have l0 := isq_nonneg (wayN x z)
  have u0 := isqUp_nonneg (wayN x z)
  have lu := isq_le_isqUp (wayN x z)
  have u1 : isqUp (wayN x z) ≤ 30000000 := isqUp_le_of (by omega) (by omega)
  have a0 : 0 ≤ tLo x z sp := Int.ediv_nonneg (by omega) (by omega)
  have a1 : tLo x z sp * sp ≤ isq (wayN x z) * 10000 := Int.ediv_mul_le _ (by omega)
  have b1 : -(isqUp (wayN x z) * 10000) / sp * sp ≤ -(isqUp (wayN x z) * 10000) := Int.ediv_mul_le _ (by omega)
  have b2 : isqUp (wayN x z) * 10000 ≤ tHi x z sp * sp := by unfold tHi; rw [Int.neg_mul]; omega
  have b3 : -(isqUp (wayN x z) * 10000) < (-(isqUp (wayN x z) * 10000) / sp + 1) * sp := Int.lt_ediv_add_one_mul_self _ (by omega)
  have ab : tLo x z sp ≤ tHi x z sp := by
    have : tLo x z sp * sp ≤ tHi x z sp * sp := by omega
    exact Int.le_of_mul_le_mul_right this (by omega)
  refine ⟨a0, ab, ?_, a1, b2⟩
  rcases Int.lt_or_le 700000000 (tHi x z sp) with h | h
  · exfalso
    unfold tHi at h
    generalize -(isqUp (wayN x z) * 10000) / sp = q at *
    have h2 : 700000000 * 500 ≤ (-(q + 1)) * sp := Int.mul_le_mul (by omega) hs.1 (by omega) (by omega)
    rw [Int.neg_mul] at h2
    omega
  · exact h
theorem tip_bd {x z sp u v : Int} (hx : 0 ≤ x ∧ x ≤ 20000) (hz : 0 ≤ z ∧ z ≤ 20000) (hs : 500 ≤ sp ∧ sp ≤ 10000) (hu : 0 ≤ u ∧ u ≤ 1000000) (hv : 0 ≤ v ∧ v ≤ 1000000) :
    tipE (tipAt x z sp u v) = 0 ∧ 0 ≤ tipHi (tipAt x z sp u v) ∧ isq (tipLo (tipAt x z sp u v)) ≤ z ∧ z ≤ isqUp (tipHi (tipAt x z sp u v)) ∧ isqUp (tipHi (tipAt x z sp u v)) ≤ 10000000 := by
  obtain ⟨t0, t1, t2, t3, t4⟩ := time_bd hx hz hs
  have hN := wayN_bd hx hz
  have l0 := isq_nonneg (wayN x z)
  have u0 := isqUp_nonneg (wayN x z)
  have l2 := isq_le hN.1
  have u2 := isqUp_sq (wayN x z)
  have hE : tipE (tipAt x z sp u v) = 0 := by
    unfold tipE tipAt
    rw [firstE_zero]
    have e1 : rangeE (max 0 (2 * tLo x z sp - u)) (2 * tHi x z sp + v) 0 1000000000000 = 0 := rangeE_ok (by omega) (by omega) (by omega)
    have e2 : rangeE x x 0 100000 = 0 := rangeE_ok (by omega) (by omega) (by omega)
    have e3 : unlessE (wi sp 500 10000) 2 = 0 := by
      have h1 : wi sp 500 10000 = true := by simp [wi]; omega
      unfold unlessE; rw [if_pos h1]
    intro e he
    simp only [List.mem_cons, List.not_mem_nil, or_false] at he
    rcases he with rfl | rfl | rfl
    · exact e1
    · exact e2
    · exact e3
  -- the lower end
  obtain ⟨a, ha⟩ : ∃ a, max 0 (2 * tLo x z sp - u) * sp / 20000000 = a := ⟨_, rfl⟩
  obtain ⟨b, hb⟩ : ∃ b, ((2 * tHi x z sp + v) * sp + 20000000 - 1) / 20000000 = b := ⟨_, rfl⟩
  have m1 : max 0 (2 * tLo x z sp - u) * sp ≤ 2 * tLo x z sp * sp := Int.mul_le_mul_of_nonneg_right (by omega) (by omega)
  have m0 : 0 ≤ max 0 (2 * tLo x z sp - u) * sp := Int.mul_nonneg (by omega) (by omega)
  have m2 : 2 * tLo x z sp * sp = 2 * (tLo x z sp * sp) := Int.mul_assoc _ _ _
  have m3 : 2 * tHi x z sp * sp ≤ (2 * tHi x z sp + v) * sp := Int.mul_le_mul_of_nonneg_right (by omega) (by omega)
  have m4 : 2 * tHi x z sp * sp = 2 * (tHi x z sp * sp) := Int.mul_assoc _ _ _
  have m5 : (2 * tHi x z sp + v) * sp ≤ 1401000000 * 10000 := Int.mul_le_mul (by omega) hs.2 (by omega) (by omega)
  have a0 : 0 ≤ a := by omega
  have a1 : 1000 * a ≤ isq (wayN x z) := by omega
  have b0 : 0 ≤ b ∧ b ≤ 10000000 := by omega
  have b1 : isqUp (wayN x z) ≤ 1000 * b := by omega
  have a2 := Int.mul_le_mul a1 a1 (by omega) l0
  have b2 := Int.mul_le_mul b1 b1 u0 (by omega)
  have e1 : 1000 * a * (1000 * a) = 1000000 * (a * a) := by rw [Int.mul_assoc, Int.mul_left_comm a]; omega
  have e2 : 1000 * b * (1000 * b) = 1000000 * (b * b) := by rw [Int.mul_assoc, Int.mul_left_comm b]; omega
  have a3 : a * a ≤ x * x + z * z := by unfold wayN at *; omega
  have b3 : x * x + z * z ≤ b * b := by unfold wayN at *; omega
  have hz2 := Int.mul_nonneg hz.1 hz.1
  have hx2 := Int.mul_nonneg hx.1 hx.1
  have eLo : tipLo (tipAt x z sp u v) = max 0 (a * a - x * x) := by unfold tipLo tipAt; dsimp only; rw [ha]
  have eHi : tipHi (tipAt x z sp u v) = b * b - x * x := by unfold tipHi tipAt; dsimp only; rw [hb]
  rw [eLo, eHi]
  exact ⟨hE, by omega, isq_le_of hz.1 (by omega), le_isqUp hz.1 (by omega), Int.le_trans (isqUp_le_of b0.1 (by omega)) b0.2⟩

/-- What the tips' depths say of their height. -/
theorem height_of {lo0 hi0 lo1 hi1 z0 z1 : Int} (h0 : lo0 ≤ z0 ∧ z0 ≤ hi0) (h1 : lo1 ≤ z1 ∧ z1 ≤ hi1) (p0 : 0 ≤ lo0) (p1 : 0 ≤ lo1) (q0 : hi0 ≤ 10000000) (q1 : hi1 ≤ 10000000) (hz : z0 ≤ z1) :
    heightV lo0 hi0 lo1 hi1 = ⟨max 0 (lo1 - hi0), hi1 - lo0, 0⟩ ∧ wi (z1 - z0) (max 0 (lo1 - hi0)) (hi1 - lo0) = true := by
  have e1 : ∀ a b : Int, 0 ≤ a → a ≤ b → b ≤ 10000000 → rangeE a b (-1000000000) 1000000000 = 0 := fun a b h1 h2 h3 => rangeE_ok (by omega) h2 (by omega)
  have hE : heightE lo0 hi0 lo1 hi1 = 0 := by
    unfold heightE
    rw [e1 _ _ p0 (by omega) q0, e1 _ _ p1 (by omega) q1, show decide (lo0 ≤ hi1) = true by simp; omega]; rfl
  exact ⟨by unfold heightV; rw [if_pos hE], by simp [wi]; omega⟩
end Go.Proofs.YtidgeagpgllkeaaGreat
