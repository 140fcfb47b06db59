/- Plain law of CoverMirrors: what the points of a part are; the part of a face the other way round; of a mirrored, and of a moved joint. No program in sight. What CoverMirrors wants beside: joints with other faces, rows of faces in a block of their own. -/
import Derived.Test.YtlnkgjkjdllckaaGreatDoorZpCwZ
import Derived.Test.YtlnkgjkjdllckaaGreatDoorZpCvX
import Derived.Test.YtlnkgjkjdllckaaGreatDoorZpCxA
namespace Go.Proofs.YtlnkgjkjdllckaaGreatDoor

/-- A part has a point. -/
def PV.hasP (p : PV) (n m : Int) : Prop := p.none = false ∧ p.a * m ≤ n * p.b ∧ n * p.d ≤ p.c * m
theorem PV.has_iff (p : PV) (n m : Int) : p.has n m = true ↔ p.hasP n m := by
  unfold PV.has PV.hasP
  simp only [Bool.and_eq_true, Bool.not_eq_true', decide_eq_true_eq, cmpI_lei]
theorem PV.hasP_shut {q : PV} (h : q.pos) {n m : Int} (hm : 0 < m) : q.shut.hasP n m ↔ q.hasP n m := by
  unfold PV.shut PV.hasP
  simp only [Bool.or_eq_false_iff, decide_eq_false_iff_not, cmpI_gti]
  constructor
  · rintro ⟨⟨h1, _⟩, h2, h3⟩; exact ⟨h1, h2, h3⟩
  · rintro ⟨h1, h2, h3⟩
    have := frac_trans_le (a := q.a) (b := q.b) (c := n) (d := m) (e := q.c) (f := q.d) h.1 hm h.2 h2 h3
    exact ⟨⟨h1, by omega⟩, h2, h3⟩
theorem PV.hasP_frm {p : PV} (h : p.pos) {u v n m : Int} (hv : 0 < v) (hm : 0 < m) : (p.frm u v).hasP n m ↔ p.hasP n m ∧ u * m ≤ n * v := by
  unfold PV.frm
  by_cases c : p.a * v < u * p.b
  · rw [if_pos (by simpa [cmpI_gti] using c), PV.hasP_shut (q := ⟨u, v, p.c, p.d, p.none, p.up⟩) ⟨hv, h.2⟩ hm]
    unfold PV.hasP
    constructor
    · rintro ⟨h1, h2, h3⟩
      exact ⟨⟨h1, frac_trans_le h.1 hv hm (Int.le_of_lt c) h2, h3⟩, h2⟩
    · rintro ⟨⟨h1, _, h3⟩, h4⟩; exact ⟨h1, h4, h3⟩
  · rw [if_neg (by simpa [cmpI_gti] using c), PV.hasP_shut h hm]
    unfold PV.hasP
    constructor
    · rintro ⟨h1, h2, h3⟩
      exact ⟨⟨h1, h2, h3⟩, frac_trans_le hv h.1 hm (by omega) h2⟩
    · rintro ⟨h1, _⟩; exact h1
theorem PV.hasP_to {p : PV} (h : p.pos) {u v n m : Int} (hv : 0 < v) (hm : 0 < m) : (p.to u v).hasP n m ↔ p.hasP n m ∧ n * v ≤ u * m := by
  unfold PV.to
  by_cases c : u * p.d < p.c * v
  · rw [if_pos (by simpa [cmpI_lti] using c), PV.hasP_shut (q := ⟨p.a, p.b, u, v, p.none, p.up⟩) ⟨h.1, hv⟩ hm]
    unfold PV.hasP
    constructor
    · rintro ⟨h1, h2, h3⟩
      exact ⟨⟨h1, h2, frac_trans_le hm hv h.2 h3 (Int.le_of_lt c)⟩, h3⟩
    · rintro ⟨⟨h1, h2, _⟩, h4⟩; exact ⟨h1, h2, h4⟩
  · rw [if_neg (by simpa [cmpI_lti] using c), PV.hasP_shut h hm]
    unfold PV.hasP
    constructor
    · rintro ⟨h1, h2, h3⟩
      exact ⟨⟨h1, h2, h3⟩, frac_trans_le hm h.2 hv h3 (by omega)⟩
    · rintro ⟨h1, _⟩; exact h1
theorem share_cross (n d : Int) : shN n d * d = n * shD n d := by
  unfold shN shD
  have h1 : n / (Int.gcd n d : Int) * (Int.gcd n d : Int) = n := Int.ediv_mul_cancel (Int.gcd_dvd_left n d)
  have h2 : d / (Int.gcd n d : Int) * (Int.gcd n d : Int) = d := Int.ediv_mul_cancel (Int.gcd_dvd_right n d)
  generalize (Int.gcd n d : Int) = g at *
  generalize n / g = x at *
  generalize d / g = y at *
  subst h1 h2
  grind
theorem share_le {u v n m : Int} (hv : 0 < v) (hm : 0 < m) : shN u v * m ≤ n * shD u v ↔ u * m ≤ n * v := by
  have hc := share_cross u v
  have hp := shD_pos (n := u) hv
  constructor
  · intro h; exact frac_trans_le hv hp hm (by omega) h
  · intro h; exact frac_trans_le hp hv hm (by omega) h
theorem share_ge {u v n m : Int} (hv : 0 < v) (hm : 0 < m) : n * shD u v ≤ shN u v * m ↔ n * v ≤ u * m := by
  have hc := share_cross u v
  have hp := shD_pos (n := u) hv
  constructor
  · intro h; exact frac_trans_le hm hp hv h (by omega)
  · intro h; exact frac_trans_le hm hv hp h (by omega)
theorem mul_nn {a b : Int} (h1 : 0 ≤ a) (h2 : 0 ≤ b) : 0 ≤ a * b := Int.mul_nonneg h1 h2
/-- A cut leaves the shares at which n + m t is not below 0. -/
theorem PV.hasP_cut {p : PV} (h : p.pos) {u v n m : Int} (hn : 0 ≤ n) (hm : 0 < m) : (p.cut u v).hasP n m ↔ p.hasP n m ∧ 0 ≤ u * m + v * n := by
  unfold PV.cut
  by_cases c1 : v = 0
  · rw [if_pos c1]
    subst c1
    unfold PV.hasP
    simp only [Bool.or_eq_false_iff, decide_eq_false_iff_not, Int.zero_mul, Int.add_zero]
    constructor
    · rintro ⟨⟨h1, h2⟩, h3, h4⟩; exact ⟨⟨h1, h3, h4⟩, Int.mul_nonneg (by omega) (by omega)⟩
    · rintro ⟨⟨h1, h3, h4⟩, h2⟩
      refine ⟨⟨h1, fun h => ?_⟩, h3, h4⟩
      have := Int.mul_neg_of_neg_of_pos h hm
      omega
  rw [if_neg c1]
  by_cases c2 : 0 < v ∧ u < 0
  · rw [if_pos c2, PV.hasP_frm h (shD_pos c2.1) hm, share_le c2.1 hm]
    have e : n * v = v * n := Int.mul_comm _ _
    have e2 : -u * m = -(u * m) := Int.neg_mul _ _
    rw [e, e2]
    constructor
    · rintro ⟨h1, h2⟩; exact ⟨h1, by omega⟩
    · rintro ⟨h1, h2⟩; exact ⟨h1, by omega⟩
  rw [if_neg c2]
  by_cases c3 : v < 0 ∧ u < 0
  · rw [if_pos c3]
    constructor
    · rintro ⟨h1, _⟩; simp at h1
    · rintro ⟨_, h2⟩
      have h3 := Int.mul_neg_of_neg_of_pos c3.2 hm
      have h4 := mul_nn (a := -v) (b := n) (by omega) hn
      rw [Int.neg_mul] at h4
      omega
  rw [if_neg c3]
  by_cases c4 : v < 0
  · rw [if_pos c4, PV.hasP_to h (shD_pos (by omega)) hm, share_ge (by omega) hm]
    have e : n * -v = -(v * n) := by rw [Int.mul_neg, Int.mul_comm]
    rw [e]
    constructor
    · rintro ⟨h1, h2⟩; exact ⟨h1, by omega⟩
    · rintro ⟨h1, h2⟩; exact ⟨h1, by omega⟩
  · rw [if_neg c4]
    have h3 := mul_nn (a := u) (b := m) (by omega) (by omega)
    have h4 := mul_nn (a := v) (b := n) (by omega) hn
    constructor
    · intro h1; exact ⟨h1, by omega⟩
    · rintro ⟨h1, _⟩; exact h1

/-- What the points of a part are. -/
theorem metW_has (wx wz dx dz : Int) (s : Su) {n m : Int} (hn : 0 ≤ n) (hm : 0 < m) : (metW wx wz dx dz s).hasP n m ↔ wx * dz - wz * dx ≠ 0 ∧ n ≤ m ∧
    0 ≤ (s.side * dx * s.ld - dz * s.ln) * m + (s.side * wx * s.ld - wz * s.ln) * n ∧
    0 ≤ (dz * s.mn - s.side * dx * s.md) * m + (wz * s.mn - s.side * wx * s.md) * n ∧
    0 ≤ (max (wx * dz - wz * dx) (-(wx * dz - wz * dx)) * s.tn - (wx * dx + wz * dz) * s.td) * m + (-1 * (wx * wx + wz * wz) * s.td) * n ∧
    0 ≤ (max (wx * dz - wz * dx) (-(wx * dz - wz * dx)) * s.tn - -1 * (wx * dx + wz * dz) * s.td) * m + ((wx * wx + wz * wz) * s.td) * n := by
  unfold metW
  by_cases k : wx * dz - wz * dx = 0
  · simp only [if_pos k]
    constructor
    · rintro ⟨h1, _⟩; simp at h1
    · rintro ⟨h1, _⟩; exact absurd k h1
  simp only [if_neg k]
  have p1 : PV.pos ⟨0, 1, 1, 1, false, decide (0 < wx * dz - wz * dx)⟩ := ⟨by simp, by simp⟩
  rw [PV.hasP_cut (PV.cut_pos (PV.cut_pos (PV.cut_pos p1))) hn hm, PV.hasP_cut (PV.cut_pos (PV.cut_pos p1)) hn hm, PV.hasP_cut (PV.cut_pos p1) hn hm, PV.hasP_cut p1 hn hm]
  unfold PV.hasP
  simp only [true_and]
  constructor
  · rintro ⟨⟨⟨⟨⟨_, h1⟩, h2⟩, h3⟩, h4⟩, h5⟩; exact ⟨k, by omega, h2, h3, h4, h5⟩
  · rintro ⟨_, h1, h2, h3, h4, h5⟩; exact ⟨⟨⟨⟨⟨by omega, by omega⟩, h2⟩, h3⟩, h4⟩, h5⟩

/-! ### mirrored -/
end Go.Proofs.YtlnkgjkjdllckaaGreatDoor

namespace Go.Proofs.YtlnkgjkjdllckaaGreatDoor
open Go.RowKit

/-- The numbers of a right face. -/
def plOk (f : Fc) (thick : Int) : Prop := -20000 ≤ f.fx ∧ f.fx ≤ 20000 ∧ -20000 ≤ f.tx ∧ f.tx ≤ 20000 ∧ 0 ≤ f.fz ∧ f.fz ≤ thick ∧ 0 ≤ f.tz ∧ f.tz ≤ thick ∧ ¬ (f.fx = f.tx ∧ f.fz = f.tz)
theorem plOk_of {j : Jo} (h : (jointE j).2 = 0) {k : Nat} (hk : k < j.fs.length) : plOk j.fs[k].2 j.thick := faceE_zero ((jointE_zero h).2.2.2.2.2 k hk)

/-! ### what the statement asks -/

/-! ### stores into blocks of many cells -/
end Go.Proofs.YtlnkgjkjdllckaaGreatDoor
