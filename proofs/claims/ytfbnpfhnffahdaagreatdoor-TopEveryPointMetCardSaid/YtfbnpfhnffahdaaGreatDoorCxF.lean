/- Plain law of CoverMirrors: what the points of a part are; the part of a face the other way round; of a mirrored, and of a moved joint. No program in sight. What CoverMirrors wants beside: joints with other faces, rows of faces in a block of their own. -/
import Derived.Test.YtfbnpfhnffahdaaGreatDoorCwZ
import Derived.Test.YtfbnpfhnffahdaaGreatDoorCvX
import Derived.Test.YtfbnpfhnffahdaaGreatDoorCxA
namespace Go.Proofs.YtfbnpfhnffahdaaGreatDoor

/-- A part has a point. -/
def PV.hasP (p : PV) (n m : Int) : Prop := p.none = false ∧ p.a * m ≤ n * p.b ∧ n * p.d ≤ p.c * m
theorem PV.has_iff (p : PV) (n m : Int) : p.has n m = true ↔ p.hasP n m := by
  unfold PV.has PV.hasP
  simp only [Bool.and_eq_true, Bool.not_eq_true', decide_eq_true_eq, cmpI_lei]
theorem PV.hasP_shut {q : PV} (h : q.pos) {n m : Int} (hm : 0 < m) : q.shut.hasP n m ↔ q.hasP n m := by
  unfold PV.shut PV.hasP
  simp only [Bool.or_eq_false_iff, decide_eq_false_iff_not, cmpI_gti]
  constructor
  · rintro ⟨⟨h1, _⟩, h2, h3⟩; exact ⟨h1, h2, h3⟩
  · rintro ⟨h1, h2, h3⟩
    have := frac_trans_le (a := q.a) (b := q.b) (c := n) (d := m) (e := q.c) (f := q.d) h.1 hm h.2 h2 h3
    exact ⟨⟨h1, by omega⟩, h2, h3⟩
theorem PV.hasP_frm {p : PV} (h : p.pos) {u v n m : Int} (hv : 0 < v) (hm : 0 < m) : (p.frm u v).hasP n m ↔ p.hasP n m ∧ u * m ≤ n * v := by
  unfold PV.frm
  by_cases c : p.a * v < u * p.b
  · rw [if_pos (by simpa [cmpI_gti] using c), PV.hasP_shut (q := ⟨u, v, p.c, p.d, p.none, p.up⟩) ⟨hv, h.2⟩ hm]
    unfold PV.hasP
    constructor
    · rintro ⟨h1, h2, h3⟩
      exact ⟨⟨h1, frac_trans_le h.1 hv hm (Int.le_of_lt c) h2, h3⟩, h2⟩
    · rintro ⟨⟨h1, _, h3⟩, h4⟩; exact ⟨h1, h4, h3⟩
  · rw [if_neg (by simpa [cmpI_gti] using c), PV.hasP_shut h hm]
    unfold PV.hasP
    constructor
    · rintro ⟨h1, h2, h3⟩
      exact ⟨⟨h1, h2, h3⟩, frac_trans_le hv h.1 hm (by omega) h2⟩
    · rintro ⟨h1, _⟩; exact h1
theorem PV.hasP_to {p : PV} (h : p.pos) {u v n m : Int} (hv : 0 < v) (hm : 0 < m) : (p.to u v).hasP n m ↔ p.hasP n m ∧ n * v ≤ u * m := by
  unfold PV.to
  by_cases c : u * p.d < p.c * v
  · rw [if_pos (by simpa [cmpI_lti] using c), PV.hasP_shut (q := ⟨p.a, p.b, u, v, p.none, p.up⟩) ⟨h.1, hv⟩ hm]
    unfold PV.hasP
    constructor
    · rintro ⟨h1, h2, h3⟩
      exact ⟨⟨h1, h2, frac_trans_le hm hv h.2 h3 (Int.le_of_lt c)⟩, h3⟩
    · rintro ⟨⟨h1, h2, _⟩, h4⟩; exact ⟨h1, h2, h4⟩
  · rw [if_neg (by simpa [cmpI_lti] using c), PV.hasP_shut h hm]
    unfold PV.hasP
    constructor
    · rintro ⟨h1, h2, h3⟩
      exact ⟨⟨h1, h2, h3⟩, frac_trans_le hm h.2 hv h3 (by omega)⟩
    · rintro ⟨h1, _⟩; exact h1
theorem share_cross (n d : Int) : shN n d * d = n * shD n d := by
  unfold shN shD
  have h1 : n / (Int.gcd n d : Int) * (Int.gcd n d : Int) = n := Int.ediv_mul_cancel (Int.gcd_dvd_left n d)
  have h2 : d / (Int.gcd n d : Int) * (Int.gcd n d : Int) = d := Int.ediv_mul_cancel (Int.gcd_dvd_right n d)
  generalize (Int.gcd n d : Int) = g at *
  generalize n / g = x at *
  generalize d / g = y at *
  subst h1 h2
  grind
theorem share_le {u v n m : Int} (hv : 0 < v) (hm : 0 < m) : shN u v * m ≤ n * shD u v ↔ u * m ≤ n * v := by
  have hc := share_cross u v
  have hp := shD_pos (n := u) hv
  constructor
  · intro h; exact frac_trans_le hv hp hm (by omega) h
  · intro h; exact frac_trans_le hp hv hm (by omega) h
theorem share_ge {u v n m : Int} (hv : 0 < v) (hm : 0 < m) : n * shD u v ≤ shN u v * m ↔ n * v ≤ u * m := by
  have hc := share_cross u v
  have hp := shD_pos (n := u) hv
  constructor
  · intro h; exact frac_trans_le hm hp hv h (by omega)
  · intro h; exact frac_trans_le hm hv hp h (by omega)
theorem mul_nn {a b : Int} (h1 : 0 ≤ a) (h2 : 0 ≤ b) : 0 ≤ a * b := Int.mul_nonneg h1 h2
/-- A cut leaves the shares at which n + m t is not below 0. -/
theorem PV.hasP_cut {p : PV} (h : p.pos) {u v n m : Int} (hn : 0 ≤ n) (hm : 0 < m) : (p.cut u v).hasP n m ↔ p.hasP n m ∧ 0 ≤ u * m + v * n := by
  unfold PV.cut
  by_cases c1 : v = 0
  · rw [if_pos c1]
    subst c1
    unfold PV.hasP
    simp only [Bool.or_eq_false_iff, decide_eq_false_iff_not, Int.zero_mul, Int.add_zero]
    constructor
    · rintro ⟨⟨h1, h2⟩, h3, h4⟩; exact ⟨⟨h1, h3, h4⟩, Int.mul_nonneg (by omega) (by omega)⟩
    · rintro ⟨⟨h1, h3, h4⟩, h2⟩
      refine ⟨⟨h1, fun h => ?_⟩, h3, h4⟩
      have := Int.mul_neg_of_neg_of_pos h hm
      omega
  rw [if_neg c1]
  by_cases c2 : 0 < v ∧ u < 0
  · rw [if_pos c2, PV.hasP_frm h (shD_pos c2.1) hm, share_le c2.1 hm]
    have e : n * v = v * n := Int.mul_comm _ _
    have e2 : -u * m = -(u * m) := Int.neg_mul _ _
    rw [e, e2]
    constructor
    · rintro ⟨h1, h2⟩; exact ⟨h1, by omega⟩
    · rintro ⟨h1, h2⟩; exact ⟨h1, by omega⟩
  rw [if_neg c2]
  by_cases c3 : v < 0 ∧ u < 0
  · rw [if_pos c3]
    constructor
    · rintro ⟨h1, _⟩; simp at h1
    · rintro ⟨_, h2⟩
      have h3 := Int.mul_neg_of_neg_of_pos c3.2 hm
      have h4 := mul_nn (a := -v) (b := n) (by omega) hn
      rw [Int.neg_mul] at h4
      omega
  rw [if_neg c3]
  by_cases c4 : v < 0
  · rw [if_pos c4, PV.hasP_to h (shD_pos (by omega)) hm, share_ge (by omega) hm]
    have e : n * -v = -(v * n) := by rw [Int.mul_neg, Int.mul_comm]
    rw [e]
    constructor
    · rintro ⟨h1, h2⟩; exact ⟨h1, by omega⟩
    · rintro ⟨h1, h2⟩; exact ⟨h1, by omega⟩
  · rw [if_neg c4]
    have h3 := mul_nn (a := u) (b := m) (by omega) (by omega)
    have h4 := mul_nn (a := v) (b := n) (by omega) hn
    constructor
    · intro h1; exact ⟨h1, by omega⟩
    · rintro ⟨h1, _⟩; exact h1

/-- What the points of a part are. -/
theorem metW_has (wx wz dx dz : Int) (s : Su) {n m : Int} (hn : 0 ≤ n) (hm : 0 < m) : (metW wx wz dx dz s).hasP n m ↔ wx * dz - wz * dx ≠ 0 ∧ n ≤ m ∧
    0 ≤ (s.side * dx * s.ld - dz * s.ln) * m + (s.side * wx * s.ld - wz * s.ln) * n ∧
    0 ≤ (dz * s.mn - s.side * dx * s.md) * m + (wz * s.mn - s.side * wx * s.md) * n ∧
    0 ≤ (max (wx * dz - wz * dx) (-(wx * dz - wz * dx)) * s.tn - (wx * dx + wz * dz) * s.td) * m + (-1 * (wx * wx + wz * wz) * s.td) * n ∧
    0 ≤ (max (wx * dz - wz * dx) (-(wx * dz - wz * dx)) * s.tn - -1 * (wx * dx + wz * dz) * s.td) * m + ((wx * wx + wz * wz) * s.td) * n := by
  unfold metW
  by_cases k : wx * dz - wz * dx = 0
  · simp only [if_pos k]
    constructor
    · rintro ⟨h1, _⟩; simp at h1
    · rintro ⟨h1, _⟩; exact absurd k h1
  simp only [if_neg k]
  have p1 : PV.pos ⟨0, 1, 1, 1, false, decide (0 < wx * dz - wz * dx)⟩ := ⟨by simp, by simp⟩
  rw [PV.hasP_cut (PV.cut_pos (PV.cut_pos (PV.cut_pos p1))) hn hm, PV.hasP_cut (PV.cut_pos (PV.cut_pos p1)) hn hm, PV.hasP_cut (PV.cut_pos p1) hn hm, PV.hasP_cut p1 hn hm]
  unfold PV.hasP
  simp only [true_and]
  constructor
  · rintro ⟨⟨⟨⟨⟨_, h1⟩, h2⟩, h3⟩, h4⟩, h5⟩; exact ⟨k, by omega, h2, h3, h4, h5⟩
  · rintro ⟨_, h1, h2, h3, h4, h5⟩; exact ⟨⟨⟨⟨⟨by omega, by omega⟩, h2⟩, h3⟩, h4⟩, h5⟩

/-- The way the other way round: the points from the other end. -/
theorem metW_turn (wx wz dx dz : Int) (s : Su) {n m : Int} (hn : 0 ≤ n) (hnm : n ≤ m) (hm : 0 < m) : (metW (-wx) (-wz) (dx + wx) (dz + wz) s).hasP n m ↔ (metW wx wz dx dz s).hasP (m - n) m := by
  rw [metW_has _ _ _ _ _ hn hm, metW_has _ _ _ _ _ (by omega) hm]
  have e0 : -wx * (dz + wz) - -wz * (dx + wx) = -(wx * dz - wz * dx) := by grind
  rw [e0]
  have e1 : (s.side * (dx + wx) * s.ld - (dz + wz) * s.ln) * m + (s.side * -wx * s.ld - -wz * s.ln) * n = (s.side * dx * s.ld - dz * s.ln) * m + (s.side * wx * s.ld - wz * s.ln) * (m - n) := by grind
  have e2 : ((dz + wz) * s.mn - s.side * (dx + wx) * s.md) * m + (-wz * s.mn - s.side * -wx * s.md) * n = (dz * s.mn - s.side * dx * s.md) * m + (wz * s.mn - s.side * wx * s.md) * (m - n) := by grind
  have e3 : max (-(wx * dz - wz * dx)) (- -(wx * dz - wz * dx)) = max (wx * dz - wz * dx) (-(wx * dz - wz * dx)) := by omega
  rw [e1, e2, e3]
  generalize max (wx * dz - wz * dx) (-(wx * dz - wz * dx)) = K
  have e4 : (K * s.tn - (-wx * (dx + wx) + -wz * (dz + wz)) * s.td) * m + -1 * (-wx * -wx + -wz * -wz) * s.td * n = (K * s.tn - -1 * (wx * dx + wz * dz) * s.td) * m + (wx * wx + wz * wz) * s.td * (m - n) := by grind
  have e5 : (K * s.tn - -1 * (-wx * (dx + wx) + -wz * (dz + wz)) * s.td) * m + (-wx * -wx + -wz * -wz) * s.td * n = (K * s.tn - (wx * dx + wz * dz) * s.td) * m + -1 * (wx * wx + wz * wz) * s.td * (m - n) := by grind
  rw [e4, e5]
  constructor
  · rintro ⟨h0, h1, h2, h3, h4, h5⟩; exact ⟨by omega, by omega, h2, h3, h5, h4⟩
  · rintro ⟨h0, h1, h2, h3, h4, h5⟩; exact ⟨by omega, by omega, h2, h3, h5, h4⟩
/-- A face the other way round. -/
def Fc.turn (f : Fc) : Fc := ⟨f.tx, f.tz, f.fx, f.fz⟩
theorem metV_turn (thick : Int) (f : Fc) (s : Su) {n m : Int} (hn : 0 ≤ n) (hnm : n ≤ m) (hm : 0 < m) : (metV thick f.turn s).hasP n m ↔ (metV thick f s).hasP (m - n) m := by
  unfold metV Fc.turn
  by_cases l : s.legs = 2
  · simp only [if_pos l]
    rw [← metW_turn _ _ _ _ _ hn hnm hm]
    rw [show f.fx - f.tx = -(f.tx - f.fx) by omega, show 2 * thick - f.fz - (2 * thick - f.tz) = -(2 * thick - f.tz - (2 * thick - f.fz)) by omega, show f.tx - s.at_ = f.fx - s.at_ + (f.tx - f.fx) by omega, show 2 * thick - f.tz = 2 * thick - f.fz + (2 * thick - f.tz - (2 * thick - f.fz)) by omega]
    rw [show 2 * thick - f.fz + (2 * thick - f.tz - (2 * thick - f.fz)) - (2 * thick - f.fz) = 2 * thick - f.tz - (2 * thick - f.fz) by omega]
  · simp only [if_neg l]
    rw [← metW_turn _ _ _ _ _ hn hnm hm]
    rw [show f.fx - f.tx = -(f.tx - f.fx) by omega, show f.fz - f.tz = -(f.tz - f.fz) by omega, show f.tx - s.at_ = f.fx - s.at_ + (f.tx - f.fx) by omega]
    rw [show f.fz + (f.tz - f.fz) = f.tz by omega]

theorem cop_dvd {b a d : Int} (h : b ∣ a * d) (hg : Int.gcd b a = 1) : b ∣ d := by
  rw [← Int.natAbs_dvd_natAbs, Int.natAbs_mul] at h
  rw [← Int.natAbs_dvd_natAbs]
  exact Nat.Coprime.dvd_of_dvd_mul_left hg h
theorem lowest_eq {a b c d : Int} (hb : 0 < b) (hd : 0 < d) (h1 : Int.gcd a b = 1) (h2 : Int.gcd c d = 1) (h : a * d = c * b) : a = c ∧ b = d := by
  have hbd : b ∣ d := by
    have : b ∣ a * d := ⟨c, by rw [h, Int.mul_comm]⟩
    exact cop_dvd this (by rw [Int.gcd_comm]; exact h1)
  have hdb : d ∣ b := by
    have : d ∣ c * b := ⟨a, by rw [← h, Int.mul_comm]⟩
    exact cop_dvd this (by rw [Int.gcd_comm]; exact h2)
  have e : b = d := Int.le_antisymm (Int.le_of_dvd hd hbd) (Int.le_of_dvd hb hdb)
  subst e
  exact ⟨Int.eq_of_mul_eq_mul_right (by omega) h, rfl⟩
theorem gcd_sub (n d : Int) : Int.gcd (d - n) d = Int.gcd n d := by
  rw [Int.gcd_comm, Int.gcd_comm n d]
  have : d - n = -n + d * 1 := by omega
  rw [this, Int.gcd_add_mul_left_right, Int.gcd_neg]

/-- What the part of a face is, told from its other end. -/
def PR.turn (r : PR) : PR := ⟨r.d - r.c, r.d, r.b - r.a, r.b, r.e⟩
theorem Pt.turn {n d : Int} (h : Pt n d) : Pt (d - n) d := ⟨by have := h.2.1; omega, by have := h.1; omega, h.2.2.1, h.2.2.2.1, by rw [gcd_sub]; exact h.2.2.2.2⟩
theorem turn_has {P Q : PV} (hP : P.good) (hQ : Q.good) (h : ∀ n m : Int, 0 ≤ n → n ≤ m → 0 < m → (Q.hasP n m ↔ P.hasP (m - n) m)) (h0 : P.none = false) : Q.none = false ∧ toldR Q = (toldR P).turn := by
  obtain ⟨a1, a2, a3⟩ := hP h0
  have b1 := a1.turn
  have b2 := a2.turn
  have t1 : Q.hasP (P.b - P.a) P.b := (h _ _ b1.1 b1.2.1 b1.2.2.1).2 (by rw [show P.b - (P.b - P.a) = P.a by omega]; exact (PV.has_iff _ _ _).1 (PV.has_from hP h0))
  have t2 : Q.hasP (P.d - P.c) P.d := (h _ _ b2.1 b2.2.1 b2.2.2.1).2 (by rw [show P.d - (P.d - P.c) = P.c by omega]; exact (PV.has_iff _ _ _).1 (PV.has_to hP h0))
  have h1 : Q.none = false := t1.1
  obtain ⟨c1, c2, c3⟩ := hQ h1
  have u1 : P.hasP (Q.b - Q.a) Q.b := (h _ _ c1.1 c1.2.1 c1.2.2.1).1 ((PV.has_iff _ _ _).1 (PV.has_from hQ h1))
  have u2 : P.hasP (Q.d - Q.c) Q.d := (h _ _ c2.1 c2.2.1 c2.2.2.1).1 ((PV.has_iff _ _ _).1 (PV.has_to hQ h1))
  obtain ⟨_, v1, v2⟩ := t2
  obtain ⟨_, v3, v4⟩ := t1
  obtain ⟨_, v5, v6⟩ := u1
  obtain ⟨_, v7, v8⟩ := u2
  have e1 : Q.a * P.d = (P.d - P.c) * Q.b := by
    have : (Q.b - Q.a) * P.d ≤ P.c * Q.b := v6
    have x1 : (Q.b - Q.a) * P.d = Q.b * P.d - Q.a * P.d := Int.sub_mul _ _ _
    have x2 : (P.d - P.c) * Q.b = P.d * Q.b - P.c * Q.b := Int.sub_mul _ _ _
    have x3 : P.d * Q.b = Q.b * P.d := Int.mul_comm _ _
    omega
  have e2 : Q.c * P.b = (P.b - P.a) * Q.d := by
    have : P.a * Q.d ≤ (Q.d - Q.c) * P.b := v7
    have x1 : (Q.d - Q.c) * P.b = Q.d * P.b - Q.c * P.b := Int.sub_mul _ _ _
    have x2 : (P.b - P.a) * Q.d = P.b * Q.d - P.a * Q.d := Int.sub_mul _ _ _
    have x3 : P.b * Q.d = Q.d * P.b := Int.mul_comm _ _
    omega
  obtain ⟨f1, f2⟩ := lowest_eq c1.2.2.1 b2.2.2.1 c1.2.2.2.2 b2.2.2.2.2 e1
  obtain ⟨f3, f4⟩ := lowest_eq c2.2.2.1 b1.2.2.1 c2.2.2.2.2 b1.2.2.2.2 e2
  refine ⟨h1, ?_⟩
  unfold toldR PR.turn
  rw [if_neg (by simp [h1]), if_neg (by simp [h0])]
  simp [f1, f2, f3, f4]
theorem turn_none {P Q : PV} (hQ : Q.good) (h : ∀ n m : Int, 0 ≤ n → n ≤ m → 0 < m → (Q.hasP n m ↔ P.hasP (m - n) m)) (h0 : P.none = true) : Q.none = true := by
  cases h1 : Q.none
  · obtain ⟨c1, _, _⟩ := hQ h1
    have u1 : P.hasP (Q.b - Q.a) Q.b := (h _ _ c1.1 c1.2.1 c1.2.2.1).1 ((PV.has_iff _ _ _).1 (PV.has_from hQ h1))
    have := u1.1
    rw [h0] at this
    simp at this
  · rfl

/-! ### mirrored -/
def PV.core (p : PV) : PV := { p with up := false }
theorem PV.core_shut (p : PV) : p.shut.core = p.core.shut := rfl
theorem PV.core_frm (p : PV) (n m : Int) : (p.frm n m).core = p.core.frm n m := by
  unfold PV.frm
  rw [PV.core_shut]
  by_cases c : 0 < cmpI (n * p.b) (p.a * m)
  · rw [if_pos (decide_eq_true c), if_pos (show decide (0 < cmpI (n * p.core.b) (p.core.a * m)) = true from decide_eq_true c)]; rfl
  · rw [if_neg (by simpa using c), if_neg (show ¬ decide (0 < cmpI (n * p.core.b) (p.core.a * m)) = true from fun h => c (of_decide_eq_true h))]
theorem PV.core_to (p : PV) (n m : Int) : (p.to n m).core = p.core.to n m := by
  unfold PV.to
  rw [PV.core_shut]
  by_cases c : cmpI (n * p.d) (p.c * m) < 0
  · rw [if_pos (decide_eq_true c), if_pos (show decide (cmpI (n * p.core.d) (p.core.c * m) < 0) = true from decide_eq_true c)]; rfl
  · rw [if_neg (by simpa using c), if_neg (show ¬ decide (cmpI (n * p.core.d) (p.core.c * m) < 0) = true from fun h => c (of_decide_eq_true h))]
theorem PV.core_cut (p : PV) (n m : Int) : (p.cut n m).core = p.core.cut n m := by
  unfold PV.cut
  by_cases c1 : m = 0
  · rw [if_pos c1, if_pos c1]; rfl
  rw [if_neg c1, if_neg c1]
  by_cases c2 : 0 < m ∧ n < 0
  · rw [if_pos c2, if_pos c2, PV.core_frm]
  rw [if_neg c2, if_neg c2]
  by_cases c3 : m < 0 ∧ n < 0
  · rw [if_pos c3, if_pos c3]; rfl
  rw [if_neg c3, if_neg c3]
  by_cases c4 : m < 0
  · rw [if_pos c4, if_pos c4, PV.core_to]
  · rw [if_neg c4, if_neg c4]
theorem toldR_core (p : PV) : toldR p.core = toldR p := rfl
def Su.mirror (s : Su) : Su := { s with at_ := -s.at_, side := -s.side }
def Su.move (s : Su) (by_ : Int) : Su := { s with at_ := s.at_ + by_ }
def Fc.mirror (f : Fc) : Fc := ⟨-f.fx, f.fz, -f.tx, f.tz⟩
def Fc.move (f : Fc) (by_ : Int) : Fc := ⟨f.fx + by_, f.fz, f.tx + by_, f.tz⟩
theorem metW_mirror (wx wz dx dz : Int) (s : Su) : (metW (-wx) wz (-dx) dz s.mirror).core = (metW wx wz dx dz s).core := by
  unfold metW Su.mirror
  have e0 : -wx * dz - wz * -dx = -(wx * dz - wz * dx) := by grind
  simp only [e0]
  by_cases k : wx * dz - wz * dx = 0
  · rw [if_pos (by omega), if_pos k]
  rw [if_neg (by omega), if_neg k]
  have e1 : -s.side * -dx = s.side * dx := by grind
  have e2 : -s.side * -wx = s.side * wx := by grind
  have e3 : -wx * -dx = wx * dx := by grind
  have e4 : -wx * -wx = wx * wx := by grind
  have e5 : max (-(wx * dz - wz * dx)) (- -(wx * dz - wz * dx)) = max (wx * dz - wz * dx) (-(wx * dz - wz * dx)) := by omega
  simp only [e1, e2, e3, e4, e5, PV.core_cut]
  rfl
theorem metV_mirror (thick : Int) (f : Fc) (s : Su) : toldR (metV thick f.mirror s.mirror) = toldR (metV thick f s) := by
  rw [← toldR_core, ← toldR_core (metV thick f s)]
  unfold metV
  have e : s.mirror.legs = s.legs := rfl
  have e1 : f.mirror.tx - f.mirror.fx = -(f.tx - f.fx) := by simp only [Fc.mirror]; omega
  have e2 : f.mirror.fx - s.mirror.at_ = -(f.fx - s.at_) := by simp only [Fc.mirror, Su.mirror]; omega
  rw [e, e1, e2]
  by_cases l : s.legs = 2
  · simp only [if_pos l]
    exact congrArg toldR (metW_mirror _ _ _ _ _)
  · simp only [if_neg l]
    exact congrArg toldR (metW_mirror _ _ _ _ _)
theorem metV_move (thick by_ : Int) (f : Fc) (s : Su) : metV thick (f.move by_) (s.move by_) = metV thick f s := by
  unfold metV
  have e : (s.move by_).legs = s.legs := rfl
  have x : ∀ a b c d a' c', a = a' → c = c' → metW a b c d (s.move by_) = metW a' b c' d s := by
    rintro a b c d _ _ rfl rfl; rfl
  rw [e]
  by_cases l : s.legs = 2
  · simp only [if_pos l]
    apply x
    · simp [Fc.move]; omega
    · simp [Fc.move, Su.move]; omega
  · simp only [if_neg l]
    apply x
    · simp [Fc.move]; omega
    · simp [Fc.move, Su.move]; omega
end Go.Proofs.YtfbnpfhnffahdaaGreatDoor

namespace Go.Proofs.YtfbnpfhnffahdaaGreatDoor
open Go.RowKit

/-- The numbers of a right face. -/
def plOk (f : Fc) (thick : Int) : Prop := -20000 ≤ f.fx ∧ f.fx ≤ 20000 ∧ -20000 ≤ f.tx ∧ f.tx ≤ 20000 ∧ 0 ≤ f.fz ∧ f.fz ≤ thick ∧ 0 ≤ f.tz ∧ f.tz ≤ thick ∧ ¬ (f.fx = f.tx ∧ f.fz = f.tz)
theorem any_names {nm : ByteArray} : ∀ {l l' : List (ByteArray × Fc)}, l.map (·.1) = l'.map (·.1) → l.any (fun p => sameB p.1 nm) = l'.any (fun p => sameB p.1 nm)
  | [], [], _ => rfl
  | [], _ :: _, h => by simp at h
  | _ :: _, [], h => by simp at h
  | p :: l, q :: l', h => by
    simp only [List.map_cons, List.cons.injEq] at h
    simp only [List.any_cons, h.1, any_names h.2]
theorem faceE_names {before before' : List (ByteArray × Fc)} {nm : ByteArray} {f f' : Fc} {thick : Int} (hb : before.map (·.1) = before'.map (·.1)) (h : faceE before nm f thick = 0) (hf : plOk f' thick) : faceE before' nm f' thick = 0 := by
  obtain ⟨a1, a2, a3, a4, a5, a6, a7, a8, a9⟩ := hf
  unfold faceE at h ⊢
  rw [← any_names hb]
  split at h
  · simp at h
  · split at h
    · simp at h
    · rename_i h1 h2
      rw [if_neg h1, if_neg h2, if_neg (by simp [wi]; omega), if_neg a9]
theorem facesE_names {thick : Int} : ∀ {l l' before before' : List (ByteArray × Fc)} {i : Nat}, l.map (·.1) = l'.map (·.1) → before.map (·.1) = before'.map (·.1) → (∀ p ∈ l', plOk p.2 thick) → (facesE thick i before l).2 = 0 → (facesE thick i before' l').2 = 0
  | [], [], _, _, _, _, _, _, _ => rfl
  | [], _ :: _, _, _, _, h, _, _, _ => by simp at h
  | _ :: _, [], _, _, _, h, _, _, _ => by simp at h
  | p :: l, q :: l', before, before', i, h, hb, hp, h0 => by
    simp only [List.map_cons, List.cons.injEq] at h
    unfold facesE at h0 ⊢
    split at h0
    · rename_i hz
      rw [if_pos (by rw [← h.1]; exact faceE_names hb hz (hp q (by simp)))]
      exact facesE_names h.2 (by simp [hb, h.1]) (fun x hx => hp x (by simp [hx])) h0
    · rename_i hz; exact absurd h0 hz
/-- A joint with other faces. -/
def Jo.withFs (j : Jo) (fs : List (ByteArray × Fc)) : Jo := { j with fs := fs }
theorem jointE_withFs {j : Jo} {fs : List (ByteArray × Fc)} (h : (jointE j).2 = 0) (hn : j.fs.map (·.1) = fs.map (·.1)) (hp : ∀ p ∈ fs, plOk p.2 j.thick) : (jointE (j.withFs fs)).2 = 0 := by
  have hl : j.fs.length = fs.length := by have := congrArg List.length hn; simpa using this
  unfold jointE Jo.withFs at *
  dsimp only at *
  split at h
  · simp at h
  · split at h
    · simp at h
    · split at h
      · simp at h
      · rename_i h1 h2 h3
        rw [if_neg h1, if_neg h2, if_neg (by omega)]
        exact facesE_names hn rfl hp h
theorem plOk_of {j : Jo} (h : (jointE j).2 = 0) {k : Nat} (hk : k < j.fs.length) : plOk j.fs[k].2 j.thick := faceE_zero ((jointE_zero h).2.2.2.2.2 k hk)

/-- The faces of a joint, the first ones of them turned by f. -/
def mixF (f : Fc → Fc) (fs : List (ByteArray × Fc)) (k : Nat) : List (ByteArray × Fc) := (fs.take k).map (fun p => (p.1, f p.2)) ++ fs.drop k
theorem mixF_length (f : Fc → Fc) (fs : List (ByteArray × Fc)) (k : Nat) : (mixF f fs k).length = fs.length := by simp [mixF]; omega
theorem mixF_zero (f : Fc → Fc) (fs : List (ByteArray × Fc)) : mixF f fs 0 = fs := by simp [mixF]
theorem mixF_all (f : Fc → Fc) (fs : List (ByteArray × Fc)) : mixF f fs fs.length = fs.map fun p => (p.1, f p.2) := by simp [mixF]
theorem mixF_get (f : Fc → Fc) (fs : List (ByteArray × Fc)) (k : Nat) (hk : k < fs.length) : (mixF f fs k)[k]'(by rw [mixF_length]; exact hk) = fs[k] := by
  unfold mixF
  rw [List.getElem_append_right (by simp; omega)]
  simp [List.getElem_drop]
  congr 1
  omega
theorem mixF_step (f : Fc → Fc) (fs : List (ByteArray × Fc)) (k : Nat) (hk : k < fs.length) : (mixF f fs k).set k (fs[k].1, f fs[k].2) = mixF f fs (k + 1) := by
  unfold mixF
  have hl : ((fs.take k).map fun p => (p.1, f p.2)).length = k := by simp; omega
  rw [List.set_append_right _ _ (by omega), hl, Nat.sub_self, List.drop_eq_getElem_cons hk, List.take_succ_eq_append_getElem hk, List.map_append, List.set_cons_zero, List.append_assoc]
  rfl
theorem mixF_names (f : Fc → Fc) (fs : List (ByteArray × Fc)) (k : Nat) : fs.map (·.1) = (mixF f fs k).map (·.1) := by
  conv => lhs; rw [← List.take_append_drop k fs]
  simp [mixF, List.map_append, Function.comp_def]

/-- The cells of a block begin with those of faces. -/
def Pre (cs : Array Value) (fs : List (ByteArray × Fc)) : Prop := ∀ (j : Nat) (u : Value), (fcsC fs)[j]? = some u → cs[j]? = some u
theorem Pre.row {w : World} {g B : Nat} {cs : Array Value} {fs : List (ByteArray × Fc)} {t : TypeId} (h : Pre cs fs) (hb : Blk w g t cs) (hg : g < B) : Row w B 5 (some ⟨g, 0, none⟩) fs.length (fcsC fs) :=
  ⟨fcsC_length fs, fun _ => ⟨g, 0, rfl, hg, fun j u hu => by rw [Nat.zero_add]; exact (hb.cell j).trans (h j u hu)⟩⟩
theorem fcsC_set : ∀ (fs : List (ByteArray × Fc)) (k : Nat) (p : ByteArray × Fc) (j : Nat), k < fs.length → (fcsC (fs.set k p))[j]? = if j / 5 = k then (fcsC [p])[j % 5]? else (fcsC fs)[j]?
  | [], k, _, _, h => by simp at h
  | q :: l, 0, p, j, _ => by
    simp only [List.set_cons_zero]
    by_cases c : j < 5
    · rw [if_pos (by omega), Nat.mod_eq_of_lt c]
      match j, c with
      | 0, _ => rfl
      | 1, _ => rfl
      | 2, _ => rfl
      | 3, _ => rfl
      | 4, _ => rfl
    · rw [if_neg (by omega)]
      obtain ⟨i, rfl⟩ : ∃ i, j = i + 5 := ⟨j - 5, by omega⟩
      rfl
  | q :: l, k + 1, p, j, h => by
    simp only [List.set_cons_succ]
    by_cases c : j < 5
    · rw [if_neg (by omega)]
      match j, c with
      | 0, _ => rfl
      | 1, _ => rfl
      | 2, _ => rfl
      | 3, _ => rfl
      | 4, _ => rfl
    · obtain ⟨i, rfl⟩ : ∃ i, j = i + 5 := ⟨j - 5, by omega⟩
      have ih := fcsC_set l k p i (by simpa using h)
      have e1 : (fcsC (q :: l.set k p))[i + 5]? = (fcsC (l.set k p))[i]? := rfl
      have e2 : (fcsC (q :: l))[i + 5]? = (fcsC l)[i]? := rfl
      rw [e1, e2, ih]
      have e3 : (i + 5) / 5 = i / 5 + 1 := by omega
      have e4 : (i + 5) % 5 = i % 5 := by omega
      rw [e3, e4]
      by_cases d : i / 5 = k
      · rw [if_pos d, if_pos (by omega)]
      · rw [if_neg d, if_neg (by omega)]
theorem Pre.size {cs : Array Value} {fs : List (ByteArray × Fc)} (h : Pre cs fs) : fs.length * 5 ≤ cs.size := by
  rcases Nat.eq_zero_or_pos fs.length with h0 | h0
  · omega
  · have hl := fcsC_length fs
    have := h (fs.length * 5 - 1) _ (List.getElem?_eq_getElem (by omega))
    have := (Array.getElem?_eq_some_iff.1 this).1
    omega
theorem cells_in (cs : Array Value) (i j : Nat) (u : Value) (h : i < cs.size) : (cs.setIfInBounds i u)[j]? = if j = i then some u else cs[j]? := by
  rw [Array.getElem?_setIfInBounds]
  by_cases c : j = i
  · subst c; simp [h]
  · rw [if_neg c, if_neg (fun e => c e.symm)]
/-- Both numbers along the surface are stored anew. -/
theorem Pre.setX {cs : Array Value} {fs : List (ByteArray × Fc)} (h : Pre cs fs) {k : Nat} (hk : k < fs.length) (x y : Int) :
    Pre ((cs.setIfInBounds (k * 5 + 1) (.int .i64 x)).setIfInBounds (k * 5 + 3) (.int .i64 y)) (fs.set k (fs[k].1, ⟨x, fs[k].2.fz, y, fs[k].2.tz⟩)) := by
  intro j u hu
  have hs := h.size
  have hkk : k * 5 + 5 ≤ cs.size := by
    have : (k + 1) * 5 ≤ fs.length * 5 := Nat.mul_le_mul_right _ hk
    omega
  rw [fcsC_set _ _ _ _ hk] at hu
  rw [cells_in _ _ _ _ (by simp; omega), cells_in _ _ _ _ (by omega)]
  obtain ⟨g0, g1, g2, g3, g4⟩ := fcsC_get fs k fs[k] (List.getElem?_eq_getElem hk)
  by_cases c : j / 5 = k
  · rw [if_pos c] at hu
    obtain ⟨r, hr, rfl⟩ : ∃ r, r < 5 ∧ j = k * 5 + r := ⟨j % 5, Nat.mod_lt _ (by omega), by omega⟩
    have e : (k * 5 + r) % 5 = r := by omega
    rw [e] at hu
    match r, hr with
    | 0, _ => rw [if_neg (by omega), if_neg (by omega)]; obtain rfl := Option.some.inj hu; exact h _ _ g0
    | 1, _ => rw [if_neg (by omega), if_pos rfl]; exact hu
    | 2, _ => rw [if_neg (by omega), if_neg (by omega)]; obtain rfl := Option.some.inj hu; exact h _ _ g2
    | 3, _ => rw [if_pos rfl]; exact hu
    | 4, _ => rw [if_neg (by omega), if_neg (by omega)]; obtain rfl := Option.some.inj hu; exact h _ _ g4
  · rw [if_neg c] at hu
    rw [if_neg (by omega), if_neg (by omega)]
    exact h _ _ hu
/-- All four numbers of a face are stored anew. -/
theorem Pre.set4 {cs : Array Value} {fs : List (ByteArray × Fc)} (h : Pre cs fs) {k : Nat} (hk : k < fs.length) (a b c d : Int) :
    Pre ((((cs.setIfInBounds (k * 5 + 1) (.int .i64 a)).setIfInBounds (k * 5 + 2) (.int .i64 b)).setIfInBounds (k * 5 + 3) (.int .i64 c)).setIfInBounds (k * 5 + 4) (.int .i64 d)) (fs.set k (fs[k].1, ⟨a, b, c, d⟩)) := by
  intro j u hu
  have hs := h.size
  have hkk : k * 5 + 5 ≤ cs.size := by
    have : (k + 1) * 5 ≤ fs.length * 5 := Nat.mul_le_mul_right _ hk
    omega
  rw [fcsC_set _ _ _ _ hk] at hu
  rw [cells_in _ _ _ _ (by simp; omega), cells_in _ _ _ _ (by simp; omega), cells_in _ _ _ _ (by simp; omega), cells_in _ _ _ _ (by omega)]
  obtain ⟨g0, g1, g2, g3, g4⟩ := fcsC_get fs k fs[k] (List.getElem?_eq_getElem hk)
  by_cases e0 : j / 5 = k
  · rw [if_pos e0] at hu
    obtain ⟨r, hr, rfl⟩ : ∃ r, r < 5 ∧ j = k * 5 + r := ⟨j % 5, Nat.mod_lt _ (by omega), by omega⟩
    have e : (k * 5 + r) % 5 = r := by omega
    rw [e] at hu
    match r, hr with
    | 0, _ => rw [if_neg (by omega), if_neg (by omega), if_neg (by omega), if_neg (by omega)]; obtain rfl := Option.some.inj hu; exact h _ _ g0
    | 1, _ => rw [if_neg (by omega), if_neg (by omega), if_neg (by omega), if_pos rfl]; exact hu
    | 2, _ => rw [if_neg (by omega), if_neg (by omega), if_pos rfl]; exact hu
    | 3, _ => rw [if_neg (by omega), if_pos rfl]; exact hu
    | 4, _ => rw [if_pos rfl]; exact hu
  · rw [if_neg e0] at hu
    rw [if_neg (by omega), if_neg (by omega), if_neg (by omega), if_neg (by omega)]
    exact h _ _ hu
/-- A copied joint that has faces: its faces lie in a block of their own. -/
theorem copied_blk {j : Jo} {w' : World} {B : Nat} {v : Value} (h0 : 0 < j.fs.length) (own : w'.ownsRow B 57 5 v j.fs.length (fcsC j.fs)) :
    ∃ g c cs, v = .slice (some ⟨g, 0, none⟩) j.fs.length c ∧ B ≤ g ∧ Blk w' g 57 cs ∧ Pre cs j.fs ∧ j.fs.length ≤ c ∧ c ≤ 9223372036854775807 := by
  have hl := own.1
  rcases own.2 with ⟨h1, h2⟩ | ⟨g, cap, cur, rfl, hb, hh, hn, hm, _, hx⟩
  · exfalso
    have := h2
    omega
  · refine ⟨g, cap, cur, rfl, hb, hh, fun j u hu => ?_, hn, by simpa [maxLen] using hm⟩
    have hj := (List.getElem?_eq_some_iff.1 hu).1
    rw [← hx, List.getElem?_take] at hu
    split at hu
    · simpa using hu
    · cases hu

/-! ### what the statement asks -/
theorem setupE_mirror {nm : ByteArray} {s : Su} (h : setupE nm s = 0) : setupE nm s.mirror = 0 := by
  have e1 : wi s.mirror.at_ (-20000) 20000 = wi s.at_ (-20000) 20000 := by unfold wi Su.mirror; rw [Bool.eq_iff_iff]; simp; omega
  have e2 : kindB s.mirror = kindB s := by
    unfold kindB Su.mirror
    have a : decide (-s.side = 1) = decide (s.side = -1) := by rw [decide_eq_decide]; omega
    have b : decide (-s.side = -1) = decide (s.side = 1) := by rw [decide_eq_decide]; omega
    simp only [a, b, Bool.or_comm]
  unfold setupE at h ⊢
  rw [e1, e2]
  exact h
theorem openFaceE_withFs {j : Jo} {fs : List (ByteArray × Fc)} {face : Int} (h : openFaceE j face = 0) (hn : j.fs.map (·.1) = fs.map (·.1)) (hp : ∀ p ∈ fs, plOk p.2 j.thick) : openFaceE (j.withFs fs) face = 0 := by
  have hl : j.fs.length = fs.length := by have := congrArg List.length hn; simpa using this
  have h1 := (openFaceE_zero h).1
  have h2 := jointE_withFs h1 hn hp
  unfold openFaceE at h ⊢
  rw [if_pos h1] at h
  rw [if_pos h2]
  unfold Jo.withFs
  rw [← hl]
  exact h
theorem faceAt_nat (j : Jo) (k : Nat) (hk : k < j.fs.length) : faceAt j k = j.fs[k].2 := by simp [faceAt, hk]
theorem mirror_part {j : Jo} {k : Nat} {sn : ByteArray} {s : Su} (h : askE j k sn s = 0) : partOfR (j.withFs (j.fs.map fun p => (p.1, p.2.mirror))) k sn s.mirror = partOfR j k sn s := by
  obtain ⟨h1, h2⟩ := askE_zero h
  obtain ⟨h3, k', hkk, hk, hf⟩ := openFaceE_zero h1
  obtain rfl : k = k' := by omega
  have hp : ∀ p ∈ (j.fs.map fun p => (p.1, p.2.mirror)), plOk p.2 j.thick := by
    intro p hp
    simp only [List.mem_map] at hp
    obtain ⟨q, hq, rfl⟩ := hp
    obtain ⟨a1, a2, a3, a4, a5, a6, a7, a8, a9⟩ := (by obtain ⟨i, hi, rfl⟩ := List.mem_iff_getElem.1 hq; exact plOk_of h3 hi : plOk q.2 j.thick)
    exact ⟨by simp [Fc.mirror]; omega, by simp [Fc.mirror]; omega, by simp [Fc.mirror]; omega, by simp [Fc.mirror]; omega, a5, a6, a7, a8, by simp [Fc.mirror]; omega⟩
  have ha : askE (j.withFs (j.fs.map fun p => (p.1, p.2.mirror))) k sn s.mirror = 0 := by
    unfold askE
    rw [if_pos (openFaceE_withFs h1 (by simp [Function.comp_def]) hp)]
    exact setupE_mirror h2
  rw [partOfR_yes ha, partOfR_yes h]
  have e : faceAt (j.withFs (j.fs.map fun p => (p.1, p.2.mirror))) k = (faceAt j k).mirror := by
    rw [faceAt_nat _ _ (by simpa [Jo.withFs] using hk), faceAt_nat _ _ hk]
    simp [Jo.withFs]
  rw [e]
  exact metV_mirror _ _ _
theorem move_part {j : Jo} {k : Nat} {sn : ByteArray} {s : Su} {by_ : Int} (hk : k < j.fs.length) (h : askE j k sn s = 0) (h' : askE (j.withFs (j.fs.map fun p => (p.1, p.2.move by_))) k sn (s.move by_) = 0) :
    partOfR (j.withFs (j.fs.map fun p => (p.1, p.2.move by_))) k sn (s.move by_) = partOfR j k sn s := by
  rw [partOfR_yes h', partOfR_yes h]
  have e : faceAt (j.withFs (j.fs.map fun p => (p.1, p.2.move by_))) k = (faceAt j k).move by_ := by
    rw [faceAt_nat _ _ (by simpa [Jo.withFs] using hk), faceAt_nat _ _ hk]
    simp [Jo.withFs]
  rw [e]
  exact congrArg toldR (metV_move _ _ _ _)
theorem turn_part {j : Jo} {k : Nat} {sn : ByteArray} {s : Su} (hk : k < j.fs.length) (h : askE j k sn s = 0) :
    partOfR (j.withFs (j.fs.set k (j.fs[k].1, j.fs[k].2.turn))) k sn s = (partOfR j k sn s).turn := by
  obtain ⟨h1, h2⟩ := askE_zero h
  have h3 := (openFaceE_zero h1).1
  have hn : j.fs.map (·.1) = (j.fs.set k (j.fs[k].1, j.fs[k].2.turn)).map (·.1) := by
    rw [List.map_set]
    have : (j.fs.map (·.1))[k]'(by simpa using hk) = j.fs[k].1 := by simp
    rw [← this, List.set_getElem_self]
  have hp : ∀ p ∈ (j.fs.set k (j.fs[k].1, j.fs[k].2.turn)), plOk p.2 j.thick := by
    intro p hp
    rcases List.mem_or_eq_of_mem_set hp with hq | rfl
    · obtain ⟨i, hi, rfl⟩ := List.mem_iff_getElem.1 hq
      exact plOk_of h3 hi
    · obtain ⟨a1, a2, a3, a4, a5, a6, a7, a8, a9⟩ := plOk_of h3 hk
      exact ⟨a3, a4, a1, a2, a7, a8, a5, a6, by simp [Fc.turn]; omega⟩
  have ha : askE (j.withFs (j.fs.set k (j.fs[k].1, j.fs[k].2.turn))) k sn s = 0 := by
    unfold askE
    rw [if_pos (openFaceE_withFs h1 hn hp)]
    exact h2
  rw [partOfR_yes ha, partOfR_yes h]
  have e : faceAt (j.withFs (j.fs.set k (j.fs[k].1, j.fs[k].2.turn))) k = (faceAt j k).turn := by
    rw [faceAt_nat _ _ (by simpa [Jo.withFs] using hk), faceAt_nat _ _ hk]
    simp [Jo.withFs]
  rw [e]
  have g1 := metV_good (lim_of h)
  have g2 : (metV j.thick (faceAt j k).turn s).good := by
    have := metV_good (lim_of ha)
    rw [e] at this
    exact this
  have ht : ∀ n m : Int, 0 ≤ n → n ≤ m → 0 < m → ((metV j.thick (faceAt j k).turn s).hasP n m ↔ (metV j.thick (faceAt j k) s).hasP (m - n) m) := fun n m x y z => metV_turn _ _ _ x y z
  show toldR (metV j.thick (faceAt j k).turn s) = _
  cases h0 : (metV j.thick (faceAt j k) s).none
  · exact (turn_has g1 g2 ht h0).2
  · have h5 := turn_none g2 ht h0
    rw [toldR_none h0, toldR_none h5]
    rfl
theorem partOfR_e {j : Jo} {face : Int} {sn : ByteArray} {s : Su} (h : askE j face sn s = 0) : (partOfR j face sn s).e = 0 ∧ (∃ d, (partOfR j face sn s).d = d ∧ 1 ≤ d ∧ d ≤ 1000000000000 ∧ 1 ≤ (partOfR j face sn s).b ∧ (partOfR j face sn s).b ≤ 1000000000000 ∧ 0 ≤ (partOfR j face sn s).a ∧ (partOfR j face sn s).a ≤ (partOfR j face sn s).b ∧ 0 ≤ (partOfR j face sn s).c ∧ (partOfR j face sn s).c ≤ d) ∨ partOfR j face sn s = ⟨0, 0, 0, 0, 12⟩ := by
  rw [partOfR_yes h]
  have g := metV_good (lim_of h)
  generalize metV j.thick (faceAt j face) s = P at *
  obtain ⟨a, b, c, d, nn, up⟩ := P
  cases nn
  · obtain ⟨g1, g2, _⟩ := g rfl
    obtain ⟨a1, a2, a3, a4, _⟩ := g1
    obtain ⟨b1, b2, b3, b4, _⟩ := g2
    dsimp only at *
    exact .inl ⟨rfl, d, rfl, by omega, b4, (by omega : 1 ≤ b), a4, a1, a2, b1, b2⟩
  · exact .inr rfl

/-! ### stores into blocks of many cells -/
theorem Blk.far4 {g p : Nat} {b : World} {t : TypeId} {cs : Array Value} (h : Blk b g t cs) (hp : g ≠ p) (u0 u1 u2 u3 : Value) : Blk ((((b.setCell ⟨p, 0, none⟩ u0).setCell ⟨p, 1, none⟩ u1).setCell ⟨p, 2, none⟩ u2).setCell ⟨p, 3, none⟩ u3) g t cs :=
  (((h.far (p := ⟨p, 0, none⟩) hp u0).far (p := ⟨p, 1, none⟩) hp u1).far (p := ⟨p, 2, none⟩) hp u2).far (p := ⟨p, 3, none⟩) hp u3
def set11 (b : World) (g : Nat) (u0 u1 u2 u3 u4 u5 u6 u7 u8 u9 u10 : Value) : World := ((((((((((b.setCell ⟨g, 0, none⟩ u0).setCell ⟨g, 1, none⟩ u1).setCell ⟨g, 2, none⟩ u2).setCell ⟨g, 3, none⟩ u3).setCell ⟨g, 4, none⟩ u4).setCell ⟨g, 5, none⟩ u5).setCell ⟨g, 6, none⟩ u6).setCell ⟨g, 7, none⟩ u7).setCell ⟨g, 8, none⟩ u8).setCell ⟨g, 9, none⟩ u9).setCell ⟨g, 10, none⟩ u10
theorem Blk.put11 {g : Nat} {b : World} {t : TypeId} {v0 v1 v2 v3 v4 v5 v6 v7 v8 v9 v10 : Value} (h : Blk b g t #[v0, v1, v2, v3, v4, v5, v6, v7, v8, v9, v10]) (u0 u1 u2 u3 u4 u5 u6 u7 u8 u9 u10 : Value) : Blk (set11 b g u0 u1 u2 u3 u4 u5 u6 u7 u8 u9 u10) g t #[u0, u1, u2, u3, u4, u5, u6, u7, u8, u9, u10] := by
  have h : Blk ((b).setCell ⟨g, 0, none⟩ u0) g t #[u0, v1, v2, v3, v4, v5, v6, v7, v8, v9, v10] := h.set_ 0 u0
  have h : Blk (((b).setCell ⟨g, 0, none⟩ u0).setCell ⟨g, 1, none⟩ u1) g t #[u0, u1, v2, v3, v4, v5, v6, v7, v8, v9, v10] := h.set_ 1 u1
  have h : Blk ((((b).setCell ⟨g, 0, none⟩ u0).setCell ⟨g, 1, none⟩ u1).setCell ⟨g, 2, none⟩ u2) g t #[u0, u1, u2, v3, v4, v5, v6, v7, v8, v9, v10] := h.set_ 2 u2
  have h : Blk (((((b).setCell ⟨g, 0, none⟩ u0).setCell ⟨g, 1, none⟩ u1).setCell ⟨g, 2, none⟩ u2).setCell ⟨g, 3, none⟩ u3) g t #[u0, u1, u2, u3, v4, v5, v6, v7, v8, v9, v10] := h.set_ 3 u3
  have h : Blk ((((((b).setCell ⟨g, 0, none⟩ u0).setCell ⟨g, 1, none⟩ u1).setCell ⟨g, 2, none⟩ u2).setCell ⟨g, 3, none⟩ u3).setCell ⟨g, 4, none⟩ u4) g t #[u0, u1, u2, u3, u4, v5, v6, v7, v8, v9, v10] := h.set_ 4 u4
  have h : Blk (((((((b).setCell ⟨g, 0, none⟩ u0).setCell ⟨g, 1, none⟩ u1).setCell ⟨g, 2, none⟩ u2).setCell ⟨g, 3, none⟩ u3).setCell ⟨g, 4, none⟩ u4).setCell ⟨g, 5, none⟩ u5) g t #[u0, u1, u2, u3, u4, u5, v6, v7, v8, v9, v10] := h.set_ 5 u5
  have h : Blk ((((((((b).setCell ⟨g, 0, none⟩ u0).setCell ⟨g, 1, none⟩ u1).setCell ⟨g, 2, none⟩ u2).setCell ⟨g, 3, none⟩ u3).setCell ⟨g, 4, none⟩ u4).setCell ⟨g, 5, none⟩ u5).setCell ⟨g, 6, none⟩ u6) g t #[u0, u1, u2, u3, u4, u5, u6, v7, v8, v9, v10] := h.set_ 6 u6
  have h : Blk (((((((((b).setCell ⟨g, 0, none⟩ u0).setCell ⟨g, 1, none⟩ u1).setCell ⟨g, 2, none⟩ u2).setCell ⟨g, 3, none⟩ u3).setCell ⟨g, 4, none⟩ u4).setCell ⟨g, 5, none⟩ u5).setCell ⟨g, 6, none⟩ u6).setCell ⟨g, 7, none⟩ u7) g t #[u0, u1, u2, u3, u4, u5, u6, u7, v8, v9, v10] := h.set_ 7 u7
  have h : Blk ((((((((((b).setCell ⟨g, 0, none⟩ u0).setCell ⟨g, 1, none⟩ u1).setCell ⟨g, 2, none⟩ u2).setCell ⟨g, 3, none⟩ u3).setCell ⟨g, 4, none⟩ u4).setCell ⟨g, 5, none⟩ u5).setCell ⟨g, 6, none⟩ u6).setCell ⟨g, 7, none⟩ u7).setCell ⟨g, 8, none⟩ u8) g t #[u0, u1, u2, u3, u4, u5, u6, u7, u8, v9, v10] := h.set_ 8 u8
  have h : Blk (((((((((((b).setCell ⟨g, 0, none⟩ u0).setCell ⟨g, 1, none⟩ u1).setCell ⟨g, 2, none⟩ u2).setCell ⟨g, 3, none⟩ u3).setCell ⟨g, 4, none⟩ u4).setCell ⟨g, 5, none⟩ u5).setCell ⟨g, 6, none⟩ u6).setCell ⟨g, 7, none⟩ u7).setCell ⟨g, 8, none⟩ u8).setCell ⟨g, 9, none⟩ u9) g t #[u0, u1, u2, u3, u4, u5, u6, u7, u8, u9, v10] := h.set_ 9 u9
  have h : Blk ((((((((((((b).setCell ⟨g, 0, none⟩ u0).setCell ⟨g, 1, none⟩ u1).setCell ⟨g, 2, none⟩ u2).setCell ⟨g, 3, none⟩ u3).setCell ⟨g, 4, none⟩ u4).setCell ⟨g, 5, none⟩ u5).setCell ⟨g, 6, none⟩ u6).setCell ⟨g, 7, none⟩ u7).setCell ⟨g, 8, none⟩ u8).setCell ⟨g, 9, none⟩ u9).setCell ⟨g, 10, none⟩ u10) g t #[u0, u1, u2, u3, u4, u5, u6, u7, u8, u9, u10] := h.set_ 10 u10
  exact h
theorem Blk.far11 {g p : Nat} {b : World} {t : TypeId} {cs : Array Value} (h : Blk b g t cs) (hp : g ≠ p) (u0 u1 u2 u3 u4 u5 u6 u7 u8 u9 u10 : Value) : Blk (set11 b p u0 u1 u2 u3 u4 u5 u6 u7 u8 u9 u10) g t cs := by
  have h : Blk ((b).setCell ⟨p, 0, none⟩ u0) g t cs := h.far (p := ⟨p, 0, none⟩) hp u0
  have h : Blk (((b).setCell ⟨p, 0, none⟩ u0).setCell ⟨p, 1, none⟩ u1) g t cs := h.far (p := ⟨p, 1, none⟩) hp u1
  have h : Blk ((((b).setCell ⟨p, 0, none⟩ u0).setCell ⟨p, 1, none⟩ u1).setCell ⟨p, 2, none⟩ u2) g t cs := h.far (p := ⟨p, 2, none⟩) hp u2
  have h : Blk (((((b).setCell ⟨p, 0, none⟩ u0).setCell ⟨p, 1, none⟩ u1).setCell ⟨p, 2, none⟩ u2).setCell ⟨p, 3, none⟩ u3) g t cs := h.far (p := ⟨p, 3, none⟩) hp u3
  have h : Blk ((((((b).setCell ⟨p, 0, none⟩ u0).setCell ⟨p, 1, none⟩ u1).setCell ⟨p, 2, none⟩ u2).setCell ⟨p, 3, none⟩ u3).setCell ⟨p, 4, none⟩ u4) g t cs := h.far (p := ⟨p, 4, none⟩) hp u4
  have h : Blk (((((((b).setCell ⟨p, 0, none⟩ u0).setCell ⟨p, 1, none⟩ u1).setCell ⟨p, 2, none⟩ u2).setCell ⟨p, 3, none⟩ u3).setCell ⟨p, 4, none⟩ u4).setCell ⟨p, 5, none⟩ u5) g t cs := h.far (p := ⟨p, 5, none⟩) hp u5
  have h : Blk ((((((((b).setCell ⟨p, 0, none⟩ u0).setCell ⟨p, 1, none⟩ u1).setCell ⟨p, 2, none⟩ u2).setCell ⟨p, 3, none⟩ u3).setCell ⟨p, 4, none⟩ u4).setCell ⟨p, 5, none⟩ u5).setCell ⟨p, 6, none⟩ u6) g t cs := h.far (p := ⟨p, 6, none⟩) hp u6
  have h : Blk (((((((((b).setCell ⟨p, 0, none⟩ u0).setCell ⟨p, 1, none⟩ u1).setCell ⟨p, 2, none⟩ u2).setCell ⟨p, 3, none⟩ u3).setCell ⟨p, 4, none⟩ u4).setCell ⟨p, 5, none⟩ u5).setCell ⟨p, 6, none⟩ u6).setCell ⟨p, 7, none⟩ u7) g t cs := h.far (p := ⟨p, 7, none⟩) hp u7
  have h : Blk ((((((((((b).setCell ⟨p, 0, none⟩ u0).setCell ⟨p, 1, none⟩ u1).setCell ⟨p, 2, none⟩ u2).setCell ⟨p, 3, none⟩ u3).setCell ⟨p, 4, none⟩ u4).setCell ⟨p, 5, none⟩ u5).setCell ⟨p, 6, none⟩ u6).setCell ⟨p, 7, none⟩ u7).setCell ⟨p, 8, none⟩ u8) g t cs := h.far (p := ⟨p, 8, none⟩) hp u8
  have h : Blk (((((((((((b).setCell ⟨p, 0, none⟩ u0).setCell ⟨p, 1, none⟩ u1).setCell ⟨p, 2, none⟩ u2).setCell ⟨p, 3, none⟩ u3).setCell ⟨p, 4, none⟩ u4).setCell ⟨p, 5, none⟩ u5).setCell ⟨p, 6, none⟩ u6).setCell ⟨p, 7, none⟩ u7).setCell ⟨p, 8, none⟩ u8).setCell ⟨p, 9, none⟩ u9) g t cs := h.far (p := ⟨p, 9, none⟩) hp u9
  have h : Blk ((((((((((((b).setCell ⟨p, 0, none⟩ u0).setCell ⟨p, 1, none⟩ u1).setCell ⟨p, 2, none⟩ u2).setCell ⟨p, 3, none⟩ u3).setCell ⟨p, 4, none⟩ u4).setCell ⟨p, 5, none⟩ u5).setCell ⟨p, 6, none⟩ u6).setCell ⟨p, 7, none⟩ u7).setCell ⟨p, 8, none⟩ u8).setCell ⟨p, 9, none⟩ u9).setCell ⟨p, 10, none⟩ u10) g t cs := h.far (p := ⟨p, 10, none⟩) hp u10
  exact h
theorem Below.set11 {n g : Nat} {a b : World} (h : Below n a b) (hg : n ≤ g) (u0 u1 u2 u3 u4 u5 u6 u7 u8 u9 u10 : Value) : Below n a (Go.Proofs.YtfbnpfhnffahdaaGreatDoor.set11 b g u0 u1 u2 u3 u4 u5 u6 u7 u8 u9 u10) :=
  ((((((((((h.setCell hg _).setCell hg _).setCell hg _).setCell hg _).setCell hg _).setCell hg _).setCell hg _).setCell hg _).setCell hg _).setCell hg _).setCell hg _
/-- Two stores into a row of the call's own. -/
theorem Below.two {n g g' i k : Nat} {a b : World} {u v : Value} (h : Below n a b) (hg : n ≤ g) (hg' : n ≤ g') : Below n a ((b.setCell ⟨g, i, none⟩ u).setCell ⟨g', k, none⟩ v) := (h.setCell hg _).setCell hg' _
end Go.Proofs.YtfbnpfhnffahdaaGreatDoor
