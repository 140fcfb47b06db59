/- Contracts: the place of a point of a face; whether a place is near a face, and in the zone. Contracts: whether a place is near a face, and in the zone. Contracts: whether a place is in the zone; the reference's near, zone and place of a point. Contract: whether a direction is steep between two slopes (package ray), for the slopes of right set-ups. Plain laws: the gaps of parts, and the steepness of direct beams. No program in sight. -/
import Derived.Test.YtlnkgjkjdllckaaGreatDoorZpCvY
import Derived.Test.YtlnkgjkjdllckaaGreatDoorZpCxF
import Derived.Test.YtlnkgjkjdllckaaGreatDoorZpCyB
import Derived.Test.YtlnkgjkjdllckaaGreatDoorZpRgW
namespace Go.Proofs.YtlnkgjkjdllckaaGreatDoor
open Go.RowKit

/-- A quotient to the nearest whole number, halves up. -/
def rndV (n d : Int) : Int := (2 * n + d) / (2 * d)

/-- The share of a way. -/
def atV (a b n d : Int) : Int := rndV (a * d + (b - a) * n) d


end Go.Proofs.YtlnkgjkjdllckaaGreatDoor

namespace Go.Proofs.YtlnkgjkjdllckaaGreatDoor
open Go.RowKit

end Go.Proofs.YtlnkgjkjdllckaaGreatDoor

namespace Go.Proofs.YtlnkgjkjdllckaaGreatDoor
open Go.RowKit

end Go.Proofs.YtlnkgjkjdllckaaGreatDoor

namespace Go.Proofs.YtlnkgjkjdllckaaGreatDoor
open Go.RowKit

theorem blk2y {w : World} {g t : Nat} {v0 v1 : Value} (h : Blk w g t #[v0, v1]) : w.cell? ⟨g, 0, none⟩ = some v0 ∧ w.cell? ⟨g, 1, none⟩ = some v1 ∧ ∀ i, w.frozen? ⟨g, i, none⟩ = false := ⟨h.cell 0, h.cell 1, h.frozen⟩

/-- Whether a direction is steep between two slopes. -/
def steepB (d0 d1 ln ld mn md : Int) : Bool := decide (ln * d1 ≤ max d0 (-d0) * ld) && decide (max d0 (-d0) * md ≤ mn * d1)

end Go.Proofs.YtlnkgjkjdllckaaGreatDoor

namespace Go.Proofs.YtlnkgjkjdllckaaGreatDoor

theorem fr_lt_le {a b c d e f : Int} (hb : 0 < b) (hd : 0 < d) (hf : 0 < f) (h1 : a * d < c * b) (h2 : c * f ≤ e * d) : a * f < e * b := by
  rcases Int.lt_or_le (a * f) (e * b) with h | h
  · exact h
  · have := frac_trans_le (a := c) (b := d) (c := e) (d := f) (e := a) (f := b) hd hf hb h2 h
    omega
theorem fr_le_lt {a b c d e f : Int} (hb : 0 < b) (hd : 0 < d) (hf : 0 < f) (h1 : a * d ≤ c * b) (h2 : c * f < e * d) : a * f < e * b := by
  rcases Int.lt_or_le (a * f) (e * b) with h | h
  · exact h
  · have := frac_trans_le (a := e) (b := f) (c := a) (d := b) (e := c) (f := d) hf hb hd h h1
    omega

/-- A part has a point between its ends. -/
def Bet (p : GP) (n m : Int) : Prop := p.1.a * m ≤ n * p.1.b ∧ n * p.1.d ≤ p.1.c * m

theorem gapL_none : ∀ (l : List GP) (r1 r2 : Int), 0 < r2 → (gapL (r1, r2) l).2 = false → ∀ n m : Int, n ≤ m → 0 < m → r1 * m ≤ n * r2 → (∃ p ∈ l, Bet p n m) ∨ n * r2 = r1 * m
  | [], r1, r2, hr, h, n, m, hnm, hm, hx => by
    simp only [gapL, decide_eq_false_iff_not] at h
    right
    have h1 : r2 * m ≤ r1 * m := Int.mul_le_mul_of_nonneg_right (by omega) (by omega)
    have h2 : n * r2 ≤ m * r2 := Int.mul_le_mul_of_nonneg_right hnm (by omega)
    have h3 : r2 * m = m * r2 := Int.mul_comm _ _
    omega
  | p :: l, r1, r2, hr, h, n, m, hnm, hm, hx => by
    unfold gapL at h
    dsimp only at h
    split at h
    · simp at h
    · rename_i h1
      have hb := p.2.2.1
      have hd := p.2.2.2
      by_cases ht : n * p.1.d ≤ p.1.c * m
      · exact .inl ⟨p, by simp, frac_trans_le hb hr hm (by omega) hx, ht⟩
      · split at h
        · rename_i h2
          rcases gapL_none l _ _ hd h n m hnm hm (by omega) with ⟨q, hq, hb⟩ | h3
          · exact .inl ⟨q, by simp [hq], hb⟩
          · omega
        · rcases gapL_none l _ _ hr h n m hnm hm hx with ⟨q, hq, hb⟩ | h3
          · exact .inl ⟨q, by simp [hq], hb⟩
          · exact .inr h3
theorem gapL_some : ∀ (l : List GP) (r1 r2 : Int), 0 < r2 → l.Pairwise (fun x y => x.1.a * y.1.b ≤ y.1.a * x.1.b) → ∀ g1 g2 h1 h2 : Int, gapL (r1, r2) l = ((g1, g2, h1, h2), true) →
    r1 * g2 ≤ g1 * r2 ∧ ((g1 = r1 ∧ g2 = r2) ∨ ∃ p ∈ l, g1 = p.1.c ∧ g2 = p.1.d) ∧ ((h1 = 1 ∧ h2 = 1) ∨ ∃ p ∈ l, h1 = p.1.a ∧ h2 = p.1.b) ∧ 0 < g2 ∧ 0 < h2 ∧ g1 * h2 < h1 * g2 ∧ ∀ n m : Int, 0 < m → g1 * m < n * g2 → n * h2 < h1 * m → ∀ p ∈ l, ¬ Bet p n m
  | [], r1, r2, hr, _, g1, g2, h1, h2, h => by
    simp only [gapL, Prod.mk.injEq, decide_eq_true_eq] at h
    obtain ⟨⟨rfl, rfl, rfl, rfl⟩, h3⟩ := h
    exact ⟨Int.le_refl _, .inl ⟨rfl, rfl⟩, .inl ⟨rfl, rfl⟩, hr, by omega, by omega, fun _ _ _ _ _ p hp => by simp at hp⟩
  | p :: l, r1, r2, hr, hs, g1, g2, h1, h2, h => by
    have hb := p.2.2.1
    have hd := p.2.2.2
    rw [List.pairwise_cons] at hs
    unfold gapL at h
    dsimp only at h
    split at h
    · rename_i h3
      simp only [Prod.mk.injEq, and_true] at h
      obtain ⟨rfl, rfl, rfl, rfl⟩ := h
      refine ⟨Int.le_refl _, .inl ⟨rfl, rfl⟩, .inr ⟨p, by simp, rfl, rfl⟩, hr, hb, by omega, fun n m hm k1 k2 q hq hq2 => ?_⟩
      rcases List.mem_cons.1 hq with rfl | hq
      · have := hq2.1; omega
      · have := frac_trans_le (a := p.1.a) (b := p.1.b) (c := q.1.a) (d := q.1.b) (e := n) (f := m) hb q.2.2.1 hm (hs.1 q hq) hq2.1
        omega
    · rename_i h3
      split at h
      · rename_i h4
        obtain ⟨e1, e2, e3, e4, e5, e6, e7⟩ := gapL_some l _ _ hd hs.2 g1 g2 h1 h2 h
        refine ⟨?_, ?_, ?_, e4, e5, e6, fun n m hm k1 k2 q hq hq2 => ?_⟩
        · exact frac_trans_le hr hd e4 (Int.le_of_lt h4) e1
        · rcases e2 with ⟨rfl, rfl⟩ | ⟨q, hq, e⟩
          · exact .inr ⟨p, by simp, rfl, rfl⟩
          · exact .inr ⟨q, by simp [hq], e⟩
        · rcases e3 with e | ⟨q, hq, e⟩
          · exact .inl e
          · exact .inr ⟨q, by simp [hq], e⟩
        · rcases List.mem_cons.1 hq with rfl | hq
          · have h5 := fr_le_lt (a := q.1.c) (b := q.1.d) (c := g1) (d := g2) (e := n) (f := m) hd e4 hm e1 k1
            have := hq2.2
            omega
          · exact e7 n m hm k1 k2 q hq hq2
      · rename_i h4
        obtain ⟨e1, e2, e3, e4, e5, e6, e7⟩ := gapL_some l _ _ hr hs.2 g1 g2 h1 h2 h
        refine ⟨e1, ?_, ?_, e4, e5, e6, fun n m hm k1 k2 q hq hq2 => ?_⟩
        · rcases e2 with e | ⟨q, hq, e⟩
          · exact .inl e
          · exact .inr ⟨q, by simp [hq], e⟩
        · rcases e3 with e | ⟨q, hq, e⟩
          · exact .inl e
          · exact .inr ⟨q, by simp [hq], e⟩
        · rcases List.mem_cons.1 hq with rfl | hq
          · have h6 := frac_trans_le (a := q.1.c) (b := q.1.d) (c := r1) (d := r2) (e := g1) (f := g2) hd hr e4 (by omega) e1
            have h5 := fr_le_lt (a := q.1.c) (b := q.1.d) (c := g1) (d := g2) (e := n) (f := m) hd e4 hm h6 k1
            have := hq2.2
            omega
          · exact e7 n m hm k1 k2 q hq hq2

/-- Whether a point is met. -/
def metAny (ps : List GP) (n m : Int) : Bool := ps.any fun p => p.1.has n m
theorem selG_mem {ps : List GP} {p : GP} : p ∈ selG ps (List.range ps.length) ↔ p ∈ ps ∧ p.1.none = false := by
  unfold selG
  simp only [List.mem_filter, List.mem_filterMap, List.mem_range, Bool.not_eq_true']
  constructor
  · rintro ⟨⟨i, hi, he⟩, h⟩; exact ⟨List.mem_of_getElem? he, h⟩
  · rintro ⟨h, h'⟩
    obtain ⟨i, hi, rfl⟩ := List.mem_iff_getElem.1 h
    exact ⟨⟨i, hi, List.getElem?_eq_getElem hi⟩, h'⟩
theorem has_bet {p : GP} {n m : Int} : p.1.has n m = true ↔ p.1.none = false ∧ Bet p n m := by
  rw [PV.has_iff]; exact Iff.rfl
/-- Without a gap each point is met. -/
theorem gap_none {ps : List GP} {r : Int × Int × Int × Int} (hg : ∀ p ∈ ps, p.1.good) (h : GapOf ps ps.length (r, false)) {n m : Int} (hp : Pt n m) : metAny ps n m = true := by
  obtain ⟨l', hl, hs, he⟩ := h
  obtain ⟨p1, p2, p3, _, _⟩ := hp
  have h0 : (gapL (0, 1) l').2 = false := by rw [← he]
  have fin : ∀ p ∈ l', Bet p n m → metAny ps n m = true := by
    intro p hp hb
    have := selG_mem.1 (hl.mem_iff.1 hp)
    exact List.any_eq_true.2 ⟨p, this.1, has_bet.2 ⟨this.2, hb⟩⟩
  rcases gapL_none l' 0 1 (by omega) h0 n m p2 p3 (by omega) with ⟨p, hp, hb⟩ | h1
  · exact fin p hp hb
  · have hn : n = 0 := by omega
    subst hn
    cases l' with
    | nil => simp [gapL] at h0
    | cons p l =>
      unfold gapL at h0
      split at h0
      · simp at h0
      · rename_i h3
        have hm := selG_mem.1 (hl.mem_iff.1 (List.mem_cons_self (a := p) (l := l)))
        obtain ⟨g1, g2, _⟩ := hg p hm.1 hm.2
        have e1 := Int.mul_nonneg (a := p.1.c) (b := m) g2.1 (by omega)
        refine fin p (by simp) ⟨?_, by omega⟩
        have : p.1.a ≤ 0 := by omega
        have := g1.1
        have : p.1.a = 0 := by omega
        rw [this]; omega
/-- Within a gap no point is met; its ends are points. -/
theorem gap_some {ps : List GP} {a b c d : Int} (hg : ∀ p ∈ ps, p.1.good) (h : GapOf ps ps.length ((a, b, c, d), true)) : Pt a b ∧ Pt c d ∧ ∀ n m : Int, Pt n m → a * m < n * b → n * d < c * m → metAny ps n m = false := by
  obtain ⟨l', hl, hs, he⟩ := h
  obtain ⟨_, e2, e3, e4, e5, e6, e7⟩ := gapL_some l' 0 1 (by omega) hs a b c d he.symm
  have hm : ∀ p ∈ l', p ∈ ps ∧ p.1.none = false := fun p hp => selG_mem.1 (hl.mem_iff.1 hp)
  refine ⟨?_, ?_, fun n m hp k1 k2 => ?_⟩
  · rcases e2 with ⟨rfl, rfl⟩ | ⟨p, hp, rfl, rfl⟩
    · exact ⟨by omega, by omega, by omega, by omega, by decide⟩
    · exact (hg p (hm p hp).1 (hm p hp).2).2.1
  · rcases e3 with ⟨rfl, rfl⟩ | ⟨p, hp, rfl, rfl⟩
    · exact ⟨by omega, by omega, by omega, by omega, by decide⟩
    · exact (hg p (hm p hp).1 (hm p hp).2).1
  · unfold metAny
    rw [List.any_eq_false]
    intro p hpp hh
    obtain ⟨h1, h2⟩ := has_bet.1 hh
    exact e7 n m hp.2.2.1 k1 k2 p (hl.mem_iff.2 (selG_mem.2 ⟨hpp, h1⟩)) h2

theorem at_one (a b n : Int) : atV a b n 1 = a + (b - a) * n := by
  unfold atV rndV
  generalize (b - a) * n = x
  omega
/-- A direct beam that meets an end of a face is as steep as told. -/
theorem steep_met {thick : Int} {f : Fc} {s : Su} {n : Int} (hn : 0 ≤ n) (hl : s.legs = 1) (h : (metV thick f s).has n 1 = true) (h1 : tanE s.ln s.ld = 0) (hd : 1 ≤ atV f.fz f.tz n 1) :
    0 ≤ s.side * (atV f.fx f.tx n 1 - s.at_) ∧ steepB (s.side * (atV f.fx f.tx n 1 - s.at_)) (atV f.fz f.tz n 1) s.ln s.ld s.mn s.md = true := by
  obtain ⟨a1, a2, a3, a4⟩ := tanE_zero h1
  rw [PV.has_iff] at h
  unfold metV at h
  rw [if_neg (by omega)] at h
  rw [metW_has _ _ _ _ _ hn (by omega)] at h
  obtain ⟨_, _, c1, c2, _⟩ := h
  rw [at_one] at hd ⊢
  rw [at_one]
  have e1 : (s.side * (f.fx - s.at_) * s.ld - f.fz * s.ln) * 1 + (s.side * (f.tx - f.fx) * s.ld - (f.tz - f.fz) * s.ln) * n = s.side * (f.fx + (f.tx - f.fx) * n - s.at_) * s.ld - s.ln * (f.fz + (f.tz - f.fz) * n) := by grind
  have e2 : (f.fz * s.mn - s.side * (f.fx - s.at_) * s.md) * 1 + ((f.tz - f.fz) * s.mn - s.side * (f.tx - f.fx) * s.md) * n = s.mn * (f.fz + (f.tz - f.fz) * n) - s.side * (f.fx + (f.tx - f.fx) * n - s.at_) * s.md := by grind
  rw [e1] at c1
  rw [e2] at c2
  generalize s.side * (f.fx + (f.tx - f.fx) * n - s.at_) = A at *
  generalize f.fz + (f.tz - f.fz) * n = D at *
  have hA : 0 ≤ A := by
    rcases Int.lt_or_le A 0 with h | h
    · have := Int.mul_neg_of_neg_of_pos h a3
      have := Int.mul_nonneg (a := s.ln) (b := D) a1 (by omega)
      omega
    · exact h
  refine ⟨hA, ?_⟩
  unfold steepB
  rw [Int.max_eq_left (by omega)]
  simp only [Bool.and_eq_true, decide_eq_true_eq]
  exact ⟨by omega, by omega⟩
end Go.Proofs.YtlnkgjkjdllckaaGreatDoor
