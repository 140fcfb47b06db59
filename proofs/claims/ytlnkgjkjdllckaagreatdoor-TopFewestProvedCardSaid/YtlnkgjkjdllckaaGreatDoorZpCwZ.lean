/- Plain law: the ends of a part are points, the first one not behind the second one; what is met lies just between them. -/
import Derived.Test.YtlnkgjkjdllckaaGreatDoorZpCvJ
namespace Go.Proofs.YtlnkgjkjdllckaaGreatDoor

theorem cmpI_gti (x y : Int) : 0 < cmpI x y ↔ y < x := by unfold cmpI; split <;> (try split) <;> omega
theorem cmpI_lti (x y : Int) : cmpI x y < 0 ↔ x < y := by unfold cmpI; split <;> (try split) <;> omega
theorem cmpI_lei (x y : Int) : cmpI x y ≤ 0 ↔ x ≤ y := by unfold cmpI; split <;> (try split) <;> omega

/-- A point of a face: a share from 0 to 1 in lowest terms. -/
def Pt (n d : Int) : Prop := 0 ≤ n ∧ n ≤ d ∧ 0 < d ∧ d ≤ 1000000000000 ∧ Int.gcd n d = 1
theorem Pt.err {n d : Int} (h : Pt n d) : ptE n d = 0 := by
  obtain ⟨h1, h2, h3, h4, h5⟩ := h
  unfold ptE lowB wi
  simp [h1, h2, h3, h4, h5]
/-- What is left of a part is one. -/
def PV.good (p : PV) : Prop := p.none = false → Pt p.a p.b ∧ Pt p.c p.d ∧ p.a * p.d ≤ p.c * p.b

theorem sharePt {n m : Int} (hn : 0 ≤ n) (hm : 0 < m) (hl : m ≤ 1000000000000) : 0 ≤ shN n m ∧ 0 < shD n m ∧ shD n m ≤ 1000000000000 ∧ Int.gcd (shN n m) (shD n m) = 1 := by
  have hg : 0 < Int.gcd n m := Int.gcd_pos_of_ne_zero_right _ (by omega)
  have hd : ((Int.gcd n m : Nat) : Int) ∣ m := Int.gcd_dvd_right ..
  unfold shN shD
  refine ⟨Int.ediv_nonneg hn (by omega), ?_, ?_, ?_⟩
  · exact Int.ediv_pos_of_pos_of_dvd hm (by omega) hd
  · exact Int.le_trans (Int.ediv_le_self _ (by omega)) hl
  · exact Int.gcd_ediv_gcd_ediv_gcd hg

theorem PV.shut_good {p : PV} (h : p.none = false → p.a * p.d ≤ p.c * p.b → Pt p.a p.b ∧ Pt p.c p.d) : p.shut.good := by
  unfold PV.shut PV.good
  intro hn
  simp only [Bool.or_eq_false_iff, decide_eq_false_iff_not] at hn
  have hle : p.a * p.d ≤ p.c * p.b := by have := cmpI_gti (p.a * p.d) (p.c * p.b); omega
  obtain ⟨h1, h2⟩ := h hn.1 hle
  exact ⟨h1, h2, hle⟩

theorem PV.frm_good {p : PV} (h : p.good) {n m : Int} (hn : 0 ≤ n) (hm : 0 < m) (hl : m ≤ 1000000000000) (hg : Int.gcd n m = 1) : (p.frm n m).good := by
  unfold PV.frm
  split
  · refine PV.shut_good fun h0 hle => ?_
    obtain ⟨h1, h2, h3⟩ := h h0
    refine ⟨⟨hn, ?_, hm, hl, hg⟩, h2⟩
    simp only at hle
    have e1 : p.c * m ≤ p.d * m := Int.mul_le_mul_of_nonneg_right h2.2.1 (by omega)
    have e2 : n * p.d ≤ m * p.d := by rw [Int.mul_comm m]; omega
    exact Int.le_of_mul_le_mul_right e2 h2.2.2.1
  · exact PV.shut_good fun h0 _ => ⟨(h h0).1, (h h0).2.1⟩

theorem PV.to_good {p : PV} (h : p.good) {n m : Int} (hn : 0 ≤ n) (hm : 0 < m) (hl : m ≤ 1000000000000) (hg : Int.gcd n m = 1) : (p.to n m).good := by
  unfold PV.to
  split
  · rename_i hc
    refine PV.shut_good fun h0 _ => ?_
    obtain ⟨h1, h2, h3⟩ := h h0
    refine ⟨h1, ⟨hn, ?_, hm, hl, hg⟩⟩
    have hlt := (cmpI_lti _ _).1 (of_decide_eq_true hc)
    have e1 : p.c * m ≤ p.d * m := Int.mul_le_mul_of_nonneg_right h2.2.1 (by omega)
    have e2 : n * p.d ≤ m * p.d := by rw [Int.mul_comm m]; omega
    exact Int.le_of_mul_le_mul_right e2 h2.2.2.1
  · exact PV.shut_good fun h0 _ => ⟨(h h0).1, (h h0).2.1⟩

theorem PV.cut_good {p : PV} (h : p.good) {n m : Int} (h1 : m ≤ 1000000000000) (h2 : -1000000000000 ≤ m) : (p.cut n m).good := by
  unfold PV.cut
  split
  · intro h0
    simp only [Bool.or_eq_false_iff] at h0
    exact h h0.1
  · split
    · rename_i hc
      obtain ⟨e1, e2, e3, e4⟩ := sharePt (n := -n) (m := m) (by omega) hc.1 h1
      exact PV.frm_good h e1 e2 e3 e4
    · split
      · intro h0; simp at h0
      · split
        · rename_i h3 h4 h5
          obtain ⟨e1, e2, e3, e4⟩ := sharePt (n := n) (m := -m) (by omega) (by omega) (by omega)
          exact PV.to_good h e1 e2 e3 e4
        · exact h

theorem metW_good {wv wz dx az : Int} {s : Su} (bwv : -60000 ≤ wv ∧ wv ≤ 60000) (bwz : -60000 ≤ wz ∧ wz ≤ 60000) (h1 : -1 ≤ s.side ∧ s.side ≤ 1)
    (h2 : 0 ≤ s.ln ∧ s.ln ≤ 100) (h3 : 0 ≤ s.ld ∧ s.ld ≤ 100) (h4 : 0 ≤ s.mn ∧ s.mn ≤ 100) (h5 : 0 ≤ s.md ∧ s.md ≤ 100) (h7 : 0 ≤ s.td ∧ s.td ≤ 100) : (metW wv wz dx az s).good := by
  by_cases hk : wv * az - wz * dx = 0
  · have : metW wv wz dx az s = ⟨0, 1, 1, 1, true, false⟩ := if_pos hk
    rw [this]
    intro h0; simp at h0
  · rw [metW_no hk]
    have v2 := mul_bd s.side wv 1 60000 (by omega) bwv
    generalize s.side * wv = Y at *
    have b2 := mul_bd Y s.ld 60000 100 (by omega) (by omega)
    have b4 := mul_bd wz s.ln 60000 100 (by omega) (by omega)
    have c2 := mul_bd Y s.md 60000 100 (by omega) (by omega)
    have c4 := mul_bd wz s.mn 60000 100 (by omega) (by omega)
    have f1 := mul_bd wv wv 60000 60000 (by omega) (by omega)
    have f2 := mul_bd wz wz 60000 60000 (by omega) (by omega)
    have f3 := mul_bd (wv * wv + wz * wz) s.td 7200000000 100 (by omega) (by omega)
    have f4 := mul_bd (-(wv * wv + wz * wz)) s.td 7200000000 100 (by omega) (by omega)
    refine PV.cut_good (PV.cut_good (PV.cut_good (PV.cut_good ?_ ?_ ?_) ?_ ?_) ?_ ?_) ?_ ?_
    · intro _
      exact ⟨⟨by simp, by simp, by simp, by simp, by simp⟩, ⟨by simp, by simp, by simp, by simp, by simp⟩, by simp⟩
    all_goals omega
theorem metV_good {thick : Int} {f : Fc} {s : Su} (L : Lim thick f s) : (metV thick f s).good := by
  obtain ⟨k1, k2, k3, k4, k5, k6, k7, k8, k9, k10, k11, k12, k13⟩ := L
  unfold metV
  split
  · exact metW_good (by omega) (by omega) k7 k8 k9 k10 k11 k13
  · exact metW_good (by omega) (by omega) k7 k8 k9 k10 k11 k13

theorem PV.has_from {p : PV} (h : p.good) (h0 : p.none = false) : p.has p.a p.b = true := by
  obtain ⟨h1, h2, h3⟩ := h h0
  unfold PV.has
  have e1 := (cmpI_lei (p.a * p.b) (p.a * p.b)).2 (Int.le_refl _)
  have e2 := (cmpI_lei (p.a * p.d) (p.c * p.b)).2 h3
  simp [h0, e1, e2]
theorem PV.has_to {p : PV} (h : p.good) (h0 : p.none = false) : p.has p.c p.d = true := by
  obtain ⟨h1, h2, h3⟩ := h h0
  unfold PV.has
  have e1 := (cmpI_lei (p.c * p.d) (p.c * p.d)).2 (Int.le_refl _)
  have e2 := (cmpI_lei (p.a * p.d) (p.c * p.b)).2 h3
  simp [h0, e1, e2]
end Go.Proofs.YtlnkgjkjdllckaaGreatDoor
