/- Plain law of the fewest set-ups: points that are apart; gaps of chosen set-ups. Contracts: cover.between, (face).behind: a point behind another one. A region of a function, by its number (as RgW's end). Region 15 of cover.Fewest: whether a set-up has the point, and reaches farther than the best one so far. Region 18 of cover.Fewest: a set-up's number and a point are appended. The inner loop of cover.Fewest: the set-up that has a point and reaches farthest. Contract: cover.Fewest, of a face that is covered. Contract: cover.CheckApart, of points that are apart. -/
import Derived.Test.YtlnkgjkjdllckaaGreatDoorZpCyF
import Derived.Test.YtlnkgjkjdllckaaGreatDoorProg
import Derived.Test.YtlnkgjkjdllckaaGreatDoorZpRgW
import Derived.Test.YtlnkgjkjdllckaaGreatDoorZpCvT
namespace Go.Proofs.YtlnkgjkjdllckaaGreatDoor
open Go.RowKit

/-! ### denominators -/
def PV.low (p : PV) : Prop := (0 < p.b ∧ p.b ≤ 400000000000) ∧ 0 < p.d ∧ p.d ≤ 400000000000
theorem share_low {n m : Int} (hm : 0 < m) (hl : m ≤ 400000000000) : 0 < shD n m ∧ shD n m ≤ 400000000000 := by
  have hg : 0 < Int.gcd n m := Int.gcd_pos_of_ne_zero_right _ (by omega)
  have hd : ((Int.gcd n m : Nat) : Int) ∣ m := Int.gcd_dvd_right ..
  unfold shD
  exact ⟨Int.ediv_pos_of_pos_of_dvd hm (by omega) hd, Int.le_trans (Int.ediv_le_self _ (by omega)) hl⟩
theorem PV.shut_low {p : PV} (h : p.low) : p.shut.low := h
theorem PV.frm_low {p : PV} (h : p.low) {n m : Int} (hm : 0 < m ∧ m ≤ 400000000000) : (p.frm n m).low := by
  unfold PV.frm
  split
  · exact ⟨hm, h.2⟩
  · exact h
theorem PV.to_low {p : PV} (h : p.low) {n m : Int} (hm : 0 < m ∧ m ≤ 400000000000) : (p.to n m).low := by
  unfold PV.to
  split
  · exact ⟨h.1, hm⟩
  · exact h
theorem PV.cut_low {p : PV} (h : p.low) {n m : Int} (h1 : m ≤ 400000000000) (h2 : -400000000000 ≤ m) : (p.cut n m).low := by
  unfold PV.cut
  split
  · exact h
  · split
    · rename_i hc
      exact PV.frm_low h (share_low hc.1 h1)
    · split
      · exact h
      · split
        · exact PV.to_low h (share_low (by omega) (by omega))
        · exact h
theorem metW_low {wv wz dx az : Int} {s : Su} (bwv : -60000 ≤ wv ∧ wv ≤ 60000) (bwz : -20000 ≤ wz ∧ wz ≤ 20000) (h1 : -1 ≤ s.side ∧ s.side ≤ 1)
    (h2 : 0 ≤ s.ln ∧ s.ln ≤ 100) (h3 : 0 ≤ s.ld ∧ s.ld ≤ 100) (h4 : 0 ≤ s.mn ∧ s.mn ≤ 100) (h5 : 0 ≤ s.md ∧ s.md ≤ 100) (h7 : 0 ≤ s.td ∧ s.td ≤ 100) : (metW wv wz dx az s).low := by
  by_cases hk : wv * az - wz * dx = 0
  · have : metW wv wz dx az s = ⟨0, 1, 1, 1, true, false⟩ := if_pos hk
    rw [this]
    exact ⟨⟨by simp, by simp⟩, by simp, by simp⟩
  · rw [metW_no hk]
    have v2 := mul_bd s.side wv 1 60000 (by omega) bwv
    generalize s.side * wv = Y at *
    have b2 := mul_bd Y s.ld 60000 100 (by omega) (by omega)
    have b4 := mul_bd wz s.ln 20000 100 (by omega) (by omega)
    have c2 := mul_bd Y s.md 60000 100 (by omega) (by omega)
    have c4 := mul_bd wz s.mn 20000 100 (by omega) (by omega)
    have f1 := mul_bd wv wv 60000 60000 (by omega) (by omega)
    have f2 := mul_bd wz wz 20000 20000 (by omega) (by omega)
    have f3 := mul_bd (wv * wv + wz * wz) s.td 4000000000 100 (by omega) (by omega)
    have f4 := mul_bd (-(wv * wv + wz * wz)) s.td 4000000000 100 (by omega) (by omega)
    refine PV.cut_low (PV.cut_low (PV.cut_low (PV.cut_low ?_ ?_ ?_) ?_ ?_) ?_ ?_) ?_ ?_
    · exact ⟨⟨by simp, by simp⟩, by simp, by simp⟩
    all_goals omega
theorem metV_low {thick : Int} {f : Fc} {s : Su} (L : Lim thick f s) : (metV thick f s).low := by
  obtain ⟨k1, k2, k3, k4, k5, k6, k7, k8, k9, k10, k11, k12, k13⟩ := L
  unfold metV
  split
  · exact metW_low (by omega) (by omega) k7 k8 k9 k10 k11 k13
  · exact metW_low (by omega) (by omega) k7 k8 k9 k10 k11 k13
theorem low_all {j : Jo} {l : List (ByteArray × Su)} {ps : List GP} {k : Nat} (h0 : openFaceE j k = 0) (h1 : setupsE l = 0) (hps : ps.map Subtype.val = partsV j k l) : ∀ p ∈ ps, p.1.low := by
  intro p hp
  have : p.1 ∈ ps.map Subtype.val := List.mem_map_of_mem hp
  rw [hps] at this
  unfold partsV at this
  obtain ⟨q, hq, he⟩ := List.mem_map.1 this
  rw [← he]
  exact metV_low (lim_at h0 ((setupsE_zero h1).2 q hq))

/-! ### a point between two ones -/
theorem medPt {a b c d : Int} (ha : 0 ≤ a) (hb : 0 < b) (hc : 0 ≤ c) (hcd : c ≤ d) (hd : 0 < d) (hbl : b ≤ 500000000000) (hdl : d ≤ 500000000000) (h : a * d < c * b) :
    Pt (shN (a + c) (b + d)) (shD (a + c) (b + d)) ∧ a * shD (a + c) (b + d) < shN (a + c) (b + d) * b ∧ shN (a + c) (b + d) * d < c * shD (a + c) (b + d) := by
  obtain ⟨e1, e2, e3, e4⟩ := sharePt (n := a + c) (m := b + d) (by omega) (by omega) (by omega)
  have hg : 0 < Int.gcd (a + c) (b + d) := Int.gcd_pos_of_ne_zero_right _ (by omega)
  have g1 : shN (a + c) (b + d) * (Int.gcd (a + c) (b + d) : Int) = a + c := Int.ediv_mul_cancel (Int.gcd_dvd_left ..)
  have g2 : shD (a + c) (b + d) * (Int.gcd (a + c) (b + d) : Int) = b + d := Int.ediv_mul_cancel (Int.gcd_dvd_right ..)
  generalize shN (a + c) (b + d) = n at *
  generalize shD (a + c) (b + d) = m at *
  generalize (Int.gcd (a + c) (b + d) : Nat) = g at *
  have hgI : (0 : Int) < (g : Int) := by omega
  have k1 : c * b ≤ d * b := Int.mul_le_mul_of_nonneg_right hcd (by omega)
  have k2 : a < b := by
    have : a * d < b * d := by rw [Int.mul_comm b d]; omega
    exact Int.lt_of_mul_lt_mul_right this (by omega)
  refine ⟨⟨e1, ?_, e2, e3, e4⟩, ?_, ?_⟩
  · have : n * (g : Int) ≤ m * (g : Int) := by omega
    exact Int.le_of_mul_le_mul_right this hgI
  · have : a * m * (g : Int) < n * b * (g : Int) := by
      rw [Int.mul_assoc, g2, Int.mul_right_comm, g1, Int.mul_add, Int.add_mul]
      omega
    exact Int.lt_of_mul_lt_mul_right this (by omega)
  · have : n * d * (g : Int) < c * m * (g : Int) := by
      rw [Int.mul_right_comm, g1, Int.mul_assoc, g2, Int.mul_add, Int.add_mul]
      omega
    exact Int.lt_of_mul_lt_mul_right this (by omega)

/-! ### gaps of chosen set-ups -/
def GapN (ps : List GP) (ns : List Nat) (r : (Int × Int × Int × Int) × Bool) : Prop := ∃ l' : List GP, l'.Perm (selG ps ns) ∧ l'.Pairwise (fun x y => x.1.a * y.1.b ≤ y.1.a * x.1.b) ∧ r = gapL (0, 1) l'
/-- Each point is met by one of the chosen ones. -/
def Cov (ps : List GP) (ns : List Nat) : Prop := ∀ n m : Int, Pt n m → ∃ k ∈ ns, ∃ p, ps[k]? = some p ∧ p.1.has n m = true
theorem selN_mem {ps : List GP} {ns : List Nat} {p : GP} : p ∈ selG ps ns ↔ (∃ k ∈ ns, ps[k]? = some p) ∧ p.1.none = false := by
  unfold selG
  simp only [List.mem_filter, List.mem_filterMap, Bool.not_eq_true']
theorem gapN_none {ps : List GP} {ns : List Nat} {r : Int × Int × Int × Int} (hg : ∀ p ∈ ps, p.1.good) (h : GapN ps ns (r, false)) : Cov ps ns := by
  intro n m hp
  obtain ⟨l', hl, hs, he⟩ := h
  obtain ⟨p1, p2, p3, _, _⟩ := hp
  have h0 : (gapL (0, 1) l').2 = false := by rw [← he]
  have fin : ∀ p ∈ l', Bet p n m → ∃ k ∈ ns, ∃ p, ps[k]? = some p ∧ p.1.has n m = true := by
    intro p hp hb
    obtain ⟨⟨k, hk, e⟩, h2⟩ := selN_mem.1 (hl.mem_iff.1 hp)
    exact ⟨k, hk, p, e, has_bet.2 ⟨h2, hb⟩⟩
  rcases gapL_none l' 0 1 (by omega) h0 n m p2 p3 (by omega) with ⟨p, hp, hb⟩ | h1
  · exact fin p hp hb
  · have hn : n = 0 := by omega
    subst hn
    cases l' with
    | nil => simp [gapL] at h0
    | cons p l =>
      unfold gapL at h0
      split at h0
      · simp at h0
      · rename_i h3
        obtain ⟨⟨k, hk, e⟩, hn⟩ := selN_mem.1 (hl.mem_iff.1 (List.mem_cons_self (a := p) (l := l)))
        obtain ⟨g1, g2, _⟩ := hg p (List.mem_of_getElem? e) hn
        have e1 := Int.mul_nonneg (a := p.1.c) (b := m) g2.1 (by omega)
        refine fin p (by simp) ⟨?_, by omega⟩
        have : p.1.a ≤ 0 := by omega
        have := g1.1
        have : p.1.a = 0 := by omega
        rw [this]; omega
theorem gapN_some {ps : List GP} {ns : List Nat} {r : Int × Int × Int × Int} (hg : ∀ p ∈ ps, p.1.good) (hlow : ∀ p ∈ ps, p.1.low) (h : GapN ps ns (r, true)) : ¬ Cov ps ns := by
  intro hc
  obtain ⟨a, b, c, d⟩ := r
  obtain ⟨l', hl, hs, he⟩ := h
  obtain ⟨_, e2, e3, e4, e5, e6, e7⟩ := gapL_some l' 0 1 (by omega) hs a b c d he.symm
  have hm : ∀ p ∈ l', p ∈ ps ∧ p.1.none = false := fun p hp => by
    obtain ⟨⟨k, _, e⟩, h2⟩ := selN_mem.1 (hl.mem_iff.1 hp)
    exact ⟨List.mem_of_getElem? e, h2⟩
  have ha : 0 ≤ a ∧ b ≤ 400000000000 := by
    rcases e2 with ⟨rfl, rfl⟩ | ⟨p, hp, rfl, rfl⟩
    · exact ⟨by omega, by omega⟩
    · exact ⟨(hg p (hm p hp).1 (hm p hp).2).2.1.1, (hlow p (hm p hp).1).2.2⟩
  have hcd : 0 ≤ c ∧ c ≤ d ∧ d ≤ 400000000000 := by
    rcases e3 with ⟨rfl, rfl⟩ | ⟨p, hp, rfl, rfl⟩
    · exact ⟨by omega, by omega, by omega⟩
    · have := (hg p (hm p hp).1 (hm p hp).2).1
      exact ⟨this.1, this.2.1, (hlow p (hm p hp).1).1.2⟩
  obtain ⟨m1, m2, m3⟩ := medPt ha.1 e4 hcd.1 hcd.2.1 e5 (by omega) (by omega) e6
  obtain ⟨k, hk, p, e, hh⟩ := hc _ _ m1
  obtain ⟨h1, h2⟩ := has_bet.1 hh
  exact e7 _ _ m1.2.2.1 m2 m3 p (hl.mem_iff.2 (selN_mem.2 ⟨⟨k, hk, e⟩, h1⟩)) h2

/-! ### points that are apart -/
/-- No part has two of the points. -/
def Apart (qs : List GP) (pts : List (Int × Int)) : Prop := pts.Pairwise fun x y => ∀ q ∈ qs, ¬ (q.1.has x.1 x.2 = true ∧ q.1.has y.1 y.2 = true)
theorem apart_le : ∀ (pts : List (Int × Int)) (qs : List GP), Apart qs pts → (∀ x ∈ pts, ∃ q ∈ qs, q.1.has x.1 x.2 = true) → pts.length ≤ qs.length
  | [], qs, _, _ => Nat.zero_le _
  | x :: pts, qs, ha, hc => by
    unfold Apart at ha
    rw [List.pairwise_cons] at ha
    obtain ⟨q, hq, hx⟩ := hc x (by simp)
    obtain ⟨s, t, rfl⟩ := List.append_of_mem hq
    have := apart_le pts (s ++ t) (ha.2.imp fun h r hr => h r (by simp at hr ⊢; rcases hr with h | h <;> simp [h])) (fun y hy => by
      obtain ⟨r, hr, hry⟩ := hc y (by simp [hy])
      have h1 : r ∈ s ∨ r = q ∨ r ∈ t := by simpa using hr
      rcases h1 with h | rfl | h
      · exact ⟨r, by simp [h], hry⟩
      · exact absurd ⟨hx, hry⟩ (ha.1 y hy r hq)
      · exact ⟨r, by simp [h], hry⟩)
    simp only [List.length_cons, List.length_append] at this ⊢
    omega
theorem apart_cov {ps : List GP} {pts : List (Int × Int)} {ns : List Nat} (ha : Apart ps pts) (hp : ∀ x ∈ pts, Pt x.1 x.2) (hc : Cov ps ns) : pts.length ≤ ns.length := by
  have h : pts.length ≤ (ns.filterMap fun k => ps[k]?).length := by
    refine apart_le pts _ (ha.imp fun h q hq => ?_) (fun x hx => ?_)
    · obtain ⟨k, _, e⟩ := List.mem_filterMap.1 hq
      exact h q (List.mem_of_getElem? e)
    · obtain ⟨k, hk, p, e, hh⟩ := hc _ _ (hp x hx)
      exact ⟨p, List.mem_filterMap.2 ⟨k, hk, e⟩, hh⟩
  exact Nat.le_trans h (List.length_filterMap_le _ _)

/-- A point, and a set-up that has it and reaches farthest. -/
def Bst (ps : List GP) (x : (Int × Int) × Nat) : Prop := Pt x.1.1 x.1.2 ∧ ∃ b, ps[x.2]? = some b ∧ b.1.has x.1.1 x.1.2 = true ∧ ∀ q ∈ ps, q.1.has x.1.1 x.1.2 = true → q.1.c * b.1.d ≤ b.1.c * q.1.d
/-- A set-up ends ahead of a point. -/
def Ends_ (ps : List GP) (k : Nat) (p : Int × Int) : Prop := ∃ b, ps[k]? = some b ∧ b.1.c * p.2 < p.1 * b.1.d
/-- The points and set-ups chosen so far. -/
structure FwI (ps : List GP) (L : List ((Int × Int) × Nat)) : Prop where
  bst : ∀ x ∈ L, Bst ps x
  sep : L.Pairwise fun x y => Ends_ ps x.2 y.1
theorem FwI.nil {ps : List GP} : FwI ps [] := ⟨(fun _ h => by cases h), List.Pairwise.nil⟩
theorem FwI.snoc {ps : List GP} {L : List ((Int × Int) × Nat)} {x : (Int × Int) × Nat} (h : FwI ps L) (hx : Bst ps x) (hs : ∀ y ∈ L, Ends_ ps y.2 x.1) : FwI ps (L ++ [x]) := by
  refine ⟨fun y hy => ?_, List.pairwise_append.2 ⟨h.sep, List.pairwise_singleton .., fun y hy z hz => ?_⟩⟩
  · rcases List.mem_append.1 hy with hy | hy
    · exact h.bst y hy
    · obtain rfl := List.mem_singleton.1 hy; exact hx
  · obtain rfl := List.mem_singleton.1 hz; exact hs y hy
/-- What is behind the end of the last one is behind the ends of all. -/
theorem FwI.step {ps : List GP} {L : List ((Int × Int) × Nat)} {x : (Int × Int) × Nat} {p : Int × Int} (hx : Bst ps x) (hs : ∀ y ∈ L, Ends_ ps y.2 x.1) (hp : 0 < p.2) (he : Ends_ ps x.2 p) : ∀ y ∈ L ++ [x], Ends_ ps y.2 p := by
  intro y hy
  rcases List.mem_append.1 hy with hy | hy
  · obtain ⟨b, hb, h1⟩ := hs y hy
    obtain ⟨hpt, b', hb', hh, _⟩ := hx
    obtain ⟨b2, hb2, h2⟩ := he
    rw [hb'] at hb2
    cases hb2
    obtain ⟨_, hbet⟩ := has_bet.1 hh
    refine ⟨b, hb, ?_⟩
    have k1 := fr_lt_le (a := b.1.c) (b := b.1.d) (c := x.1.1) (d := x.1.2) (e := b'.1.c) (f := b'.1.d) b.2.2.2 hpt.2.2.1 b'.2.2.2 h1 hbet.2
    exact fr_lt_le (a := b.1.c) (b := b.1.d) (c := b'.1.c) (d := b'.1.d) (e := p.1) (f := p.2) b.2.2.2 b'.2.2.2 hp k1 (Int.le_of_lt h2)
  · obtain rfl := List.mem_singleton.1 hy; exact he
theorem FwI.apart {ps : List GP} {L : List ((Int × Int) × Nat)} (h : FwI ps L) : Apart ps (L.map (·.1)) := by
  unfold Apart
  rw [List.pairwise_map]
  refine List.Pairwise.imp_of_mem (fun {x y} hx hy hs q hq hh => ?_) h.sep
  obtain ⟨_, b, hb, _, hbest⟩ := h.bst x hx
  obtain ⟨hy1, _⟩ := h.bst y hy
  obtain ⟨b', hb', h1⟩ := hs
  rw [hb] at hb'
  cases hb'
  have h2 := hbest q hq hh.1
  obtain ⟨_, hbet⟩ := has_bet.1 hh.2
  have := fr_le_lt (a := q.1.c) (b := q.1.d) (c := b.1.c) (d := b.1.d) (e := y.1.1) (f := y.1.2) q.2.2.2 b.2.2.2 hy1.2.2.1 h2 h1
  have := hbet.2
  omega
theorem FwI.rises {ps : List GP} {L : List ((Int × Int) × Nat)} (h : FwI ps L) : (L.map (·.1)).Pairwise fun x y => x.1 * y.2 < y.1 * x.2 := by
  rw [List.pairwise_map]
  refine List.Pairwise.imp_of_mem (fun {x y} hx hy hs => ?_) h.sep
  obtain ⟨hx1, b, hb, hh, _⟩ := h.bst x hx
  obtain ⟨hy1, _⟩ := h.bst y hy
  obtain ⟨b', hb', h1⟩ := hs
  rw [hb] at hb'
  cases hb'
  obtain ⟨_, hbet⟩ := has_bet.1 hh
  exact fr_le_lt (a := x.1.1) (b := x.1.2) (c := b.1.c) (d := b.1.d) (e := y.1.1) (f := y.1.2) hx1.2.2.1 b.2.2.2 hy1.2.2.1 hbet.2 h1
theorem FwI.pts {ps : List GP} {L : List ((Int × Int) × Nat)} (h : FwI ps L) : ∀ x ∈ L.map (·.1), Pt x.1 x.2 := by
  intro x hx
  obtain ⟨y, hy, rfl⟩ := List.mem_map.1 hx
  exact (h.bst y hy).1
theorem FwI.len {ps : List GP} {L : List ((Int × Int) × Nat)} (h : FwI ps L) : L.length ≤ ps.length := by
  have := apart_le (L.map (·.1)) ps h.apart (fun x hx => by
    obtain ⟨y, hy, rfl⟩ := List.mem_map.1 hx
    obtain ⟨_, b, hb, hh, _⟩ := h.bst y hy
    exact ⟨b, List.mem_of_getElem? hb, hh⟩)
  simpa using this

/-- The best of the first k set-ups for a point. -/
def BestI (ps : List GP) (n m : Int) (k : Nat) (b : Int) : Prop :=
  (b = -1 ∧ ∀ (i : Nat) (q : GP), i < k → ps[i]? = some q → q.1.has n m = false) ∨
  (∃ (i : Nat) (p : GP), b = i ∧ i < k ∧ ps[i]? = some p ∧ p.1.has n m = true ∧ ∀ (j : Nat) (q : GP), j < k → ps[j]? = some q → q.1.has n m = true → q.1.c * p.1.d ≤ p.1.c * q.1.d)
theorem BestI.zero {ps : List GP} {n m : Int} : BestI ps n m 0 (-1) := .inl ⟨rfl, fun i _ h => absurd h (by omega)⟩
theorem BestI.skip {ps : List GP} {n m : Int} {k : Nat} {b : Int} {q : GP} (h : BestI ps n m k b) (hq : ps[k]? = some q) (hh : q.1.has n m = false) : BestI ps n m (k + 1) b := by
  rcases h with ⟨h1, h2⟩ | ⟨i, p, h1, h2, h3, h4, h5⟩
  · refine .inl ⟨h1, fun i r hi hr => ?_⟩
    by_cases e : i = k
    · subst e; rw [hq] at hr; cases hr; exact hh
    · exact h2 i r (by omega) hr
  · refine .inr ⟨i, p, h1, by omega, h3, h4, fun j r hj hr hr2 => ?_⟩
    by_cases e : j = k
    · subst e; rw [hq] at hr; cases hr; rw [hh] at hr2; cases hr2
    · exact h5 j r (by omega) hr hr2
theorem BestI.first {ps : List GP} {n m : Int} {k : Nat} {q : GP} (h : BestI ps n m k (-1)) (hq : ps[k]? = some q) (hh : q.1.has n m = true) : BestI ps n m (k + 1) k := by
  rcases h with ⟨_, h2⟩ | ⟨i, p, h1, _⟩
  · refine .inr ⟨k, q, rfl, by omega, hq, hh, fun j r hj hr hr2 => ?_⟩
    by_cases e : j = k
    · subst e; rw [hq] at hr; cases hr; exact Int.le_refl _
    · rw [h2 j r (by omega) hr] at hr2; cases hr2
  · omega
theorem BestI.keep {ps : List GP} {n m : Int} {k i : Nat} {p q : GP} (h : BestI ps n m k i) (hp : ps[i]? = some p) (hq : ps[k]? = some q) (hle : q.1.c * p.1.d ≤ p.1.c * q.1.d) : BestI ps n m (k + 1) i := by
  rcases h with ⟨h1, _⟩ | ⟨i', p', h1, h2, h3, h4, h5⟩
  · omega
  · obtain rfl : i = i' := by omega
    rw [hp] at h3; cases h3
    refine .inr ⟨i, p, rfl, by omega, hp, h4, fun j r hj hr hr2 => ?_⟩
    by_cases e : j = k
    · subst e; rw [hq] at hr; cases hr; exact hle
    · exact h5 j r (by omega) hr hr2
theorem BestI.turn {ps : List GP} {n m : Int} {k i : Nat} {p q : GP} (h : BestI ps n m k i) (hp : ps[i]? = some p) (hq : ps[k]? = some q) (hh : q.1.has n m = true) (hlt : p.1.c * q.1.d < q.1.c * p.1.d) : BestI ps n m (k + 1) k := by
  rcases h with ⟨h1, _⟩ | ⟨i', p', h1, h2, h3, h4, h5⟩
  · omega
  · obtain rfl : i = i' := by omega
    rw [hp] at h3; cases h3
    refine .inr ⟨k, q, rfl, by omega, hq, hh, fun j r hj hr hr2 => ?_⟩
    by_cases e : j = k
    · subst e; rw [hq] at hr; cases hr; exact Int.le_refl _
    · have := h5 j r (by omega) hr hr2
      exact frac_trans_le (a := r.1.c) (b := r.1.d) (c := p.1.c) (d := p.1.d) (e := q.1.c) (f := q.1.d) r.2.2.2 p.2.2.2 q.2.2.2 this (Int.le_of_lt hlt)
theorem BestI.done {ps : List GP} {n m b : Int} (h : BestI ps n m ps.length b) (hp : Pt n m) (hm : metAny ps n m = true) : ∃ (i : Nat) (p : GP), b = i ∧ ps[i]? = some p ∧ Bst ps ((n, m), i) := by
  rcases h with ⟨_, h2⟩ | ⟨i, p, h1, h2, h3, h4, h5⟩
  · obtain ⟨q, hq, hh⟩ := List.any_eq_true.1 hm
    obtain ⟨i, hi, rfl⟩ := List.mem_iff_getElem.1 hq
    rw [h2 i _ hi (List.getElem?_eq_getElem hi)] at hh
    cases hh
  · refine ⟨i, p, h1, h3, hp, p, h3, h4, fun q hq hh => ?_⟩
    obtain ⟨j, hj, rfl⟩ := List.mem_iff_getElem.1 hq
    exact h5 j _ hj (List.getElem?_eq_getElem hj) hh
/-- An end that is not that of the face lies ahead of it. -/
theorem end_lt {c d : Int} (h : Pt c d) (hne : ¬ (c = 1 ∧ d = 1)) : c < d := by
  obtain ⟨h1, h2, h3, _, h5⟩ := h
  rcases Int.lt_or_eq_of_le h2 with h | h
  · exact h
  · subst h
    rw [Int.gcd_self] at h5
    omega
end Go.Proofs.YtlnkgjkjdllckaaGreatDoor

namespace Go.Proofs.YtlnkgjkjdllckaaGreatDoor
open Go.RowKit

theorem blk2 {w : World} {g : Nat} {t : TypeId} {v0 v1 : Value} (h : Blk w g t #[v0, v1]) : w.cell? ⟨g, 0, none⟩ = some v0 ∧ w.cell? ⟨g, 1, none⟩ = some v1 ∧ ∀ i, w.frozen? ⟨g, i, none⟩ = false := ⟨h.cell 0, h.cell 1, h.frozen⟩
theorem cmpI_neg1 {x y : Int} (h : x < y) : cmpI x y = -1 := by unfold cmpI; rw [if_pos h]
theorem cmpI_ge {x y : Int} (h : y ≤ x) : ¬ cmpI x y < 0 := by unfold cmpI; rw [if_neg (by omega)]; split <;> omega

set_option maxHeartbeats 1000000 in
theorem between_any (a b c d : Int) (ha : 0 ≤ a ∧ a ≤ 1000000000000) (hb : 1 ≤ b ∧ b ≤ 1000000000000) (hc : 0 ≤ c ∧ c ≤ 1000000000000) (hd : 1 ≤ d ∧ d ≤ 1000000000000) (w : World) :
    Calls Tryz.prog 58 #[.agg #[.int .i64 a, .int .i64 b], .agg #[.int .i64 c, .int .i64 d]] w fun e w' => e = .returned (.agg #[.int .i64 (shN (a + c) (b + d)), .int .i64 (shD (a + c) (b + d))]) ∧ Below w.heap.size w w' := by
  go_enter Tryz.func58, Tryz.ntmps58
  go_wp2_with fail
  refine (point_any (a + c) (b + d) (by omega) (by omega) _).mono ?_
  rintro e w1 ⟨rfl, hB1⟩
  have bz := (Blk.new' ((w.alloc (.cells #[.int .i64 a, .int .i64 b] 35)).alloc (.cells #[.int .i64 c, .int .i64 d] 35)) 35 #[.int .i64 0, .int .i64 0] (g := w.heap.size + 1 + 1) (by simp)).gr hB1
  have hBB : Below w.heap.size w w1 := ((((Below.refl _ _).alloc (Nat.le_refl _) _).alloc (by simp) _).alloc (by simp; omega) _).trans (hB1.mono (by simp; omega))
  clear hB1
  obtain ⟨n, hn⟩ : ∃ n, shN (a + c) (b + d) = n := ⟨_, rfl⟩
  obtain ⟨m, hm⟩ : ∃ m, shD (a + c) (b + d) = m := ⟨_, rfl⟩
  rw [hn, hm]
  have HNM := Lib.hid (And.intro hn hm)
  clear hn hm
  obtain ⟨z0, z1, zf⟩ := blk2 bz
  have lz := bz.lt
  have bz2 := (bz.set_ 0 (.int .i64 n)).set_ 1 (.int .i64 m)
  have hB2 := (hBB.setCell (p := ⟨w.heap.size + 1 + 1, 0, none⟩) (by simp; omega) (.int .i64 n)).setCell (p := ⟨w.heap.size + 1 + 1, 1, none⟩) (by simp; omega) (.int .i64 m)
  go_wp2
  have e0 := bz2.cell 0
  have e1 := bz2.cell 1
  simp at e0 e1
  refine bodyPost_ret (v := .agg #[.int .i64 n, .int .i64 m]) (by simp [results, Tryz.results58, go_sem, e0, e1]) rfl ⟨by rw [HNM.out.1, HNM.out.2], hB2⟩

/-- An end of a part, or of the face, behind a point. -/
def NextI (x y n m : Int) : Prop := 0 ≤ n ∧ n ≤ m ∧ 0 < m ∧ m ≤ 400000000000 ∧ x * m < n * y
structure BhO (w : World) (x y n m : Int) (W : World) : Prop where
  bx : Blk W w.heap.size 35 #[.int .i64 x, .int .i64 y]
  br : Blk W (w.heap.size + 1) 35 #[.int .i64 0, .int .i64 0]
  bn : Blk W (w.heap.size + 1 + 1) 35 #[.int .i64 n, .int .i64 m]
  below : Below w.heap.size w W
theorem BhO.gr {w W W' : World} {x y n m : Int} (h : BhO w x y n m W) (g : Gr W W') : BhO w x y n m W' := ⟨h.bx.gr g, h.br.gr g, h.bn.gr g, h.below.trans (Below.mono g (Below.size h.below))⟩
structure BhM (w : World) (x y n m : Int) (g7 : Nat) (cs : Array Value) (W : World) : Prop extends BhO w x y n m W where
  bp : Blk W g7 89 cs
  ne : w.heap.size + 1 + 1 < g7
theorem BhM.gr {w W W' : World} {x y n m : Int} {g7 : Nat} {cs : Array Value} (h : BhM w x y n m g7 cs W) (g : Gr W W') : BhM w x y n m g7 cs W' := ⟨h.toBhO.gr g, h.bp.gr g, h.ne⟩
theorem BhM.set {w W : World} {x y n m : Int} {g7 : Nat} {cs : Array Value} (h : BhM w x y n m g7 cs W) (P Q : Int) : BhM w x y P Q g7 cs ((W.setCell ⟨w.heap.size + 1 + 1, 0, none⟩ (.int .i64 P)).setCell ⟨w.heap.size + 1 + 1, 1, none⟩ (.int .i64 Q)) := by
  have hne := h.ne
  exact ⟨⟨(h.bx.far (p := ⟨w.heap.size + 1 + 1, 0, none⟩) (by simp; omega) _).far (p := ⟨w.heap.size + 1 + 1, 1, none⟩) (by simp; omega) _, (h.br.far (p := ⟨w.heap.size + 1 + 1, 0, none⟩) (by simp) _).far (p := ⟨w.heap.size + 1 + 1, 1, none⟩) (by simp) _, (h.bn.set_ 0 _).set_ 1 _,
    (h.below.setCell (p := ⟨w.heap.size + 1 + 1, 0, none⟩) (by simp; omega) _).setCell (p := ⟨w.heap.size + 1 + 1, 1, none⟩) (by simp; omega) _⟩, (h.bp.far (p := ⟨w.heap.size + 1 + 1, 0, none⟩) (by simp; omega) _).far (p := ⟨w.heap.size + 1 + 1, 1, none⟩) (by simp; omega) _, hne⟩
theorem bp6 {w : World} {g : Nat} {t : TypeId} {v0 v1 v2 v3 v4 v5 : Value} (h : Blk w g t #[v0, v1, v2, v3, v4, v5]) : w.cell? ⟨g, 0, none⟩ = some v0 ∧ w.cell? ⟨g, 1, none⟩ = some v1 ∧ w.cell? ⟨g, 2, none⟩ = some v2 ∧ w.cell? ⟨g, 3, none⟩ = some v3 ∧ w.cell? ⟨g, 4, none⟩ = some v4 ∧ w.cell? ⟨g, 5, none⟩ = some v5 := ⟨h.cell 0, h.cell 1, h.cell 2, h.cell 3, h.cell 4, h.cell 5⟩

theorem idx0 (a b c d : Int) (W : World) : (Instr.index 123 (.agg #[.int .i64 a, .int .i64 b, .int .i64 c, .int .i64 d]) (.int .i64 0)).run Tryz.prog W = .ok (.agg #[.int .i64 a, .int .i64 b]) W := by kernel_rfl
theorem idx1 (a b c d : Int) (W : World) : (Instr.index 123 (.agg #[.int .i64 a, .int .i64 b, .int .i64 c, .int .i64 d]) (.int .i64 1)).run Tryz.prog W = .ok (.agg #[.int .i64 c, .int .i64 d]) W := by kernel_rfl

set_option maxRecDepth 100000 in
set_option maxHeartbeats 8000000 in
theorem behind_any (ps : List GP) (x y : Int) (A : Option Addr) (c : Nat) (w : World) (hlen : ps.length ≤ 1000) (hR : Row w w.heap.size 6 A ps.length (ps.flatMap encP)) (hE : Ends w) (hG : ∀ p ∈ ps, p.1.good) (hL : ∀ p ∈ ps, p.1.low) (hx : 0 ≤ x) (hxy : x < y) (hy : y ≤ 400000000000) :
    Calls Tryz.prog 34 #[.slice A ps.length c, .agg #[.int .i64 x, .int .i64 y]] w fun e w' => ∃ n m : Int, e = .returned (.agg #[.int .i64 n, .int .i64 m]) ∧ Pt n m ∧ x * m < n * y ∧ Below w.heap.size w w' := by
  have HG := Lib.hid hG
  have HL := Lib.hid hL
  have HR := Lib.hid hR
  have hM : BhO w x y 1 1 (((w.alloc (.cells #[.int .i64 x, .int .i64 y] 35)).alloc (.cells #[.int .i64 0, .int .i64 0] 35)).alloc (.cells #[.int .i64 1, .int .i64 1] 35)) :=
    ⟨((Blk.new w 35 #[.int .i64 x, .int .i64 y]).alloc (.cells #[.int .i64 0, .int .i64 0] 35)).alloc (.cells #[.int .i64 1, .int .i64 1] 35),
      (Blk.new' (w.alloc (.cells #[.int .i64 x, .int .i64 y] 35)) 35 #[.int .i64 0, .int .i64 0] (g := w.heap.size + 1) (by simp)).alloc (.cells #[.int .i64 1, .int .i64 1] 35),
      Blk.new' ((w.alloc (.cells #[.int .i64 x, .int .i64 y] 35)).alloc (.cells #[.int .i64 0, .int .i64 0] 35)) 35 #[.int .i64 1, .int .i64 1] (g := w.heap.size + 1 + 1) (by simp),
      (((Below.refl _ _).alloc (Nat.le_refl _) _).alloc (by simp) _).alloc (by simp; omega) _⟩
  obtain ⟨eb0, eb1, ee0, ee1⟩ := hE.below ((((Below.refl _ _).alloc (Nat.le_refl _) _).alloc (by simp) _) : Below w.heap.size w ((w.alloc (.cells #[.int .i64 x, .int .i64 y] 35)).alloc (.cells #[.int .i64 0, .int .i64 0] 35)))
  clear hG hL hR hE
  go_enter Tryz.func34, Tryz.ntmps34
  go_wp2_with fail
  clear eb0 eb1 ee0 ee1
  go_loopw [13] (fun s13 wr => ∃ (k : Nat) (n m : Int), k ≤ ps.length ∧ s13 = .int .i64 k ∧ NextI x y n m ∧ BhO w x y n m wr) (fun s13 _ => ps.length - (RowKit.intOf s13).toNat)
  case atStart => exact ⟨0, 1, 1, Nat.zero_le _, rfl, ⟨by omega, by omega, by omega, by omega, by omega⟩, hM⟩
  case round =>
    clear hM
    obtain ⟨k, n, m, hk, rfl, hNI, M⟩ := hrel
    by_cases hlt : k < ps.length
    · obtain ⟨g, o, hA, hg, c0, c1, c2, c3, c4, c5⟩ := gpCells (HR.out.below M.below (Nat.le_refl _)) hlt
      subst hA
      have hsz := Below.size M.below
      have lg : g < wr.heap.size := by omega
      have k0 : (0 : Int) ≤ (k : Int) := by omega
      have k1 : (k : Int) < (ps.length : Int) := by omega
      have HGD := Lib.hid (HG.out _ (List.getElem_mem hlt))
      obtain ⟨⟨hl0, hl1⟩, hl3, hl2⟩ := HL.out _ (List.getElem_mem hlt)
      obtain ⟨hpa, hpb, hpc, hpd⟩ := (ps[k]).2.1
      unfold PV.good at HGD
      generalize (ps[k]).1.a = pa at *
      generalize (ps[k]).1.b = pb at *
      generalize (ps[k]).1.c = pc at *
      generalize (ps[k]).1.d = pd at *
      generalize (ps[k]).1.none = pn at *
      generalize (ps[k]).1.up = pu at *
      have hM2 : BhM w x y n m wr.heap.size #[.int .i64 pa, .int .i64 pb, .int .i64 pc, .int .i64 pd, .bool pn, .bool pu] (wr.alloc (.cells #[.int .i64 pa, .int .i64 pb, .int .i64 pc, .int .i64 pd, .bool pn, .bool pu] 89)) :=
        ⟨M.gr ((Below.refl _ _).alloc (Nat.le_refl _) _), Blk.new _ _ _, M.bn.lt⟩
      clear M
      go_wp2_with fail
      generalize wr.alloc (.cells #[.int .i64 pa, .int .i64 pb, .int .i64 pc, .int .i64 pd, .bool pn, .bool pu] 89) = W0 at *
      generalize wr.heap.size = g7 at *
      clear c0 c1 c2 c3 c4 c5 lg k0 k1 hsz hg
      go_loopw [24] (fun s24 wq => ∃ (i n m : Int), (i = 0 ∨ i = 1 ∨ i = 2) ∧ s24 = .int .i64 i ∧ NextI x y n m ∧ BhM w x y n m g7 #[.int .i64 pa, .int .i64 pb, .int .i64 pc, .int .i64 pd, .bool pn, .bool pu] wq) (fun s24 _ => 2 - (RowKit.intOf s24).toNat)
      case atStart => exact ⟨0, n, m, by omega, rfl, hNI, hM2⟩
      case round =>
        clear hM2 hNI
        obtain ⟨i, n, m, hi, rfl, hNI, M⟩ := hrel
        have hix0 := fun W => idx0 pa pb pc pd W
        have hix1 := fun W => idx1 pa pb pc pd W
        have HM := Lib.hid M
        have HNI := Lib.hid hNI
        obtain ⟨ni0, ni1, ni2, ni3, ni4⟩ := hNI
        clear M
        rcases hi with rfl | rfl | rfl
        · skip
          have M4 := HM.out.gr ((Below.refl _ _).alloc (Nat.le_refl _) (.cells #[.int .i64 pa, .int .i64 pb] 35 (0, 0)))
          have by4 := Blk.new wr 35 #[.int .i64 pa, .int .i64 pb]
          cases pn
          · have hP : Pt pa pb := (HGD.out rfl).1
            have hQ : pb ≤ 400000000000 := hl1
            obtain ⟨p1, p2, p3, _, _⟩ := hP
            obtain ⟨x0, x1, xf⟩ := blk2 HM.out.bx
            have lx := HM.out.bx.lt
            obtain ⟨q0, q1, q2, q3, q4, q5⟩ := bp6 HM.out.bp
            have lq := HM.out.bp.lt
            by_cases hgt : x * pb < pa * y
            · have e1 : cmpI (pa * y) (x * pb) = 1 := cmpI_one hgt
              by_cases hlt2 : pa * m < n * pb
              · have e2 := cmpI_neg1 hlt2
                have HNX : Hid (NextI x y pa pb) := Lib.hid ⟨p1, p2, p3, hQ, hgt⟩
                clear hlt2 hgt
                go_wp2_with fail
                refine (compare_any pa pb x y (by omega) (by omega) (by omega) (by omega) _).mono ?_
                rintro e w5 ⟨rfl, hB5⟩
                rw [e1]
                have M5 := M4.gr hB5
                have by5 := by4.gr hB5
                clear x0 x1 xf lx q0 q1 q2 q3 q4 q5 lq M4 by4 hB5
                obtain ⟨f0, f1, _⟩ := blk2 by5
                have lf := by5.lt
                obtain ⟨n0, n1, nf⟩ := blk2 M5.bn
                have ln := M5.bn.lt
                go_wp2_with fail
                refine (compare_any pa pb n m (by omega) (by omega) (by omega) (by omega) _).mono ?_
                rintro e w6 ⟨rfl, hB6⟩
                rw [e2]
                have M6 := M5.gr hB6
                have by6 := by5.gr hB6
                clear f0 f1 n0 n1 nf lf ln by5 M5 hB6 e1 e2
                obtain ⟨f0, f1, _⟩ := blk2 by6
                have lf := by6.lt
                obtain ⟨n0, n1, nf⟩ := blk2 M6.bn
                have ln := M6.bn.lt
                have HM7 := Lib.hid (M6.set pa pb)
                clear M6 by6
                go_wp2
                exact ⟨⟨1, pa, pb, by omega, rfl, HNX.out, HM7.out⟩, by simp [RowKit.intOf]⟩
              · have e2 := cmpI_ge (show n * pb ≤ pa * m by omega)
                clear hlt2 hgt
                go_wp2_with fail
                refine (compare_any pa pb x y (by omega) (by omega) (by omega) (by omega) _).mono ?_
                rintro e w5 ⟨rfl, hB5⟩
                rw [e1]
                have M5 := M4.gr hB5
                have by5 := by4.gr hB5
                clear x0 x1 xf lx q0 q1 q2 q3 q4 q5 lq M4 by4 hB5
                obtain ⟨f0, f1, _⟩ := blk2 by5
                have lf := by5.lt
                obtain ⟨n0, n1, nf⟩ := blk2 M5.bn
                have ln := M5.bn.lt
                go_wp2_with fail
                refine (compare_any pa pb n m (by omega) (by omega) (by omega) (by omega) _).mono ?_
                rintro e w6 ⟨rfl, hB6⟩
                have HM6 := Lib.hid (M5.gr hB6)
                clear f0 f1 n0 n1 nf lf ln by5 M5 hB6 e1
                generalize cmpI (pa * m) (n * pb) = cc at *
                go_wp2
                exact ⟨⟨1, n, m, by omega, rfl, HNI.out, HM6.out⟩, by simp [RowKit.intOf]⟩
            · have e1 := cmpI_le hgt
              clear hgt
              go_wp2_with fail
              refine (compare_any pa pb x y (by omega) (by omega) (by omega) (by omega) _).mono ?_
              rintro e w5 ⟨rfl, hB5⟩
              have HM5 := Lib.hid (M4.gr hB5)
              clear x0 x1 xf lx q0 q1 q2 q3 q4 q5 lq M4 by4 hB5
              generalize cmpI (pa * y) (x * pb) = cc at *
              go_wp2
              exact ⟨⟨1, n, m, by omega, rfl, HNI.out, HM5.out⟩, by simp [RowKit.intOf]⟩
          · have HM4 := Lib.hid M4
            obtain ⟨q0, q1, q2, q3, q4, q5⟩ := bp6 HM.out.bp
            have lq := HM.out.bp.lt
            clear M4 by4
            go_wp2
            exact ⟨⟨1, n, m, by omega, rfl, HNI.out, HM4.out⟩, by simp [RowKit.intOf]⟩
        · skip
          have M4 := HM.out.gr ((Below.refl _ _).alloc (Nat.le_refl _) (.cells #[.int .i64 pc, .int .i64 pd] 35 (0, 0)))
          have by4 := Blk.new wr 35 #[.int .i64 pc, .int .i64 pd]
          cases pn
          · have hP : Pt pc pd := (HGD.out rfl).2.1
            have hQ : pd ≤ 400000000000 := hl2
            obtain ⟨p1, p2, p3, _, _⟩ := hP
            obtain ⟨x0, x1, xf⟩ := blk2 HM.out.bx
            have lx := HM.out.bx.lt
            obtain ⟨q0, q1, q2, q3, q4, q5⟩ := bp6 HM.out.bp
            have lq := HM.out.bp.lt
            by_cases hgt : x * pd < pc * y
            · have e1 : cmpI (pc * y) (x * pd) = 1 := cmpI_one hgt
              by_cases hlt2 : pc * m < n * pd
              · have e2 := cmpI_neg1 hlt2
                have HNX : Hid (NextI x y pc pd) := Lib.hid ⟨p1, p2, p3, hQ, hgt⟩
                clear hlt2 hgt
                go_wp2_with fail
                refine (compare_any pc pd x y (by omega) (by omega) (by omega) (by omega) _).mono ?_
                rintro e w5 ⟨rfl, hB5⟩
                rw [e1]
                have M5 := M4.gr hB5
                have by5 := by4.gr hB5
                clear x0 x1 xf lx q0 q1 q2 q3 q4 q5 lq M4 by4 hB5
                obtain ⟨f0, f1, _⟩ := blk2 by5
                have lf := by5.lt
                obtain ⟨n0, n1, nf⟩ := blk2 M5.bn
                have ln := M5.bn.lt
                go_wp2_with fail
                refine (compare_any pc pd n m (by omega) (by omega) (by omega) (by omega) _).mono ?_
                rintro e w6 ⟨rfl, hB6⟩
                rw [e2]
                have M6 := M5.gr hB6
                have by6 := by5.gr hB6
                clear f0 f1 n0 n1 nf lf ln by5 M5 hB6 e1 e2
                obtain ⟨f0, f1, _⟩ := blk2 by6
                have lf := by6.lt
                obtain ⟨n0, n1, nf⟩ := blk2 M6.bn
                have ln := M6.bn.lt
                have HM7 := Lib.hid (M6.set pc pd)
                clear M6 by6
                go_wp2
                exact ⟨⟨2, pc, pd, by omega, rfl, HNX.out, HM7.out⟩, by simp [RowKit.intOf]⟩
              · have e2 := cmpI_ge (show n * pd ≤ pc * m by omega)
                clear hlt2 hgt
                go_wp2_with fail
                refine (compare_any pc pd x y (by omega) (by omega) (by omega) (by omega) _).mono ?_
                rintro e w5 ⟨rfl, hB5⟩
                rw [e1]
                have M5 := M4.gr hB5
                have by5 := by4.gr hB5
                clear x0 x1 xf lx q0 q1 q2 q3 q4 q5 lq M4 by4 hB5
                obtain ⟨f0, f1, _⟩ := blk2 by5
                have lf := by5.lt
                obtain ⟨n0, n1, nf⟩ := blk2 M5.bn
                have ln := M5.bn.lt
                go_wp2_with fail
                refine (compare_any pc pd n m (by omega) (by omega) (by omega) (by omega) _).mono ?_
                rintro e w6 ⟨rfl, hB6⟩
                have HM6 := Lib.hid (M5.gr hB6)
                clear f0 f1 n0 n1 nf lf ln by5 M5 hB6 e1
                generalize cmpI (pc * m) (n * pd) = cc at *
                go_wp2
                exact ⟨⟨2, n, m, by omega, rfl, HNI.out, HM6.out⟩, by simp [RowKit.intOf]⟩
            · have e1 := cmpI_le hgt
              clear hgt
              go_wp2_with fail
              refine (compare_any pc pd x y (by omega) (by omega) (by omega) (by omega) _).mono ?_
              rintro e w5 ⟨rfl, hB5⟩
              have HM5 := Lib.hid (M4.gr hB5)
              clear x0 x1 xf lx q0 q1 q2 q3 q4 q5 lq M4 by4 hB5
              generalize cmpI (pc * y) (x * pd) = cc at *
              go_wp2
              exact ⟨⟨2, n, m, by omega, rfl, HNI.out, HM5.out⟩, by simp [RowKit.intOf]⟩
          · have HM4 := Lib.hid M4
            obtain ⟨q0, q1, q2, q3, q4, q5⟩ := bp6 HM.out.bp
            have lq := HM.out.bp.lt
            clear M4 by4
            go_wp2
            exact ⟨⟨2, n, m, by omega, rfl, HNI.out, HM4.out⟩, by simp [RowKit.intOf]⟩
        · go_wp2
          exact ⟨⟨k + 1, n, m, by omega, by go_num, HNI.out, HM.out.toBhO⟩, by simp [RowKit.intOf]; omega⟩
    · obtain rfl : k = ps.length := by omega
      obtain ⟨ni0, ni1, ni2, ni3, ni4⟩ := hNI
      have HX := Lib.hid (medPt hx (by omega) ni0 ni1 ni2 (by omega) (by omega) ni4)
      obtain ⟨x0, x1, _⟩ := blk2 M.bx
      have lx := M.bx.lt
      obtain ⟨n0, n1, _⟩ := blk2 M.bn
      have ln := M.bn.lt
      clear ni4
      go_wp2_with fail
      refine (between_any x y n m (by omega) (by omega) (by omega) (by omega) _).mono ?_
      rintro e w5 ⟨rfl, hB5⟩
      have M5 := M.gr hB5
      clear x0 x1 lx n0 n1 ln M hB5
      generalize shN (x + n) (y + m) = n5 at *
      generalize shD (x + n) (y + m) = m5 at *
      obtain ⟨z0, z1, zf⟩ := blk2 M5.br
      have lz := M5.br.lt
      have bz2 := (M5.br.set_ 0 (.int .i64 n5)).set_ 1 (.int .i64 m5)
      have hB2 := (M5.below.setCell (p := ⟨w.heap.size + 1, 0, none⟩) (by simp) (.int .i64 n5)).setCell (p := ⟨w.heap.size + 1, 1, none⟩) (by simp) (.int .i64 m5)
      go_wp2
      have e0 := bz2.cell 0
      have e1 := bz2.cell 1
      simp at e0 e1
      refine bodyPost_ret (v := .agg #[.int .i64 n5, .int .i64 m5]) (by simp [results, Tryz.results34, go_sem, e0, e1]) rfl ⟨n5, m5, rfl, HX.out.1, HX.out.2.1, hB2⟩
end Go.Proofs.YtlnkgjkjdllckaaGreatDoor

namespace Go.Proofs.YtlnkgjkjdllckaaGreatDoor

/-- The region of a number. -/
def findR (n : Nat) : Code → Option Code
  | .region i ops d => if i = n then some (.region i ops d) else none
  | .seq a b => (findR n a).orElse fun _ => findR n b
  | .cond _ a b => (findR n a).orElse fun _ => findR n b
  | .block _ b => findR n b
  | .loop b => findR n b
  | .scope b => findR n b
  | .rangeFunc _ _ a b => (findR n a).orElse fun _ => findR n b
  | _ => none
def regOf (f : Func) (n : Nat) : Code := (f.body.bind (findR n)).getD .skip
/-- The body of a loop by its place in the text. -/
def loopsC : Code → List Code
  | .seq a b => loopsC a ++ loopsC b
  | .cond _ a b => loopsC a ++ loopsC b
  | .block _ b => loopsC b
  | .loop b => b :: loopsC b
  | .scope b => loopsC b
  | _ => []
def bodyOf (f : Func) (k : Nat) : Code := ((f.body.map loopsC).getD [])[k]?.getD .skip
end Go.Proofs.YtlnkgjkjdllckaaGreatDoor

namespace Go.Proofs.YtlnkgjkjdllckaaGreatDoor
open Go.RowKit

set_option maxRecDepth 100000 in
set_option maxHeartbeats 4000000 in
theorem fwNo {W : World} {g o n c10 g15 g18 : Nat} {a b c d x y : Int} {pn up : Bool} (hok : PV.ok ⟨a, b, c, d, pn, up⟩) (hx : NN x) (hy : NN y) (bq : Blk W g18 89 #[.int .i64 a, .int .i64 b, .int .i64 c, .int .i64 d, .bool pn, .bool up]) (bx : Blk W g15 35 #[.int .i64 x, .int .i64 y]) {k : Int} (hh : PV.has ⟨a, b, c, d, pn, up⟩ x y = false) {t0 t1 t2 t3 t4 t5 t6 t7 t8 t9 t11 t12 t13 t14 t17 t19 t20 t21 t22 t23 t24 t25 t26 t27 t28 t29 t30 t31 t32 t33 t34 t35 t36 t37 t38 t39 t40 t41 t42 t43 t44 t45 t46 t47 t48 t49 t50 t51 t52 t53 t54 t55 t56 t57 t58 t59 t60 t61 t62 t63 t64 t65 t66 t67 t68 t69 t70 t71 t72 t73 t74 t75 t76 t77 t78 t79 t80 t81 t82 t83 t84 t85 t86 t87 t88 t89 t90 t91 t92 t93 t94 t95 t96 : Value} {ds : List Deferred} (Q : Exit → Act → World → Prop)
    (h : ∀ (t46 t47 t48 t49 t50 t51 t52 t53 t54 t55 t56 t57 t58 t59 t60 t61 t62 t63 t64 : Value) (w' : World), Gr W w' → Q .normal ⟨#[t0, t1, t2, t3, t4, t5, t6, t7, t8, t9, .slice (some ⟨g, o, none⟩) n c10, t11, t12, t13, t14, .pointer (some ⟨g15, 0, none⟩), .int .i64 k, t17, .pointer (some ⟨g18, 0, none⟩), t19, t20, t21, t22, t23, t24, t25, t26, t27, t28, t29, t30, t31, t32, t33, t34, t35, t36, t37, t38, t39, t40, t41, t42, t43, t44, t45, t46, t47, t48, t49, t50, t51, t52, t53, t54, t55, t56, t57, t58, t59, t60, t61, t62, t63, t64, .bool false, t66, t67, t68, t69, t70, t71, t72, t73, t74, t75, t76, t77, t78, t79, t80, t81, t82, t83, t84, t85, t86, t87, t88, t89, t90, t91, t92, t93, t94, t95, t96], ds⟩ w') :
    (regOf Tryz.f11 15).wp Tryz.prog Q ⟨#[t0, t1, t2, t3, t4, t5, t6, t7, t8, t9, .slice (some ⟨g, o, none⟩) n c10, t11, t12, t13, t14, .pointer (some ⟨g15, 0, none⟩), .int .i64 k, t17, .pointer (some ⟨g18, 0, none⟩), t19, t20, t21, t22, t23, t24, t25, t26, t27, t28, t29, t30, t31, t32, t33, t34, t35, t36, t37, t38, t39, t40, t41, t42, t43, t44, t45, t46, t47, t48, t49, t50, t51, t52, t53, t54, t55, t56, t57, t58, t59, t60, t61, t62, t63, t64, t65, t66, t67, t68, t69, t70, t71, t72, t73, t74, t75, t76, t77, t78, t79, t80, t81, t82, t83, t84, t85, t86, t87, t88, t89, t90, t91, t92, t93, t94, t95, t96], ds⟩ W := by
  try dsimp only at h ⊢
  have H := Lib.hid h; clear h
  obtain ⟨q0, q1, q2, q3, q4, q5⟩ := bp6 bq
  have lq := bq.lt
  obtain ⟨x0, x1, _⟩ := blk2 bx
  have lx := bx.lt
  clear bq bx
  have HH := Lib.hid hh; clear hh
  conv in (regOf _ _) => whnf
  refine wp_region_b 20 (by kernel_rfl) (by kernel_rfl) ?_; simp only [List.take, List.drop]
  repeat (first
    | (apply StepsD.run
       · go_simp
         done
       · intro w' hS K hK
         have hc := (bcell hS).1
         have hf := (bcell hS).2
         have hz := hS.size
         try simp at hz
         go_simp
         try go_bits
         first
           | exact hK _ hS
           | (go_at_call 31; refine (has_any ⟨a, b, c, d, pn, up⟩ hok x y hx hy _).mono ?_; rw [HH.out]; rintro e w1 ⟨rfl, hB1⟩; obtain ⟨hc1, hf1⟩ := bcell hB1; have hz1 := hB1.size; (try simp at hz1); exact hK _ (Below.trans hS (Below.mono hB1 (by first | exact Nat.le_refl _ | (simp; done) | (simp; omega) | omega))))
           | exact hK _ (by repeat (first | (with_reducible exact Below.refl _ _) | (with_reducible assumption) | ((with_reducible refine Below.setCell ?_ ?_ _); rotate_left; · (first | exact Nat.le_refl _ | (simp; done) | (simp; omega) | omega)) | ((with_reducible refine Below.alloc ?_ ?_ _); rotate_left; · (first | exact Nat.le_refl _ | (simp; done) | (simp; omega) | omega)) | (with_reducible apply Below.drew) | (with_reducible apply below_drewN') | (refine Below.trans ?_ (Below.mono (by assumption) (by first | exact Nat.le_refl _ | (simp; done) | (simp; omega) | omega))) | exact Below.refl _ _ | assumption))
       · simp [Act.put]
         done)
    | (apply StepsD.pass
       · first | (go_simp; done) | rfl
       · simp only [Act.put, List.setIfInBounds_toArray, List.set_cons_succ, List.set_cons_zero]
         rfl))
  refine StepsD.done ?_
  intro w' hS
  exact H.out _ _ _ _ _ _ _ _ _ _ _ _ _ _ _ _ _ _ _ _ hS

set_option maxRecDepth 100000 in
set_option maxHeartbeats 4000000 in
theorem fwFirst {W : World} {g o n c10 g15 g18 : Nat} {a b c d x y : Int} {pn up : Bool} (hok : PV.ok ⟨a, b, c, d, pn, up⟩) (hx : NN x) (hy : NN y) (bq : Blk W g18 89 #[.int .i64 a, .int .i64 b, .int .i64 c, .int .i64 d, .bool pn, .bool up]) (bx : Blk W g15 35 #[.int .i64 x, .int .i64 y]) (hh : PV.has ⟨a, b, c, d, pn, up⟩ x y = true) {t0 t1 t2 t3 t4 t5 t6 t7 t8 t9 t11 t12 t13 t14 t17 t19 t20 t21 t22 t23 t24 t25 t26 t27 t28 t29 t30 t31 t32 t33 t34 t35 t36 t37 t38 t39 t40 t41 t42 t43 t44 t45 t46 t47 t48 t49 t50 t51 t52 t53 t54 t55 t56 t57 t58 t59 t60 t61 t62 t63 t64 t65 t66 t67 t68 t69 t70 t71 t72 t73 t74 t75 t76 t77 t78 t79 t80 t81 t82 t83 t84 t85 t86 t87 t88 t89 t90 t91 t92 t93 t94 t95 t96 : Value} {ds : List Deferred} (Q : Exit → Act → World → Prop)
    (h : ∀ (t46 t47 t48 t49 t50 t51 t52 t53 t54 t55 t56 t57 t58 t59 t60 t61 t62 t63 t64 : Value) (w' : World), Gr W w' → Q .normal ⟨#[t0, t1, t2, t3, t4, t5, t6, t7, t8, t9, .slice (some ⟨g, o, none⟩) n c10, t11, t12, t13, t14, .pointer (some ⟨g15, 0, none⟩), .int .i64 (-1), t17, .pointer (some ⟨g18, 0, none⟩), t19, t20, t21, t22, t23, t24, t25, t26, t27, t28, t29, t30, t31, t32, t33, t34, t35, t36, t37, t38, t39, t40, t41, t42, t43, t44, t45, t46, t47, t48, t49, t50, t51, t52, t53, t54, t55, t56, t57, t58, t59, t60, t61, t62, t63, t64, .bool true, t66, t67, t68, t69, t70, t71, t72, t73, t74, t75, t76, t77, t78, t79, t80, t81, t82, t83, t84, t85, t86, t87, t88, t89, t90, t91, t92, t93, t94, t95, t96], ds⟩ w') :
    (regOf Tryz.f11 15).wp Tryz.prog Q ⟨#[t0, t1, t2, t3, t4, t5, t6, t7, t8, t9, .slice (some ⟨g, o, none⟩) n c10, t11, t12, t13, t14, .pointer (some ⟨g15, 0, none⟩), .int .i64 (-1), t17, .pointer (some ⟨g18, 0, none⟩), t19, t20, t21, t22, t23, t24, t25, t26, t27, t28, t29, t30, t31, t32, t33, t34, t35, t36, t37, t38, t39, t40, t41, t42, t43, t44, t45, t46, t47, t48, t49, t50, t51, t52, t53, t54, t55, t56, t57, t58, t59, t60, t61, t62, t63, t64, t65, t66, t67, t68, t69, t70, t71, t72, t73, t74, t75, t76, t77, t78, t79, t80, t81, t82, t83, t84, t85, t86, t87, t88, t89, t90, t91, t92, t93, t94, t95, t96], ds⟩ W := by
  try dsimp only at h ⊢
  have H := Lib.hid h; clear h
  obtain ⟨q0, q1, q2, q3, q4, q5⟩ := bp6 bq
  have lq := bq.lt
  obtain ⟨x0, x1, _⟩ := blk2 bx
  have lx := bx.lt
  clear bq bx
  have HH := Lib.hid hh; clear hh
  conv in (regOf _ _) => whnf
  refine wp_region_b 20 (by kernel_rfl) (by kernel_rfl) ?_; simp only [List.take, List.drop]
  repeat (first
    | (apply StepsD.run
       · go_simp
         done
       · intro w' hS K hK
         have hc := (bcell hS).1
         have hf := (bcell hS).2
         have hz := hS.size
         try simp at hz
         go_simp
         try go_bits
         first
           | exact hK _ hS
           | (go_at_call 31; refine (has_any ⟨a, b, c, d, pn, up⟩ hok x y hx hy _).mono ?_; rw [HH.out]; rintro e w1 ⟨rfl, hB1⟩; obtain ⟨hc1, hf1⟩ := bcell hB1; have hz1 := hB1.size; (try simp at hz1); exact hK _ (Below.trans hS (Below.mono hB1 (by first | exact Nat.le_refl _ | (simp; done) | (simp; omega) | omega))))
           | exact hK _ (by repeat (first | (with_reducible exact Below.refl _ _) | (with_reducible assumption) | ((with_reducible refine Below.setCell ?_ ?_ _); rotate_left; · (first | exact Nat.le_refl _ | (simp; done) | (simp; omega) | omega)) | ((with_reducible refine Below.alloc ?_ ?_ _); rotate_left; · (first | exact Nat.le_refl _ | (simp; done) | (simp; omega) | omega)) | (with_reducible apply Below.drew) | (with_reducible apply below_drewN') | (refine Below.trans ?_ (Below.mono (by assumption) (by first | exact Nat.le_refl _ | (simp; done) | (simp; omega) | omega))) | exact Below.refl _ _ | assumption))
       · simp [Act.put]
         done)
    | (apply StepsD.pass
       · first | (go_simp; done) | rfl
       · simp only [Act.put, List.setIfInBounds_toArray, List.set_cons_succ, List.set_cons_zero]
         rfl))
  refine StepsD.done ?_
  intro w' hS
  exact H.out _ _ _ _ _ _ _ _ _ _ _ _ _ _ _ _ _ _ _ _ hS

set_option maxRecDepth 100000 in
set_option maxHeartbeats 4000000 in
theorem fwMore {W : World} {g o n c10 g15 g18 : Nat} {a b c d x y : Int} {pn up : Bool} (hok : PV.ok ⟨a, b, c, d, pn, up⟩) (hx : NN x) (hy : NN y) (bq : Blk W g18 89 #[.int .i64 a, .int .i64 b, .int .i64 c, .int .i64 d, .bool pn, .bool up]) (bx : Blk W g15 35 #[.int .i64 x, .int .i64 y]) {k : Nat} {c2 d2 : Int} (hh : PV.has ⟨a, b, c, d, pn, up⟩ x y = true) (hk : k < n) (r2 : W.cell? ⟨g, o + k * 6 + 2, none⟩ = some (.int .i64 c2)) (r3 : W.cell? ⟨g, o + k * 6 + 3, none⟩ = some (.int .i64 d2)) (lg : g < W.heap.size) (hc2 : NN c2) (hd2 : NN d2) (hgt : c2 * d < c * d2) {t0 t1 t2 t3 t4 t5 t6 t7 t8 t9 t11 t12 t13 t14 t17 t19 t20 t21 t22 t23 t24 t25 t26 t27 t28 t29 t30 t31 t32 t33 t34 t35 t36 t37 t38 t39 t40 t41 t42 t43 t44 t45 t46 t47 t48 t49 t50 t51 t52 t53 t54 t55 t56 t57 t58 t59 t60 t61 t62 t63 t64 t65 t66 t67 t68 t69 t70 t71 t72 t73 t74 t75 t76 t77 t78 t79 t80 t81 t82 t83 t84 t85 t86 t87 t88 t89 t90 t91 t92 t93 t94 t95 t96 : Value} {ds : List Deferred} (Q : Exit → Act → World → Prop)
    (h : ∀ (t46 t47 t48 t49 t50 t51 t52 t53 t54 t55 t56 t57 t58 t59 t60 t61 t62 t63 t64 : Value) (w' : World), Gr W w' → Q .normal ⟨#[t0, t1, t2, t3, t4, t5, t6, t7, t8, t9, .slice (some ⟨g, o, none⟩) n c10, t11, t12, t13, t14, .pointer (some ⟨g15, 0, none⟩), .int .i64 (k : Int), t17, .pointer (some ⟨g18, 0, none⟩), t19, t20, t21, t22, t23, t24, t25, t26, t27, t28, t29, t30, t31, t32, t33, t34, t35, t36, t37, t38, t39, t40, t41, t42, t43, t44, t45, t46, t47, t48, t49, t50, t51, t52, t53, t54, t55, t56, t57, t58, t59, t60, t61, t62, t63, t64, .bool true, t66, t67, t68, t69, t70, t71, t72, t73, t74, t75, t76, t77, t78, t79, t80, t81, t82, t83, t84, t85, t86, t87, t88, t89, t90, t91, t92, t93, t94, t95, t96], ds⟩ w') :
    (regOf Tryz.f11 15).wp Tryz.prog Q ⟨#[t0, t1, t2, t3, t4, t5, t6, t7, t8, t9, .slice (some ⟨g, o, none⟩) n c10, t11, t12, t13, t14, .pointer (some ⟨g15, 0, none⟩), .int .i64 (k : Int), t17, .pointer (some ⟨g18, 0, none⟩), t19, t20, t21, t22, t23, t24, t25, t26, t27, t28, t29, t30, t31, t32, t33, t34, t35, t36, t37, t38, t39, t40, t41, t42, t43, t44, t45, t46, t47, t48, t49, t50, t51, t52, t53, t54, t55, t56, t57, t58, t59, t60, t61, t62, t63, t64, t65, t66, t67, t68, t69, t70, t71, t72, t73, t74, t75, t76, t77, t78, t79, t80, t81, t82, t83, t84, t85, t86, t87, t88, t89, t90, t91, t92, t93, t94, t95, t96], ds⟩ W := by
  try dsimp only at h ⊢
  have H := Lib.hid h; clear h
  obtain ⟨q0, q1, q2, q3, q4, q5⟩ := bp6 bq
  have lq := bq.lt
  obtain ⟨x0, x1, _⟩ := blk2 bx
  have lx := bx.lt
  clear bq bx
  have HH := Lib.hid hh; clear hh
  have k0 : (0 : Int) ≤ (k : Int) := by omega
  have k1 : (k : Int) < (n : Int) := by omega
  have kn : ¬ ((k : Int) < 0) := by omega
  have hkc := hok.c
  have hkd := hok.d
  have HC := Lib.hid (cmpI_one hgt)
  clear hgt
  conv in (regOf _ _) => whnf
  refine wp_region_b 20 (by kernel_rfl) (by kernel_rfl) ?_; simp only [List.take, List.drop]
  repeat (first
    | (apply StepsD.run
       · go_simp
         done
       · intro w' hS K hK
         have hc := (bcell hS).1
         have hf := (bcell hS).2
         have hz := hS.size
         try simp at hz
         go_simp
         try go_bits
         first
           | exact hK _ hS
           | (go_at_call 31; refine (has_any ⟨a, b, c, d, pn, up⟩ hok x y hx hy _).mono ?_; rw [HH.out]; rintro e w1 ⟨rfl, hB1⟩; obtain ⟨hc1, hf1⟩ := bcell hB1; have hz1 := hB1.size; (try simp at hz1); exact hK _ (Below.trans hS (Below.mono hB1 (by first | exact Nat.le_refl _ | (simp; done) | (simp; omega) | omega))))
           | (go_at_call 32; refine (compare_any c d c2 d2 hkc hkd hc2 hd2 _).mono ?_; rw [HC.out]; rintro e w1 ⟨rfl, hB1⟩; obtain ⟨hc1, hf1⟩ := bcell hB1; have hz1 := hB1.size; (try simp at hz1); exact hK _ (Below.trans hS (Below.mono hB1 (by first | exact Nat.le_refl _ | (simp; done) | (simp; omega) | omega))))
           | exact hK _ (by repeat (first | (with_reducible exact Below.refl _ _) | (with_reducible assumption) | ((with_reducible refine Below.setCell ?_ ?_ _); rotate_left; · (first | exact Nat.le_refl _ | (simp; done) | (simp; omega) | omega)) | ((with_reducible refine Below.alloc ?_ ?_ _); rotate_left; · (first | exact Nat.le_refl _ | (simp; done) | (simp; omega) | omega)) | (with_reducible apply Below.drew) | (with_reducible apply below_drewN') | (refine Below.trans ?_ (Below.mono (by assumption) (by first | exact Nat.le_refl _ | (simp; done) | (simp; omega) | omega))) | exact Below.refl _ _ | assumption))
       · simp [Act.put]
         done)
    | (apply StepsD.pass
       · first | (go_simp; done) | rfl
       · simp only [Act.put, List.setIfInBounds_toArray, List.set_cons_succ, List.set_cons_zero]
         rfl))
  refine StepsD.done ?_
  intro w' hS
  exact H.out _ _ _ _ _ _ _ _ _ _ _ _ _ _ _ _ _ _ _ _ hS

set_option maxRecDepth 100000 in
set_option maxHeartbeats 4000000 in
theorem fwLess {W : World} {g o n c10 g15 g18 : Nat} {a b c d x y : Int} {pn up : Bool} (hok : PV.ok ⟨a, b, c, d, pn, up⟩) (hx : NN x) (hy : NN y) (bq : Blk W g18 89 #[.int .i64 a, .int .i64 b, .int .i64 c, .int .i64 d, .bool pn, .bool up]) (bx : Blk W g15 35 #[.int .i64 x, .int .i64 y]) {k : Nat} {c2 d2 : Int} (hh : PV.has ⟨a, b, c, d, pn, up⟩ x y = true) (hk : k < n) (r2 : W.cell? ⟨g, o + k * 6 + 2, none⟩ = some (.int .i64 c2)) (r3 : W.cell? ⟨g, o + k * 6 + 3, none⟩ = some (.int .i64 d2)) (lg : g < W.heap.size) (hc2 : NN c2) (hd2 : NN d2) (hle : c * d2 ≤ c2 * d) {t0 t1 t2 t3 t4 t5 t6 t7 t8 t9 t11 t12 t13 t14 t17 t19 t20 t21 t22 t23 t24 t25 t26 t27 t28 t29 t30 t31 t32 t33 t34 t35 t36 t37 t38 t39 t40 t41 t42 t43 t44 t45 t46 t47 t48 t49 t50 t51 t52 t53 t54 t55 t56 t57 t58 t59 t60 t61 t62 t63 t64 t65 t66 t67 t68 t69 t70 t71 t72 t73 t74 t75 t76 t77 t78 t79 t80 t81 t82 t83 t84 t85 t86 t87 t88 t89 t90 t91 t92 t93 t94 t95 t96 : Value} {ds : List Deferred} (Q : Exit → Act → World → Prop)
    (h : ∀ (t46 t47 t48 t49 t50 t51 t52 t53 t54 t55 t56 t57 t58 t59 t60 t61 t62 t63 t64 : Value) (w' : World), Gr W w' → Q .normal ⟨#[t0, t1, t2, t3, t4, t5, t6, t7, t8, t9, .slice (some ⟨g, o, none⟩) n c10, t11, t12, t13, t14, .pointer (some ⟨g15, 0, none⟩), .int .i64 (k : Int), t17, .pointer (some ⟨g18, 0, none⟩), t19, t20, t21, t22, t23, t24, t25, t26, t27, t28, t29, t30, t31, t32, t33, t34, t35, t36, t37, t38, t39, t40, t41, t42, t43, t44, t45, t46, t47, t48, t49, t50, t51, t52, t53, t54, t55, t56, t57, t58, t59, t60, t61, t62, t63, t64, .bool false, t66, t67, t68, t69, t70, t71, t72, t73, t74, t75, t76, t77, t78, t79, t80, t81, t82, t83, t84, t85, t86, t87, t88, t89, t90, t91, t92, t93, t94, t95, t96], ds⟩ w') :
    (regOf Tryz.f11 15).wp Tryz.prog Q ⟨#[t0, t1, t2, t3, t4, t5, t6, t7, t8, t9, .slice (some ⟨g, o, none⟩) n c10, t11, t12, t13, t14, .pointer (some ⟨g15, 0, none⟩), .int .i64 (k : Int), t17, .pointer (some ⟨g18, 0, none⟩), t19, t20, t21, t22, t23, t24, t25, t26, t27, t28, t29, t30, t31, t32, t33, t34, t35, t36, t37, t38, t39, t40, t41, t42, t43, t44, t45, t46, t47, t48, t49, t50, t51, t52, t53, t54, t55, t56, t57, t58, t59, t60, t61, t62, t63, t64, t65, t66, t67, t68, t69, t70, t71, t72, t73, t74, t75, t76, t77, t78, t79, t80, t81, t82, t83, t84, t85, t86, t87, t88, t89, t90, t91, t92, t93, t94, t95, t96], ds⟩ W := by
  try dsimp only at h ⊢
  have H := Lib.hid h; clear h
  obtain ⟨q0, q1, q2, q3, q4, q5⟩ := bp6 bq
  have lq := bq.lt
  obtain ⟨x0, x1, _⟩ := blk2 bx
  have lx := bx.lt
  clear bq bx
  have HH := Lib.hid hh; clear hh
  have k0 : (0 : Int) ≤ (k : Int) := by omega
  have k1 : (k : Int) < (n : Int) := by omega
  have kn : ¬ ((k : Int) < 0) := by omega
  have hkc := hok.c
  have hkd := hok.d
  obtain ⟨cc, hcc⟩ : ∃ cc, cmpI (c * d2) (c2 * d) = cc := ⟨_, rfl⟩
  have hcl : cc ≤ 0 := by rw [← hcc]; exact cmpI_le (by omega)
  have HC := Lib.hid hcc
  have hcd : decide (0 < cc) = false := decide_eq_false (by omega)
  clear hcc hle hcl
  conv in (regOf _ _) => whnf
  refine wp_region_b 20 (by kernel_rfl) (by kernel_rfl) ?_; simp only [List.take, List.drop]
  repeat (first
    | (apply StepsD.run
       · go_simp
         done
       · intro w' hS K hK
         have hc := (bcell hS).1
         have hf := (bcell hS).2
         have hz := hS.size
         try simp at hz
         go_simp
         try go_bits
         first
           | exact hK _ hS
           | (go_at_call 31; refine (has_any ⟨a, b, c, d, pn, up⟩ hok x y hx hy _).mono ?_; rw [HH.out]; rintro e w1 ⟨rfl, hB1⟩; obtain ⟨hc1, hf1⟩ := bcell hB1; have hz1 := hB1.size; (try simp at hz1); exact hK _ (Below.trans hS (Below.mono hB1 (by first | exact Nat.le_refl _ | (simp; done) | (simp; omega) | omega))))
           | (go_at_call 32; refine (compare_any c d c2 d2 hkc hkd hc2 hd2 _).mono ?_; rw [HC.out]; rintro e w1 ⟨rfl, hB1⟩; obtain ⟨hc1, hf1⟩ := bcell hB1; have hz1 := hB1.size; (try simp at hz1); exact hK _ (Below.trans hS (Below.mono hB1 (by first | exact Nat.le_refl _ | (simp; done) | (simp; omega) | omega))))
           | exact hK _ (by repeat (first | (with_reducible exact Below.refl _ _) | (with_reducible assumption) | ((with_reducible refine Below.setCell ?_ ?_ _); rotate_left; · (first | exact Nat.le_refl _ | (simp; done) | (simp; omega) | omega)) | ((with_reducible refine Below.alloc ?_ ?_ _); rotate_left; · (first | exact Nat.le_refl _ | (simp; done) | (simp; omega) | omega)) | (with_reducible apply Below.drew) | (with_reducible apply below_drewN') | (refine Below.trans ?_ (Below.mono (by assumption) (by first | exact Nat.le_refl _ | (simp; done) | (simp; omega) | omega))) | exact Below.refl _ _ | assumption))
       · simp [Act.put]
         done)
    | (apply StepsD.pass
       · first | (go_simp; done) | rfl
       · simp only [Act.put, List.setIfInBounds_toArray, List.set_cons_succ, List.set_cons_zero]
         rfl))
  refine StepsD.done ?_
  intro w' hS
  exact H.out _ _ _ _ _ _ _ _ _ _ _ _ _ _ _ _ _ _ _ _ hS

end Go.Proofs.YtlnkgjkjdllckaaGreatDoor

namespace Go.Proofs.YtlnkgjkjdllckaaGreatDoor
open Go.RowKit Go.Lib Go.Shelf

theorem wp_append_at {P : Program} (w : World) {o : Oper} {a : Act} {K : Act → World → Prop} {Q : Exit → Act → World → Prop} (s x : Operand) (t : TypeId)
    (ho : o.op = .call { callee := .builtin .append, args := #[s, x], argTypes := #[t, t] })
    (base : Nat) (e : TypeId) (i : TypeInfo) (z : Value) (size bytes : Nat) (ht : P.underlying t = some (.slice e)) (hi : P.info? e = some i) (hz : i.zero = some z)
    (hsize : i.size = size) (hby : i.bytes = bytes) (hzs : z.cells.size = size) (hsz : 0 < size)
    (v : Value) (n : Nat) (xs : List Value) (hs : a.eval s = v) (hown : w.ownsRow base e size v n xs)
    (ad : Addr) (m c : Nat) (news : List Value) (hx : a.eval x = .slice (some ad) m c) (hl : news.length = m * size) (hnews : ∀ j u, news[j]? = some u → w.cell? (ad.add j) = some u) (h1 : ∀ u ∈ news, u.oneCell' = true)
    (h63 : n + m ≤ maxLen) (hbytes : (n + m) * bytes ≤ 140737488355328) (hbase : base ≤ w.heap.size)
    (h : ∀ v' w', w'.ownsRow base e size v' (n + m) (xs ++ news) → w.grownBy w' v.ownBlock → (v'.ownBlock = v.ownBlock ∨ v'.ownBlock = some w.heap.size) → K (a.put o.dst v') w') : o.wp P a w K Q := by
  obtain ⟨v', w', hr, h2, h3, _, h5⟩ := run_append_own_at (P := P) w base t o.type e i z size bytes ht hi hz hsize hby hzs hsz v n xs hown ad m c news hl hnews h1 h63 hbytes hbase
  unfold Oper.wp execOp
  simp only [ho, resolve, invoke, builtin, Sem.run_bind, Sem.run_pure, Result.andThen_ok, List.map_toArray, List.map_cons, List.map_nil, hs, hx, hr]
  exact h v' w' h2 h3 h5
theorem blk_not_row {w : World} {g t base e size n : Nat} {cs : Array Value} {v : Value} {xs : List Value} (h : Blk w g t cs) (hr : w.ownsRow base e size v n xs) (hte : t ≠ e) : some g ≠ v.ownBlock := by
  rcases hr.2 with ⟨rfl, _⟩ | ⟨g', cap, cur, rfl, _, hgb, _⟩
  · simp [Value.ownBlock]
  · intro e'
    obtain rfl : g = g' := by simpa [Value.ownBlock] using e'
    have := (show w.heap[g]? = _ from h).symm.trans hgb
    simp at this
    exact hte this.2
theorem own_two_ {w : World} {b1 b2 e1 e2 s1 s2 n1 n2 : Nat} {v1 v2 : Value} {xs1 xs2 : List Value} (h1 : w.ownsRow b1 e1 s1 v1 n1 xs1) (h2 : w.ownsRow b2 e2 s2 v2 n2 xs2) (hne : e1 ≠ e2) : v1.ownBlock = none ∨ v1.ownBlock ≠ v2.ownBlock := by
  rcases h1.2 with ⟨rfl, _⟩ | ⟨g, cap, cur, rfl, _, hh, _⟩
  · exact .inl rfl
  · right
    exact blk_not_row (show Blk w g e1 cur from hh) h2 hne
theorem infoPoint : (Tryz.prog.info? 35).map (fun i => (i.zero, i.size, i.bytes)) = some (some (.agg #[.int .i64 0, .int .i64 0]), 2, 16) := by kernel_rfl

set_option maxRecDepth 100000 in
set_option maxHeartbeats 4000000 in
theorem fwReg18 {W : World} {S g15 n : Nat} {b x y : Int} {v13 v14 : Value} {xs ys : List Value} (own1 : W.ownsRow S 3 1 v13 n xs) (own2 : W.ownsRow S 35 2 v14 n ys) (z : Blk W g15 35 #[.int .i64 x, .int .i64 y]) (hz : some g15 ≠ v14.ownBlock) (hbs : S ≤ W.heap.size) (hn : n ≤ 100) {t0 t1 t2 t3 t4 t5 t6 t7 t8 t9 t10 t11 t12 t17 t18 t19 t20 t21 t22 t23 t24 t25 t26 t27 t28 t29 t30 t31 t32 t33 t34 t35 t36 t37 t38 t39 t40 t41 t42 t43 t44 t45 t46 t47 t48 t49 t50 t51 t52 t53 t54 t55 t56 t57 t58 t59 t60 t61 t62 t63 t64 t65 t66 t67 t68 t69 t70 t71 t72 t73 t74 t75 t76 t77 t78 t79 t80 t81 t82 t83 t84 t85 t86 t87 t88 t89 t90 t91 t92 t93 t94 t95 t96 : Value} {ds : List Deferred} (Q : Exit → Act → World → Prop)
    (h : ∀ (t68 t69 t70 t71 t72 t73 t74 t75 v v' : Value) (w' : World), w'.ownsRow S 3 1 v (n + 1) (xs ++ [.int .i64 b]) → w'.ownsRow S 35 2 v' (n + 1) (ys ++ [.int .i64 x, .int .i64 y]) → Blk w' g15 35 #[.int .i64 x, .int .i64 y] → some g15 ≠ v'.ownBlock → Below S W w' → Q .normal ⟨#[t0, t1, t2, t3, t4, t5, t6, t7, t8, t9, t10, t11, t12, v, v', .pointer (some ⟨g15, 0, none⟩), .int .i64 b, t17, t18, t19, t20, t21, t22, t23, t24, t25, t26, t27, t28, t29, t30, t31, t32, t33, t34, t35, t36, t37, t38, t39, t40, t41, t42, t43, t44, t45, t46, t47, t48, t49, t50, t51, t52, t53, t54, t55, t56, t57, t58, t59, t60, t61, t62, t63, t64, t65, t66, t67, t68, t69, t70, t71, t72, t73, t74, t75, t76, t77, t78, t79, t80, t81, t82, t83, t84, t85, t86, t87, t88, t89, t90, t91, t92, t93, t94, t95, t96], ds⟩ w') :
    (regOf Tryz.f11 18).wp Tryz.prog Q ⟨#[t0, t1, t2, t3, t4, t5, t6, t7, t8, t9, t10, t11, t12, v13, v14, .pointer (some ⟨g15, 0, none⟩), .int .i64 b, t17, t18, t19, t20, t21, t22, t23, t24, t25, t26, t27, t28, t29, t30, t31, t32, t33, t34, t35, t36, t37, t38, t39, t40, t41, t42, t43, t44, t45, t46, t47, t48, t49, t50, t51, t52, t53, t54, t55, t56, t57, t58, t59, t60, t61, t62, t63, t64, t65, t66, t67, t68, t69, t70, t71, t72, t73, t74, t75, t76, t77, t78, t79, t80, t81, t82, t83, t84, t85, t86, t87, t88, t89, t90, t91, t92, t93, t94, t95, t96], ds⟩ W := by
  try dsimp only at h ⊢
  have H := Lib.hid h; clear h
  obtain ⟨i0, hi, iz0, iz1, iz2⟩ := info_parts infoInt
  obtain ⟨j0, ji, jz0, jz1, jz2⟩ := info_parts infoPoint
  conv in (regOf _ _) => whnf
  refine wp_region_w (fun w' => Blk w' g15 35 #[.int .i64 x, .int .i64 y]) (by kernel_rfl) (z.drew) ?_
  refine wpW_det (t' := ?ct0R1) 0 (by rfl) (by kernel_rfl) (NQ_free _) (by kernel_rfl) ?cw0R1 ?ch0R1 ?ca0R1 (Eq.refl _) ?cH0R1
  case cw0R1 => (go_simp; done)
  case ch0R1 =>
    intro ds w' hS K hK
    obtain ⟨x0, x1, _⟩ := blk2 hS
    have lx := Blk.lt hS
    go_simp
    try go_bits
    exact hK _ hS (Gr.refl _)
  case ca0R1 => (first | (simp [Act.put]; done) | (simp [Act.put, *]; done))
  try dsimp only
  refine wpW_det (t' := ?ct1R1) 1 (by rfl) (by kernel_rfl) (NQ_free _) (by kernel_rfl) ?cw1R1 ?ch1R1 ?ca1R1 (Eq.refl _) ?cH1R1
  case cw1R1 => (go_simp; done)
  case ch1R1 =>
    intro ds w' hS K hK
    obtain ⟨x0, x1, _⟩ := blk2 hS
    have lx := Blk.lt hS
    go_simp
    try go_bits
    exact hK _ hS (Gr.refl _)
  case ca1R1 => (first | (simp [Act.put]; done) | (simp [Act.put, *]; done))
  try dsimp only
  refine wpW_det (t' := ?ct4R1) 4 (by rfl) (by kernel_rfl) (NQ_free _) (by kernel_rfl) ?cw4R1 ?ch4R1 ?ca4R1 (Eq.refl _) ?cH4R1
  case cw4R1 => (go_simp; done)
  case ch4R1 =>
    intro ds w' hS K hK
    obtain ⟨x0, x1, _⟩ := blk2 hS
    have lx := Blk.lt hS
    go_simp
    try go_bits
    exact hK _ hS (Gr.refl _)
  case ca4R1 => (first | (simp [Act.put]; done) | (simp [Act.put, *]; done))
  try dsimp only
  refine wpW_det (t' := ?ct5R1) 5 (by rfl) (by kernel_rfl) (NQ_free _) (by kernel_rfl) ?cw5R1 ?ch5R1 ?ca5R1 (Eq.refl _) ?cH5R1
  case cw5R1 => (go_simp; done)
  case ch5R1 =>
    intro ds w' hS K hK
    obtain ⟨x0, x1, _⟩ := blk2 hS
    have lx := Blk.lt hS
    go_simp
    try go_bits
    exact hK _ hS (Gr.refl _)
  case ca5R1 => (first | (simp [Act.put]; done) | (simp [Act.put, *]; done))
  try dsimp only
  replace own1 : W.drew.ownsRow S 3 1 v13 n xs := own1
  replace own2 : W.drew.ownsRow S 35 2 v14 n ys := own2
  have hBW : Below S W W.drew := ⟨rfl, rfl, rfl, Nat.le_refl _, fun _ _ => rfl⟩
  replace hbs : S ≤ W.drew.heap.size := hbs
  clear z
  refine wpW_branch [2, 6] (by kernel_rfl) (by simp) ?_
  intro w1 hg1 hS1
  replace hBW := Below.trans hBW (Below.mono hg1 hbs)
  replace hbs := Nat.le_trans hbs (Below.size hg1)
  replace own1 := own_below own1 hg1
  replace own2 := own_below own2 hg1
  refine each_cons ?_ (each_cons ?_ (each_nil))
  · refine wpOp_go (by rfl) (Eq.refl _) (by go_simp; done) ?_
    intro K hK
    go_simp
    try simp only [Act.put]
    have b2 := Blk.new w1 3 #[.int .i64 b]
    have hal : Gr w1 (w1.alloc (.cells #[.int .i64 b] 3)) := (Below.refl _ _).alloc (Nat.le_refl _) _
    replace hBW := Below.trans hBW (Below.mono hal hbs)
    replace hbs := Nat.le_trans hbs (Below.size hal)
    replace own1 := own_below own1 hal
    replace own2 := own_below own2 hal
    try replace b6 := Blk.gr b6 hal
    have z2 := Blk.gr hS1 hal
    clear hal
    generalize w1.heap.size = g2 at *
    refine hK _ _ z2 ?_
    clear hK K z2
    refine wpW_branch [3, 6] (by kernel_rfl) (by simp) ?_
    intro w2 hg2 hS2
    replace hBW := Below.trans hBW (Below.mono hg2 hbs)
    replace hbs := Nat.le_trans hbs (Below.size hg2)
    replace own1 := own_below own1 hg2
    replace own2 := own_below own2 hg2
    replace b2 := Blk.gr b2 hg2
    refine each_cons ?_ (each_cons ?_ (each_nil))
    · refine wpOp_go (by rfl) (Eq.refl _) (by go_simp; done) ?_
      intro K hK
      refine wp_append_at _ (.tmp 68) (.tmp 70) 43 rfl S 3 i0 _ 1 8 Tryz.underlying43 hi iz0 iz1 iz2 rfl (by decide) _ n xs rfl own1 ⟨g2, 0, none⟩ 1 1 [.int .i64 b] rfl rfl ?hc (by simp [Value.oneCell']) (by unfold maxLen; omega) (by omega) hbs ?_
      case hc =>
        intro j u hj
        rw [Addr.add_lit, Nat.zero_add]
        exact (b2.cell j).trans (by simpa using hj)
      intro u12 wa hown' hgrow hat
      have z2 := hS2.grown hgrow (blk_not_row hS2 own1 (by decide))
      try replace b6 := Blk.grown b6 hgrow (blk_not_row b6 own1 (by decide))
      replace own2 := own2.kept hgrow (own_two_ own2 own1 (by decide))
      replace hBW := Below.grown hBW hgrow hbs (fun r e => (own1.lt r e).1)
      replace hbs := Nat.le_trans hbs hgrow.size
      replace own1 := hown'
      clear hgrow hat b2 hown'
      try simp only [Act.put]
      try simp only [List.setIfInBounds_toArray]
      refine hK _ _ z2 ?_
      clear hK K z2
      refine wpW_branch [6] (by kernel_rfl) (by simp) ?_
      intro w3 hg3 hS3
      replace hBW := Below.trans hBW (Below.mono hg3 hbs)
      replace hbs := Nat.le_trans hbs (Below.size hg3)
      replace own1 := own_below own1 hg3
      replace own2 := own_below own2 hg3
      refine each_cons ?_ (each_nil)
      refine wpOp_go (by rfl) (Eq.refl _) (by go_simp; done) ?_
      intro K hK
      go_simp
      try simp only [Act.put]
      have b6 := Blk.new w3 35 #[.int .i64 x, .int .i64 y]
      have hal : Gr w3 (w3.alloc (.cells #[.int .i64 x, .int .i64 y] 35)) := (Below.refl _ _).alloc (Nat.le_refl _) _
      replace hBW := Below.trans hBW (Below.mono hal hbs)
      replace hbs := Nat.le_trans hbs (Below.size hal)
      replace own1 := own_below own1 hal
      replace own2 := own_below own2 hal
      try replace b2 := Blk.gr b2 hal
      have z2 := Blk.gr hS3 hal
      clear hal
      generalize w3.heap.size = g6 at *
      refine hK _ _ z2 ?_
      clear hK K z2
      refine wpW_branch [7] (by kernel_rfl) (by simp) ?_
      intro w4 hg4 hS4
      replace hBW := Below.trans hBW (Below.mono hg4 hbs)
      replace hbs := Nat.le_trans hbs (Below.size hg4)
      replace own1 := own_below own1 hg4
      replace own2 := own_below own2 hg4
      replace b6 := Blk.gr b6 hg4
      refine each_cons ?_ (each_nil)
      refine wpOp_go (by rfl) (Eq.refl _) (by go_simp; done) ?_
      intro K hK
      refine wp_append_at _ (.tmp 72) (.tmp 74) 46 rfl S 35 j0 _ 2 16 Tryz.underlying46 ji jz0 jz1 jz2 rfl (by decide) _ n ys rfl own2 ⟨g6, 0, none⟩ 1 1 [.int .i64 x, .int .i64 y] rfl rfl ?hc (by simp [Value.oneCell']) (by unfold maxLen; omega) (by omega) hbs ?_
      case hc =>
        intro j u hj
        rw [Addr.add_lit, Nat.zero_add]
        exact (b6.cell j).trans (by simpa using hj)
      intro u13 wb hown' hgrow hat
      have z2 := hS4.grown hgrow hz
      have hz2 : some g15 ≠ u13.ownBlock := by
        rcases hat with h | h
        · rw [h]; exact hz
        · rw [h]; intro e; have := Blk.lt hS4; cases e; omega
      replace own1 := own1.kept hgrow (own_two_ own1 own2 (by decide))
      replace hBW := Below.grown hBW hgrow hbs (fun r e => (own2.lt r e).1)
      replace hbs := Nat.le_trans hbs hgrow.size
      replace own2 := hown'
      clear hgrow hat b6 hown'
      try simp only [Act.put]
      try simp only [List.setIfInBounds_toArray]
      refine hK _ _ z2 ?_
      clear hK K z2
      obtain ⟨g', cap', rfl⟩ := ownsRow_succ own1
      obtain ⟨g'', cap'', rfl⟩ := ownsRow_succ own2
      refine wpW_det (t' := ?ct8R2) 8 (by rfl) (by kernel_rfl) (NQ_free _) (by kernel_rfl) ?cw8R2 ?ch8R2 ?ca8R2 (Eq.refl _) ?cH8R2
      case cw8R2 => (go_simp; done)
      case ch8R2 =>
        intro ds w' hS K hK
        obtain ⟨x0, x1, _⟩ := blk2 hS
        have lx := Blk.lt hS
        go_simp
        try go_bits
        exact hK _ hS (Gr.refl _)
      case ca8R2 => (first | (simp [Act.put]; done) | (simp [Act.put, *]; done))
      try dsimp only
      refine wpW_det (t' := ?ct9R2) 9 (by rfl) (by kernel_rfl) (NQ_free _) (by kernel_rfl) ?cw9R2 ?ch9R2 ?ca9R2 (Eq.refl _) ?cH9R2
      case cw9R2 => (go_simp; done)
      case ch9R2 =>
        intro ds w' hS K hK
        obtain ⟨x0, x1, _⟩ := blk2 hS
        have lx := Blk.lt hS
        go_simp
        try go_bits
        exact hK _ hS (Gr.refl _)
      case ca9R2 => (first | (simp [Act.put]; done) | (simp [Act.put, *]; done))
      try dsimp only
      refine wpW_end (by kernel_rfl) ?_
      intro we hg hS
      unfold NQ
      dsimp only
      exact H.out _ _ _ _ _ _ _ _ _ _ we (own_below own1 hg) (own_below own2 hg) hS hz2 (Below.trans hBW (Below.mono hg hbs))
    · refine wpOp_go (by rfl) (Eq.refl _) (by go_simp; done) ?_
      intro K hK
      go_simp
      try simp only [Act.put]
      have b6 := Blk.new w2 35 #[.int .i64 x, .int .i64 y]
      have hal : Gr w2 (w2.alloc (.cells #[.int .i64 x, .int .i64 y] 35)) := (Below.refl _ _).alloc (Nat.le_refl _) _
      replace hBW := Below.trans hBW (Below.mono hal hbs)
      replace hbs := Nat.le_trans hbs (Below.size hal)
      replace own1 := own_below own1 hal
      replace own2 := own_below own2 hal
      try replace b2 := Blk.gr b2 hal
      have z2 := Blk.gr hS2 hal
      clear hal
      generalize w2.heap.size = g6 at *
      refine hK _ _ z2 ?_
      clear hK K z2
      refine wpW_branch [3] (by kernel_rfl) (by simp) ?_
      intro w3 hg3 hS3
      replace hBW := Below.trans hBW (Below.mono hg3 hbs)
      replace hbs := Nat.le_trans hbs (Below.size hg3)
      replace own1 := own_below own1 hg3
      replace own2 := own_below own2 hg3
      replace b2 := Blk.gr b2 hg3
      replace b6 := Blk.gr b6 hg3
      refine each_cons ?_ (each_nil)
      refine wpOp_go (by rfl) (Eq.refl _) (by go_simp; done) ?_
      intro K hK
      refine wp_append_at _ (.tmp 68) (.tmp 70) 43 rfl S 3 i0 _ 1 8 Tryz.underlying43 hi iz0 iz1 iz2 rfl (by decide) _ n xs rfl own1 ⟨g2, 0, none⟩ 1 1 [.int .i64 b] rfl rfl ?hc (by simp [Value.oneCell']) (by unfold maxLen; omega) (by omega) hbs ?_
      case hc =>
        intro j u hj
        rw [Addr.add_lit, Nat.zero_add]
        exact (b2.cell j).trans (by simpa using hj)
      intro u12 wa hown' hgrow hat
      have z2 := hS3.grown hgrow (blk_not_row hS3 own1 (by decide))
      try replace b6 := Blk.grown b6 hgrow (blk_not_row b6 own1 (by decide))
      replace own2 := own2.kept hgrow (own_two_ own2 own1 (by decide))
      replace hBW := Below.grown hBW hgrow hbs (fun r e => (own1.lt r e).1)
      replace hbs := Nat.le_trans hbs hgrow.size
      replace own1 := hown'
      clear hgrow hat b2 hown'
      try simp only [Act.put]
      try simp only [List.setIfInBounds_toArray]
      refine hK _ _ z2 ?_
      clear hK K z2
      refine wpW_branch [7] (by kernel_rfl) (by simp) ?_
      intro w4 hg4 hS4
      replace hBW := Below.trans hBW (Below.mono hg4 hbs)
      replace hbs := Nat.le_trans hbs (Below.size hg4)
      replace own1 := own_below own1 hg4
      replace own2 := own_below own2 hg4
      replace b6 := Blk.gr b6 hg4
      refine each_cons ?_ (each_nil)
      refine wpOp_go (by rfl) (Eq.refl _) (by go_simp; done) ?_
      intro K hK
      refine wp_append_at _ (.tmp 72) (.tmp 74) 46 rfl S 35 j0 _ 2 16 Tryz.underlying46 ji jz0 jz1 jz2 rfl (by decide) _ n ys rfl own2 ⟨g6, 0, none⟩ 1 1 [.int .i64 x, .int .i64 y] rfl rfl ?hc (by simp [Value.oneCell']) (by unfold maxLen; omega) (by omega) hbs ?_
      case hc =>
        intro j u hj
        rw [Addr.add_lit, Nat.zero_add]
        exact (b6.cell j).trans (by simpa using hj)
      intro u13 wb hown' hgrow hat
      have z2 := hS4.grown hgrow hz
      have hz2 : some g15 ≠ u13.ownBlock := by
        rcases hat with h | h
        · rw [h]; exact hz
        · rw [h]; intro e; have := Blk.lt hS4; cases e; omega
      replace own1 := own1.kept hgrow (own_two_ own1 own2 (by decide))
      replace hBW := Below.grown hBW hgrow hbs (fun r e => (own2.lt r e).1)
      replace hbs := Nat.le_trans hbs hgrow.size
      replace own2 := hown'
      clear hgrow hat b6 hown'
      try simp only [Act.put]
      try simp only [List.setIfInBounds_toArray]
      refine hK _ _ z2 ?_
      clear hK K z2
      obtain ⟨g', cap', rfl⟩ := ownsRow_succ own1
      obtain ⟨g'', cap'', rfl⟩ := ownsRow_succ own2
      refine wpW_det (t' := ?ct8R3) 8 (by rfl) (by kernel_rfl) (NQ_free _) (by kernel_rfl) ?cw8R3 ?ch8R3 ?ca8R3 (Eq.refl _) ?cH8R3
      case cw8R3 => (go_simp; done)
      case ch8R3 =>
        intro ds w' hS K hK
        obtain ⟨x0, x1, _⟩ := blk2 hS
        have lx := Blk.lt hS
        go_simp
        try go_bits
        exact hK _ hS (Gr.refl _)
      case ca8R3 => (first | (simp [Act.put]; done) | (simp [Act.put, *]; done))
      try dsimp only
      refine wpW_det (t' := ?ct9R3) 9 (by rfl) (by kernel_rfl) (NQ_free _) (by kernel_rfl) ?cw9R3 ?ch9R3 ?ca9R3 (Eq.refl _) ?cH9R3
      case cw9R3 => (go_simp; done)
      case ch9R3 =>
        intro ds w' hS K hK
        obtain ⟨x0, x1, _⟩ := blk2 hS
        have lx := Blk.lt hS
        go_simp
        try go_bits
        exact hK _ hS (Gr.refl _)
      case ca9R3 => (first | (simp [Act.put]; done) | (simp [Act.put, *]; done))
      try dsimp only
      refine wpW_end (by kernel_rfl) ?_
      intro we hg hS
      unfold NQ
      dsimp only
      exact H.out _ _ _ _ _ _ _ _ _ _ we (own_below own1 hg) (own_below own2 hg) hS hz2 (Below.trans hBW (Below.mono hg hbs))
  · refine wpOp_go (by rfl) (Eq.refl _) (by go_simp; done) ?_
    intro K hK
    go_simp
    try simp only [Act.put]
    have b6 := Blk.new w1 35 #[.int .i64 x, .int .i64 y]
    have hal : Gr w1 (w1.alloc (.cells #[.int .i64 x, .int .i64 y] 35)) := (Below.refl _ _).alloc (Nat.le_refl _) _
    replace hBW := Below.trans hBW (Below.mono hal hbs)
    replace hbs := Nat.le_trans hbs (Below.size hal)
    replace own1 := own_below own1 hal
    replace own2 := own_below own2 hal
    try replace b2 := Blk.gr b2 hal
    have z2 := Blk.gr hS1 hal
    clear hal
    generalize w1.heap.size = g6 at *
    refine hK _ _ z2 ?_
    clear hK K z2
    refine wpW_branch [2] (by kernel_rfl) (by simp) ?_
    intro w2 hg2 hS2
    replace hBW := Below.trans hBW (Below.mono hg2 hbs)
    replace hbs := Nat.le_trans hbs (Below.size hg2)
    replace own1 := own_below own1 hg2
    replace own2 := own_below own2 hg2
    replace b6 := Blk.gr b6 hg2
    refine each_cons ?_ (each_nil)
    refine wpOp_go (by rfl) (Eq.refl _) (by go_simp; done) ?_
    intro K hK
    go_simp
    try simp only [Act.put]
    have b2 := Blk.new w2 3 #[.int .i64 b]
    have hal : Gr w2 (w2.alloc (.cells #[.int .i64 b] 3)) := (Below.refl _ _).alloc (Nat.le_refl _) _
    replace hBW := Below.trans hBW (Below.mono hal hbs)
    replace hbs := Nat.le_trans hbs (Below.size hal)
    replace own1 := own_below own1 hal
    replace own2 := own_below own2 hal
    try replace b6 := Blk.gr b6 hal
    have z2 := Blk.gr hS2 hal
    clear hal
    generalize w2.heap.size = g2 at *
    refine hK _ _ z2 ?_
    clear hK K z2
    refine wpW_branch [3] (by kernel_rfl) (by simp) ?_
    intro w3 hg3 hS3
    replace hBW := Below.trans hBW (Below.mono hg3 hbs)
    replace hbs := Nat.le_trans hbs (Below.size hg3)
    replace own1 := own_below own1 hg3
    replace own2 := own_below own2 hg3
    replace b2 := Blk.gr b2 hg3
    replace b6 := Blk.gr b6 hg3
    refine each_cons ?_ (each_nil)
    refine wpOp_go (by rfl) (Eq.refl _) (by go_simp; done) ?_
    intro K hK
    refine wp_append_at _ (.tmp 68) (.tmp 70) 43 rfl S 3 i0 _ 1 8 Tryz.underlying43 hi iz0 iz1 iz2 rfl (by decide) _ n xs rfl own1 ⟨g2, 0, none⟩ 1 1 [.int .i64 b] rfl rfl ?hc (by simp [Value.oneCell']) (by unfold maxLen; omega) (by omega) hbs ?_
    case hc =>
      intro j u hj
      rw [Addr.add_lit, Nat.zero_add]
      exact (b2.cell j).trans (by simpa using hj)
    intro u12 wa hown' hgrow hat
    have z2 := hS3.grown hgrow (blk_not_row hS3 own1 (by decide))
    try replace b6 := Blk.grown b6 hgrow (blk_not_row b6 own1 (by decide))
    replace own2 := own2.kept hgrow (own_two_ own2 own1 (by decide))
    replace hBW := Below.grown hBW hgrow hbs (fun r e => (own1.lt r e).1)
    replace hbs := Nat.le_trans hbs hgrow.size
    replace own1 := hown'
    clear hgrow hat b2 hown'
    try simp only [Act.put]
    try simp only [List.setIfInBounds_toArray]
    refine hK _ _ z2 ?_
    clear hK K z2
    refine wpW_branch [7] (by kernel_rfl) (by simp) ?_
    intro w4 hg4 hS4
    replace hBW := Below.trans hBW (Below.mono hg4 hbs)
    replace hbs := Nat.le_trans hbs (Below.size hg4)
    replace own1 := own_below own1 hg4
    replace own2 := own_below own2 hg4
    replace b6 := Blk.gr b6 hg4
    refine each_cons ?_ (each_nil)
    refine wpOp_go (by rfl) (Eq.refl _) (by go_simp; done) ?_
    intro K hK
    refine wp_append_at _ (.tmp 72) (.tmp 74) 46 rfl S 35 j0 _ 2 16 Tryz.underlying46 ji jz0 jz1 jz2 rfl (by decide) _ n ys rfl own2 ⟨g6, 0, none⟩ 1 1 [.int .i64 x, .int .i64 y] rfl rfl ?hc (by simp [Value.oneCell']) (by unfold maxLen; omega) (by omega) hbs ?_
    case hc =>
      intro j u hj
      rw [Addr.add_lit, Nat.zero_add]
      exact (b6.cell j).trans (by simpa using hj)
    intro u13 wb hown' hgrow hat
    have z2 := hS4.grown hgrow hz
    have hz2 : some g15 ≠ u13.ownBlock := by
      rcases hat with h | h
      · rw [h]; exact hz
      · rw [h]; intro e; have := Blk.lt hS4; cases e; omega
    replace own1 := own1.kept hgrow (own_two_ own1 own2 (by decide))
    replace hBW := Below.grown hBW hgrow hbs (fun r e => (own2.lt r e).1)
    replace hbs := Nat.le_trans hbs hgrow.size
    replace own2 := hown'
    clear hgrow hat b6 hown'
    try simp only [Act.put]
    try simp only [List.setIfInBounds_toArray]
    refine hK _ _ z2 ?_
    clear hK K z2
    obtain ⟨g', cap', rfl⟩ := ownsRow_succ own1
    obtain ⟨g'', cap'', rfl⟩ := ownsRow_succ own2
    refine wpW_det (t' := ?ct8R4) 8 (by rfl) (by kernel_rfl) (NQ_free _) (by kernel_rfl) ?cw8R4 ?ch8R4 ?ca8R4 (Eq.refl _) ?cH8R4
    case cw8R4 => (go_simp; done)
    case ch8R4 =>
      intro ds w' hS K hK
      obtain ⟨x0, x1, _⟩ := blk2 hS
      have lx := Blk.lt hS
      go_simp
      try go_bits
      exact hK _ hS (Gr.refl _)
    case ca8R4 => (first | (simp [Act.put]; done) | (simp [Act.put, *]; done))
    try dsimp only
    refine wpW_det (t' := ?ct9R4) 9 (by rfl) (by kernel_rfl) (NQ_free _) (by kernel_rfl) ?cw9R4 ?ch9R4 ?ca9R4 (Eq.refl _) ?cH9R4
    case cw9R4 => (go_simp; done)
    case ch9R4 =>
      intro ds w' hS K hK
      obtain ⟨x0, x1, _⟩ := blk2 hS
      have lx := Blk.lt hS
      go_simp
      try go_bits
      exact hK _ hS (Gr.refl _)
    case ca9R4 => (first | (simp [Act.put]; done) | (simp [Act.put, *]; done))
    try dsimp only
    refine wpW_end (by kernel_rfl) ?_
    intro we hg hS
    unfold NQ
    dsimp only
    exact H.out _ _ _ _ _ _ _ _ _ _ we (own_below own1 hg) (own_below own2 hg) hS hz2 (Below.trans hBW (Below.mono hg hbs))
end Go.Proofs.YtlnkgjkjdllckaaGreatDoor

namespace Go.Proofs.YtlnkgjkjdllckaaGreatDoor
open Go.RowKit Go.Lib Go.Shelf

set_option maxRecDepth 100000 in
set_option maxHeartbeats 8000000 in
theorem fwIn {ps : List GP} {A : Option Addr} {c g15 : Nat} {x y : Int} {W : World} (hR : Row W W.heap.size 6 A ps.length (ps.flatMap encP)) (bx : Blk W g15 35 #[.int .i64 x, .int .i64 y]) (hx : NN x) (hy : NN y) (hlen : ps.length ≤ 1000) {t0 t1 t2 t3 t4 t5 t6 t7 t8 t9 t11 t12 t13 t14 t17 t18 t19 t20 t21 t22 t23 t24 t25 t26 t27 t28 t29 t30 t31 t32 t33 t34 t35 t36 t37 t38 t42 t43 t44 t45 t46 t47 t48 t49 t50 t51 t52 t53 t54 t55 t56 t57 t58 t59 t60 t61 t62 t63 t64 t65 t66 t67 t68 t69 t70 t71 t72 t73 t74 t75 t76 t77 t78 t79 t80 t81 t82 t83 t84 t85 t86 t87 t88 t89 t90 t91 t92 t93 t94 t95 t96 : Value} {ds : List Deferred} (Q' : Exit → Act → World → Prop)
    (h : ∀ (t17 t18 t42 t43 t44 t45 t46 t47 t48 t49 t50 t51 t52 t53 t54 t55 t56 t57 t58 t59 t60 t61 t62 t63 t64 t65 t66 t67 : Value) (b : Int) (w' : World), Gr W w' → BestI ps x y ps.length b → Q' (.exit 2) ⟨#[t0, t1, t2, t3, t4, t5, t6, t7, t8, t9, .slice A ps.length c, t11, t12, t13, t14, .pointer (some ⟨g15, 0, none⟩), .int .i64 b, t17, t18, t19, t20, t21, t22, t23, t24, t25, t26, t27, t28, t29, t30, t31, t32, t33, t34, t35, t36, t37, t38, .slice A ps.length c, .int .i64 (ps.length : Int), .int .i64 (ps.length : Int), t42, t43, t44, t45, t46, t47, t48, t49, t50, t51, t52, t53, t54, t55, t56, t57, t58, t59, t60, t61, t62, t63, t64, t65, t66, t67, t68, t69, t70, t71, t72, t73, t74, t75, t76, t77, t78, t79, t80, t81, t82, t83, t84, t85, t86, t87, t88, t89, t90, t91, t92, t93, t94, t95, t96], ds⟩ w') :
    (Code.loop (bodyOf Tryz.f11 1)).wp Tryz.prog Q' ⟨#[t0, t1, t2, t3, t4, t5, t6, t7, t8, t9, .slice A ps.length c, t11, t12, t13, t14, .pointer (some ⟨g15, 0, none⟩), .int .i64 (-1), t17, t18, t19, t20, t21, t22, t23, t24, t25, t26, t27, t28, t29, t30, t31, t32, t33, t34, t35, t36, t37, t38, .slice A ps.length c, .int .i64 (ps.length : Int), .int .i64 0, t42, t43, t44, t45, t46, t47, t48, t49, t50, t51, t52, t53, t54, t55, t56, t57, t58, t59, t60, t61, t62, t63, t64, t65, t66, t67, t68, t69, t70, t71, t72, t73, t74, t75, t76, t77, t78, t79, t80, t81, t82, t83, t84, t85, t86, t87, t88, t89, t90, t91, t92, t93, t94, t95, t96], ds⟩ W := by
  try dsimp only at h ⊢
  have H := Lib.hid h; clear h
  conv in (bodyOf _ _) => whnf
  try dsimp only
  go_loopw [16, 41] (fun s16 s41 wr => ∃ (k : Nat) (b : Int), s41 = .int .i64 k ∧ k ≤ ps.length ∧ s16 = .int .i64 b ∧ Hid (BestI ps x y k b) ∧ Gr W wr) (fun _ s41 _ => ps.length - (RowKit.intOf s41).toNat)
  case atStart => exact ⟨0, -1, rfl, Nat.zero_le _, rfl, Lib.hid BestI.zero, Gr.refl _⟩
  case round =>
    obtain ⟨k, b, rfl, hk, rfl, HB, hG⟩ := hrel
    by_cases hlt : k < ps.length
    · have hRr := (hR.below hG (Nat.le_refl _)).more (Below.size hG)
      obtain ⟨g, o, hA, hg, c0, c1, c2, c3, c4, c5⟩ := gpCells hRr hlt
      have lg : g < wr.heap.size := hg
      have k0 : (0 : Int) ≤ (k : Int) := by omega
      have k1 : (k : Int) < (ps.length : Int) := by omega
      have HQ := Lib.hid (List.getElem?_eq_getElem hlt)
      have hqok := (ps[k]).2.1
      have hal : Gr wr (wr.alloc (.cells #[.int .i64 (ps[k]).1.a, .int .i64 (ps[k]).1.b, .int .i64 (ps[k]).1.c, .int .i64 (ps[k]).1.d, .bool (ps[k]).1.none, .bool (ps[k]).1.up] 89)) := (Below.refl _ _).alloc (Nat.le_refl _) _
      have bq := Blk.new wr 89 #[.int .i64 (ps[k]).1.a, .int .i64 (ps[k]).1.b, .int .i64 (ps[k]).1.c, .int .i64 (ps[k]).1.d, .bool (ps[k]).1.none, .bool (ps[k]).1.up]
      have bx4 := (bx.gr hG).gr hal
      have HG4 := Lib.hid (Gr.trans hG hal)
      rcases (show ((ps[k]).1.has x y = false) ∨ ((ps[k]).1.has x y = true ∧ b = -1) ∨ ((ps[k]).1.has x y = true ∧ ∃ (i : Nat) (p : GP), b = i ∧ i < k ∧ ps[i]? = some p) from by
        cases hh : (ps[k]).1.has x y
        · exact .inl rfl
        · rcases HB.out with ⟨e, _⟩ | ⟨i, p, e, hi, hp, _⟩
          · exact .inr (.inl ⟨rfl, e⟩)
          · exact .inr (.inr ⟨rfl, i, p, e, hi, hp⟩)) with hh | ⟨hh, rfl⟩ | ⟨hh, i, p, rfl, hi, hp⟩
      · have HN : Hid (BestI ps x y (k + 1) b) := Lib.hid (HB.out.skip HQ.out hh)
        subst hA
        go_upto_region 15 with fail
        refine fwNo hqok hx hy bq bx4 hh _ ?_
        intro s46 s47 s48 s49 s50 s51 s52 s53 s54 s55 s56 s57 s58 s59 s60 s61 s62 s63 s64 w5 hG5
        have HG5 := Lib.hid (Gr.trans HG4.out hG5)
        clear bq bx4 hal hG5 c0 c1 c2 c3 c4 c5
        go_wp2
        go_roundw
        case rel => exact ⟨k + 1, b, by go_num, by omega, rfl, HN, HG5.out⟩
        case measure => simp [RowKit.intOf]; omega
      · have HN : Hid (BestI ps x y (k + 1) k) := Lib.hid (HB.out.first HQ.out hh)
        subst hA
        go_upto_region 15 with fail
        refine fwFirst hqok hx hy bq bx4 hh _ ?_
        intro s46 s47 s48 s49 s50 s51 s52 s53 s54 s55 s56 s57 s58 s59 s60 s61 s62 s63 s64 w5 hG5
        have HG5 := Lib.hid (Gr.trans HG4.out hG5)
        clear bq bx4 hal hG5 c0 c1 c2 c3 c4 c5
        go_wp2
        go_roundw
        case rel => exact ⟨k + 1, k, by go_num, by omega, rfl, HN, HG5.out⟩
        case measure => simp [RowKit.intOf]; omega
      · have hil : i < ps.length := by omega
        obtain ⟨g', o', hA', hg', _, _, r2, r3, _, _⟩ := gpCells ((hRr.below hal (Nat.le_refl _)).more (Below.size hal)) hil
        have hpe : ps[i] = p := by rw [List.getElem?_eq_getElem hil] at hp; exact Option.some.inj hp
        rw [hpe] at r2 r3
        rw [hA] at hA'
        simp only [Option.some.injEq, Addr.mk.injEq, and_true] at hA'
        obtain ⟨rfl, rfl⟩ := hA'
        by_cases hgt : p.1.c * (ps[k]).1.d < (ps[k]).1.c * p.1.d
        · have HN : Hid (BestI ps x y (k + 1) k) := Lib.hid (HB.out.turn hp HQ.out hh hgt)
          subst hA
          go_upto_region 15 with fail
          refine fwMore (k := i) hqok hx hy bq bx4 hh (by omega) r2 r3 hg' p.2.1.c p.2.1.d hgt _ ?_
          intro s46 s47 s48 s49 s50 s51 s52 s53 s54 s55 s56 s57 s58 s59 s60 s61 s62 s63 s64 w5 hG5
          have HG5 := Lib.hid (Gr.trans HG4.out hG5)
          clear bq bx4 hal hG5 c0 c1 c2 c3 c4 c5 r2 r3 hgt
          go_wp2
          go_roundw
          case rel => exact ⟨k + 1, k, by go_num, by omega, rfl, HN, HG5.out⟩
          case measure => simp [RowKit.intOf]; omega
        · have HN : Hid (BestI ps x y (k + 1) i) := Lib.hid (HB.out.keep hp HQ.out (by omega))
          subst hA
          go_upto_region 15 with fail
          refine fwLess (k := i) hqok hx hy bq bx4 hh (by omega) r2 r3 hg' p.2.1.c p.2.1.d (Int.not_lt.1 hgt) _ ?_
          intro s46 s47 s48 s49 s50 s51 s52 s53 s54 s55 s56 s57 s58 s59 s60 s61 s62 s63 s64 w5 hG5
          have HG5 := Lib.hid (Gr.trans HG4.out hG5)
          clear bq bx4 hal hG5 c0 c1 c2 c3 c4 c5 r2 r3 hgt
          go_wp2
          go_roundw
          case rel => exact ⟨k + 1, i, by go_num, by omega, rfl, HN, HG5.out⟩
          case measure => simp [RowKit.intOf]; omega
    · obtain rfl : k = ps.length := by omega
      go_wp2
      exact H.out _ _ _ _ _ _ _ _ _ _ _ _ _ _ _ _ _ _ _ _ _ _ _ _ _ _ _ _ _ _ hG HB.out
end Go.Proofs.YtlnkgjkjdllckaaGreatDoor

namespace Go.Proofs.YtlnkgjkjdllckaaGreatDoor
open Go.RowKit Go.Lib Go.Shelf

theorem run_eq_int {d : Nat} (a c : Int) (w : World) : (Op.equalIn (d + 1) 3 (.int .i64 a) (.int .i64 c)).run Tryz.prog w = .ok (decide (a = c)) w := by
  have hu : Tryz.prog.underlying 3 = some (.int .i64) := by kernel_rfl
  simp [Op.equalIn, run_underlying hu]
  rfl
theorem part_int (xs : Array Value) (i : Nat) (a : Value) (h : xs[i]? = some a) (w : World) : (part 3 xs i).run Tryz.prog w = .ok a w := run_part_plain w (by kernel_rfl) h
theorem eq_pt' (d : Nat) (a b c e : Int) (w : World) : (Op.equalIn (d + 2) 35 (.agg #[.int .i64 a, .int .i64 b]) (.agg #[.int .i64 c, .int .i64 e])).run Tryz.prog w = .ok (decide (a = c) && decide (b = e)) w := by
  have hs : (Tryz.prog.stoodInHeld 35) = false := by kernel_rfl
  unfold Op.equalIn
  by_cases h1 : a = c <;> by_cases h2 : b = e <;>
    simp [run_underlying Tryz.underlying35, hs, part_int, run_eq_int, h1, h2]
theorem eq_pt (a b c e : Int) (w : World) : (Op.equalIn 10000 35 (.agg #[.int .i64 a, .int .i64 b]) (.agg #[.int .i64 c, .int .i64 e])).run Tryz.prog w = .ok (decide (a = c) && decide (b = e)) w := eq_pt' 9998 a b c e w
/-- The cells of points. -/
def ptL (l : List (Int × Int)) : List Value := l.flatMap fun p => [.int .i64 p.1, .int .i64 p.2]
theorem ptL_snoc (l : List (Int × Int)) (p : Int × Int) : ptL (l ++ [p]) = ptL l ++ [.int .i64 p.1, .int .i64 p.2] := by simp [ptL, List.flatMap_append]
def lenOf : Value → Nat
  | .slice _ n _ => n
  | _ => 0
theorem lenOf_own {w : World} {base e size n : Nat} {v : Value} {xs : List Value} (h : w.ownsRow base e size v n xs) : lenOf v = n := by
  obtain ⟨A, c, rfl, _⟩ := own_shape h
  rfl

theorem natsC_snoc_ (l : List Nat) (n : Nat) : natsC (l ++ [n]) = natsC l ++ [.int .i64 (n : Int)] := by simp [natsC]
theorem natsC_ints (ns : List Nat) : natsC ns = intsC (ns.map fun (n : Nat) => (n : Int)) := by simp [natsC, intsC]
theorem sortI_any (S : Nat) (v : Value) (zs : List Int) (w : World) (h : w.ownsRow S 3 1 v zs.length (intsC zs)) (hS : S ≤ w.heap.size) (hl : zs.length ≤ 1000) :
    Calls Tryz.prog 33 #[v] w fun e w' => e = .returned (.tuple #[]) ∧ w.grownBy w' v.ownBlock ∧ Below S w w' := by
  rcases h.2 with ⟨rfl, h0⟩ | ⟨g, cap, cur, rfl, hbase, hb, hn1, hn2, hn3, hn4⟩
  · refine (Tryz.slices_Sort_int_none none 0 _).mono ?_
    rintro e w2 ⟨rfl, rfl⟩
    exact ⟨rfl, World.grownBy.refl _ _, Below.refl _ _⟩
  · have hH := holds_of_blockI hb (by simpa [intsC] using hn4)
    have hgl : g < w.heap.size := (Array.getElem?_eq_some_iff.1 hb).1
    refine (Tryz.slices_Sort_int g 0 cap zs w hH hgl (by omega)).mono ?_
    rintro e w2 ⟨rfl, nn, os, hw⟩
    have g2 := grownBy_sortedI (w := w) (g := g) (n := nn) (os := os) (sortV zs).toArray
    unfold sortV at g2
    rw [← hw] at g2
    exact ⟨rfl, g2, (Below.refl S w).grown g2 hS (fun k e => by cases e; exact hbase)⟩
set_option maxRecDepth 100000 in
set_option maxHeartbeats 8000000 in
theorem fewest_any (j : Jo) (k : Nat) (l : List (ByteArray × Su)) (ps : List GP) (A : Option Addr) (c B : Nat) (A' : Option Addr) (c' : Nat) (w : World) (hj : JoOk j A c B w) (hl : SuOk l A' c' B w) (hE : Ends w) (h0 : openFaceE j k = 0) (h1 : setupsE l = 0) (hps : ps.map Subtype.val = partsV j k l) (hcov : Cov ps (List.range ps.length)) :
    Calls Tryz.prog 11 #[.agg (joC j A c), .int .i64 (k : Int), .slice A' l.length c'] w fun e w' => ∃ (v : Value) (L : List ((Int × Int) × Nat)) (A7 : Option Addr) (c7 : Nat), e = .returned (.tuple #[v, .slice A7 L.length c7, .int .i64 0]) ∧ FwI ps L ∧ w'.ownsRow w.heap.size 35 2 (.slice A7 L.length c7) L.length (ptL (L.map (·.1))) ∧ Below w.heap.size w w' := by
  have hpl : ps.length = l.length := by have := congrArg List.length hps; simpa [partsV] using this
  have hgd := good_all h0 h1 hps
  have hlw := low_all h0 h1 hps
  have hll := (setupsE_zero h1).1
  have HPL := Lib.hid hpl
  have hpn : ps.length ≤ 12 := by omega
  have HCV := Lib.hid hcov
  have HGD := Lib.hid (And.intro hgd hlw)
  have HMT : Hid (∀ n m : Int, Pt n m → metAny ps n m = true) := Lib.hid (fun n m hp => by
    obtain ⟨i, _, p, hp, hh⟩ := hcov n m hp
    exact List.any_eq_true.2 ⟨p, List.mem_of_getElem? hp, hh⟩)
  have hfs : faceSetupsE j k l = 0 := by unfold faceSetupsE; rw [if_pos h0]; exact h1
  have HJ := Lib.hid (fun W (h : Below w.heap.size w W) => JoOk.below hj h hj.base)
  have HL := Lib.hid (fun W (h : Below w.heap.size w W) => SuOk.below hl h hl.base)
  have HE : Hid (∀ W, Below w.heap.size w W → Ends W) := Lib.hid fun W h => hE.below h
  have HFO := Lib.hid (fun W (h : Below w.heap.size w W) => faceOf_any j k l A c B A' c' W (JoOk.below hj h hj.base) (SuOk.below hl h hl.base) (hE.below h) h0 h1)
  have HPS := Lib.hid hps
  have HFS := Lib.hid hfs
  have hB0 := hj.base
  clear hj hl hE h0 h1 hps hcov hgd hlw hfs hpl
  have b := Blk.new w 24 (joC j A c)
  have hBB : Below w.heap.size w (w.alloc (.cells (joC j A c) 24)) := (Below.refl _ _).alloc (Nat.le_refl _) _
  unfold joC at *
  go_enter Tryz.func11, Tryz.ntmps11
  have l_b := b.lt
  obtain ⟨t0, t1, t2, t3⟩ := jo_cells b
  go_wp2_with fail
  refine (openFaceSetups_any j k l A c B A' c' _ (HJ.out _ hBB) (HL.out _ hBB)).mono ?_
  rw [HFS.out]
  rintro e wc1 ⟨rfl, hBc1⟩
  replace b := b.gr hBc1
  replace hBB := hBB.trans (Below.mono hBc1 (Below.size hBB))
  clear hBc1
  clear l_b t0 t1 t2 t3
  have l_b := b.lt
  obtain ⟨t0, t1, t2, t3⟩ := jo_cells b
  go_wp2_with fail
  refine (HFO.out _ hBB).mono ?_
  rintro e wc2 ⟨v, rfl, own, hBc2⟩
  replace b := b.gr hBc2
  rw [← HPS.out, ptsC_flat, ← HPL.out] at own
  replace own := own.mono (base' := w.heap.size) (Below.size hBB)
  replace hBB := hBB.trans (Below.mono hBc2 (Below.size hBB))
  clear hBc2
  clear l_b t0 t1 t2 t3
  have l_b := b.lt
  obtain ⟨t0, t1, t2, t3⟩ := jo_cells b
  obtain ⟨A10, c10, rfl, hR⟩ := Row.own own
  clear own
  go_wp2_with fail
  refine (all_any l.length A' c' _ (by omega)).mono ?_
  rintro e wc3 ⟨v3, rfl, own3, hBc3⟩
  replace b := b.gr hBc3
  replace hR := (hR.below hBc3 (Nat.le_refl _)).more (Below.size hBc3)
  replace hBB := hBB.trans (Below.mono hBc3 (Below.size hBB))
  clear hBc3
  clear l_b t0 t1 t2 t3
  have l_b := b.lt
  obtain ⟨t0, t1, t2, t3⟩ := jo_cells b
  rw [natsC_upTo] at own3
  obtain ⟨A3, cap3, rfl, hr3⟩ := Row.own own3
  have hg := Lib.hid (gap_any ps (List.range l.length) A10 c10 A3 cap3 wc3 (by omega) (by simp; omega) (by intro n hn; rw [HPL.out]; exact List.mem_range.1 hn) hR (by simpa using hr3) (HE.out _ hBB))
  rw [List.length_range] at hg
  clear own3 hr3
  go_wp2_with fail
  refine (hg.out).mono ?_
  rintro e wc4 ⟨l', hp, hs, rfl, hBc4⟩
  replace b := b.gr hBc4
  replace hR := (hR.below hBc4 (Nat.le_refl _)).more (Below.size hBc4)
  replace hBB := hBB.trans (Below.mono hBc4 (Below.size hBB))
  clear hBc4
  clear l_b t0 t1 t2 t3
  have l_b := b.lt
  obtain ⟨t0, t1, t2, t3⟩ := jo_cells b
  obtain ⟨⟨⟨ra, rb, rc, rd⟩, rz⟩, HR⟩ : ∃ r, Hid (r = gapL (0, 1) l') := ⟨_, Lib.hid rfl⟩
  rw [← HR.out]
  have hrz : rz = false := by
    cases rz
    · rfl
    · exact absurd HCV.out (gapN_some (r := (ra, rb, rc, rd)) HGD.out.1 HGD.out.2 ⟨l', by rw [HPL.out]; exact hp, hs, HR.out⟩)
  subst hrz
  unfold gapC
  clear hg hp hs HR HFO HJ HL HFS HPS
  clear l_b t0 t1 t2 t3
  have hB5 := (hBB.alloc (Below.size hBB) (.cells #[.int .i64 ra, .int .i64 rb, .int .i64 rc, .int .i64 rd] 37 (0, 0)))
  obtain ⟨eb0, eb1, ee0, ee1⟩ := HE.out _ hB5
  go_wp2_with fail
  clear eb0 eb1 ee0 ee1 b
  have hal : Gr wc4 ((wc4.alloc (.cells #[.int .i64 ra, .int .i64 rb, .int .i64 rc, .int .i64 rd] 37)).alloc (.cells #[.int .i64 0, .int .i64 1] 35)) := ((Below.refl _ _).alloc (Nat.le_refl _) _).alloc (by simp) _
  have bx := Blk.new' (wc4.alloc (.cells #[.int .i64 ra, .int .i64 rb, .int .i64 rc, .int .i64 rd] 37)) 35 #[.int .i64 0, .int .i64 1] (g := wc4.heap.size + 1) (by simp)
  have hB6 := hBB.trans (Below.mono hal (Below.size hBB))
  have hR6 := (hR.below hal (Nat.le_refl _)).more (show wc4.heap.size ≤ wc4.heap.size + 1 by omega)
  have hz0 : ((wc4.alloc (.cells #[.int .i64 ra, .int .i64 rb, .int .i64 rc, .int .i64 rd] 37)).alloc (.cells #[.int .i64 0, .int .i64 1] 35)).heap.size = wc4.heap.size + 1 + 1 := by simp
  have hg15 : w.heap.size ≤ wc4.heap.size + 1 := by have := Below.size hBB; omega
  generalize (wc4.alloc (.cells #[.int .i64 ra, .int .i64 rb, .int .i64 rc, .int .i64 rd] 37)).alloc (.cells #[.int .i64 0, .int .i64 1] 35) = W0 at *
  generalize wc4.heap.size + 1 = g15 at *
  generalize wc4.heap.size = g11 at *
  clear hal hR hBB hB5
  go_loopw [13, 14, 15] (fun s13 s14 s15 wr => ∃ (L : List ((Int × Int) × Nat)) (g : Nat) (x y : Int), s15 = .pointer (some ⟨g, 0, none⟩) ∧ Hid (FwI ps L ∧ (∀ z ∈ L, Ends_ ps z.2 (x, y)) ∧ Pt x y) ∧ wr.ownsRow g15 3 1 s13 L.length (natsC (L.map (·.2))) ∧ wr.ownsRow g15 35 2 s14 L.length (ptL (L.map (·.1))) ∧ Blk wr g 35 #[.int .i64 x, .int .i64 y] ∧ some g ≠ s14.ownBlock ∧ g15 ≤ g ∧ g15 ≤ wr.heap.size ∧ Below g15 W0 wr) (fun s13 _ _ _ => ps.length + 1 - lenOf s13)
  case atStart => exact ⟨[], g15, 0, 1, rfl, Lib.hid ⟨FwI.nil, (fun z h => by cases h), by unfold Pt; simp⟩, World.ownsRow_nil _ _ _ _, World.ownsRow_nil _ _ _ _, bx, by simp [Value.ownBlock], Nat.le_refl _, by omega, Below.refl _ _⟩
  case round =>
    clear bx
    obtain ⟨L, gx, x, y, rfl, HI, own1, own2, bx, hgx, hwx, hzr, hG⟩ := hrel
    have HBr := Lib.hid (hB6.trans (Below.mono hG hg15))
    have hRr := (hR6.below hG (Nat.le_refl _)).more hzr
    have hP := HI.out.2.2
    have hPn : NN x ∧ NN y := by obtain ⟨p1, p2, p3, p4, _⟩ := hP; exact ⟨⟨p1, by omega⟩, ⟨by omega, by omega⟩⟩
    have hLn : L.length ≤ 12 := by have := HI.out.1.len; omega
    have H1 := Lib.hid own1; have H2 := Lib.hid own2; have HBX := Lib.hid bx; have HGX := Lib.hid hgx; have HRR := Lib.hid hRr; have HPN := Lib.hid hPn; have HWX := Lib.hid hwx; have HGG := Lib.hid hG
    clear own1 own2 bx hgx hRr hPn hP hwx hG
    go_wp2_with fail
    have hl := fwIn (c := c10) HRR.out HBX.out HPN.out.1 HPN.out.2
    unfold bodyOf at hl
    conv at hl in (Option.getD _ Code.skip) => whnf
    refine hl (by omega) _ ?_
    clear hl
    intro r17 r18 r42 r43 r44 r45 r46 r47 r48 r49 r50 r51 r52 r53 r54 r55 r56 r57 r58 r59 r60 r61 r62 r63 r64 r65 r66 r67 bi w5 hG5 hbest
    obtain ⟨i, p, rfl, hpi, hBst⟩ := hbest.done HI.out.2.2 (HMT.out _ _ HI.out.2.2)
    have HBST := Lib.hid (And.intro hpi hBst)
    have HB5 := Lib.hid (HBr.out.trans (Below.mono hG5 (Below.size HBr.out)))
    have HX5 := Lib.hid (And.intro (own_below H1.out hG5) (And.intro (own_below H2.out hG5) (HBX.out.gr hG5)))
    have HG5 := Lib.hid hG5
    clear hbest hpi hBst hG5
    go_upto_region 18 with fail
    refine fwReg18 (b := (i : Int)) HX5.out.1 HX5.out.2.1 HX5.out.2.2 HGX.out (Nat.le_trans hzr (Below.size HG5.out)) (by omega) _ ?_
    intro s68 s69 s70 s71 s72 s73 s74 s75 v13 v14 w6 own1 own2 bx hnx hB6
    have HF : Hid (FwI ps (L ++ [((x, y), i)])) := Lib.hid (HI.out.1.snoc HBST.out.2 HI.out.2.1)
    have hG6 : Below g15 W0 w6 := (HGG.out.trans (Below.mono HG5.out hzr)).trans hB6
    have hz6 : g15 ≤ w6.heap.size := Nat.le_trans (Nat.le_trans hzr (Below.size HG5.out)) (Below.size hB6)
    have hBB6 : Hid (Below w.heap.size w w6) := Lib.hid (HB5.out.trans (Below.mono hB6 hg15))
    have hil : i < ps.length := (List.getElem?_eq_some_iff.1 HBST.out.1).1
    obtain ⟨g, o, hA, hg, c0, c1, c2, c3, c4, c5⟩ := gpCells (hR6.below hG6 (Nat.le_refl _)) hil
    have hpe : ps[i] = p := by have := HBST.out.1; rw [List.getElem?_eq_getElem hil] at this; exact Option.some.inj this
    rw [hpe] at c2 c3
    obtain ⟨eb0, eb1, ee0, ee1⟩ := HE.out _ hBB6.out
    have lg : g < w6.heap.size := by omega
    have k0 : (0 : Int) ≤ (i : Int) := by omega
    have k1 : (i : Int) < (ps.length : Int) := by omega
    have le1 := World.block_lt_of_cell? _ _ ee0
    simp only at le1
    subst hA
    clear c0 c1 c4 c5 eb0 eb1 hpe
    have H61 := Lib.hid own1; have H62 := Lib.hid own2; have H6x := Lib.hid bx; have H6G := Lib.hid hG6
    clear own1 own2 bx hB6 hG6
    have hpm : p ∈ ps := List.mem_of_getElem? HBST.out.1
    have hpn0 : p.1.none = false := by
      obtain ⟨_, b', e, hh, _⟩ := HBST.out.2
      have e2 : some p = some b' := HBST.out.1.symm.trans e
      cases e2
      exact (has_bet.1 hh).1
    have hPE := (HGD.out.1 p hpm hpn0).2.1
    have hLE := (HGD.out.2 p hpm).2
    have hEND : Hid (∀ n m : Int, p.1.c * m < n * p.1.d → Ends_ ps i (n, m)) := Lib.hid (fun n m h => ⟨p, HBST.out.1, h⟩)
    generalize p.1.c = ce at *
    generalize p.1.d = de at *
    try dsimp only
    by_cases hend : ce = 1 ∧ de = 1
    · obtain ⟨rfl, rfl⟩ := hend
      go_wp2_with fail
      go_quiet (fail)
      have hQB : Below w6.heap.size w6 (w6.drewN nq) := below_drewN' (Below.refl w6.heap.size w6) nq
      have o1 := own_below H61.out hQB
      have o2 := own_below H62.out hQB
      have hBq := hBB6.out.trans (Below.mono hQB (Below.size hBB6.out))
      rw [← natsC_snoc_, natsC_ints] at o1
      generalize w6.drewN nq = w7 at *
      obtain ⟨zs, hzs⟩ : ∃ zs, (List.map (fun x => x.2) L ++ [i]).map (fun (n : Nat) => (n : Int)) = zs := ⟨_, rfl⟩
      have hzl : zs.length = L.length + 1 := by rw [← hzs]; simp
      rw [hzs] at o1
      have HZL := Lib.hid hzl
      clear hzs hzl
      clear c2 c3 lg le1 ee0 ee1 hPE hLE hpn0 hg
      go_wp2_with fail
      refine (sortI_any g15 v13 zs w7 (by rw [HZL.out]; exact o1) (by have := hQB.size; omega) (by have := HZL.out; omega)).mono ?_
      rintro e w8 ⟨rfl, hg8, hB8⟩
      have o3 := o2.kept hg8 (own_two_ o2 o1 (by decide))
      have hB9 := hBq.trans (Below.mono hB8 hg15)
      obtain ⟨A7, c7, rfl, _, _⟩ := own_shape o3
      go_wp2
      refine bodyPost_ret (v := .tuple #[v13, .slice A7 (L.length + 1) c7, .int .i64 0]) (by simp [results, Tryz.results11, go_sem]) rfl ⟨v13, L ++ [((x, y), i)], A7, c7, by simp, HF.out, ?_, hB9⟩
      rw [List.map_append, List.map_cons, List.map_nil, ptL_snoc, List.length_append]
      exact o3.mono hg15
    · have hlt := end_lt hPE hend
      have hpe0 := hPE.1
      have heq : ∀ W, (Op.equalIn 10000 35 (.agg #[.int .i64 ce, .int .i64 de]) (.agg #[.int .i64 1, .int .i64 1])).run Tryz.prog W = .ok false W := fun W => by
        rw [eq_pt]
        have : (decide (ce = 1) && decide (de = 1)) = false := by
          rw [Bool.and_eq_false_iff]
          by_cases e : ce = 1
          · exact .inr (decide_eq_false (fun h => hend ⟨e, h⟩))
          · exact .inl (decide_eq_false e)
        rw [this]
      have hde := hLE.2
      clear hend hPE
      go_wp2_with fail
      go_quiet (fail)
      have hQB : Below w6.heap.size w6 (w6.drewN nq) := below_drewN' (Below.refl w6.heap.size w6) nq
      have o1 := own_below H61.out hQB
      have o2 := own_below H62.out hQB
      have bxq := H6x.out.gr hQB
      have hBq := hBB6.out.trans (Below.mono hQB (Below.size hBB6.out))
      have hGq := H6G.out.trans (Below.mono hQB hz6)
      have hzq := Nat.le_trans hz6 (Below.size hQB)
      have k2 := (hQB.cell (p := ⟨g, o + i * 6 + 2, none⟩) lg).trans c2
      have k3 := (hQB.cell (p := ⟨g, o + i * 6 + 3, none⟩) lg).trans c3
      have hRq := (hR6.below hGq (Nat.le_refl _)).more hzq
      generalize w6.drewN nq = w7 at *
      clear c2 c3 lg le1 ee0 ee1 hLE hpn0 hQB heq
      have lg : g < w7.heap.size := by omega
      go_wp2_with fail
      refine (behind_any ps ce de (some ⟨g, o, none⟩) c10 w7 (by omega) hRq (HE.out _ hBq) HGD.out.1 HGD.out.2 hpe0 hlt hde).mono ?_
      rintro e w8 ⟨n, m, rfl, hPt, hnm, hB8⟩
      have o18 := own_below o1 hB8
      have o28 := own_below o2 hB8
      have bx8 := bxq.gr hB8
      have hG8 := hGq.trans (Below.mono hB8 hzq)
      have hz8 := Nat.le_trans hzq (Below.size hB8)
      obtain ⟨x0, x1, xf⟩ := blk2 bx8
      have lx := bx8.lt
      have HEN := Lib.hid (hEND.out n m hnm)
      have HPT := Lib.hid hPt
      have q1 : v13.ownBlock ≠ some gx := fun e => blk_not_row bx8 o18 (by decide) e.symm
      have q2 : v14.ownBlock ≠ some gx := fun e => hnx e.symm
      have HX9 : Hid (((w8.setCell ⟨gx, 0, none⟩ (.int .i64 n)).setCell ⟨gx, 1, none⟩ (.int .i64 m)).ownsRow g15 3 1 v13 (L.length + 1) (natsC (List.map (fun x => x.2) L) ++ [.int .i64 (i : Int)]) ∧
        ((w8.setCell ⟨gx, 0, none⟩ (.int .i64 n)).setCell ⟨gx, 1, none⟩ (.int .i64 m)).ownsRow g15 35 2 v14 (L.length + 1) (ptL (List.map (fun x => x.1) L) ++ [.int .i64 x, .int .i64 y]) ∧
        Below g15 W0 ((w8.setCell ⟨gx, 0, none⟩ (.int .i64 n)).setCell ⟨gx, 1, none⟩ (.int .i64 m)) ∧ Blk ((w8.setCell ⟨gx, 0, none⟩ (.int .i64 n)).setCell ⟨gx, 1, none⟩ (.int .i64 m)) gx 35 #[.int .i64 n, .int .i64 m]) := Lib.hid
        ⟨ownsRow_setCell_other (a := ⟨gx, 1, none⟩) (ownsRow_setCell_other (a := ⟨gx, 0, none⟩) o18 q1 _) q1 _, ownsRow_setCell_other (a := ⟨gx, 1, none⟩) (ownsRow_setCell_other (a := ⟨gx, 0, none⟩) o28 q2 _) q2 _,
          (hG8.setCell (p := ⟨gx, 0, none⟩) HWX.out _).setCell (p := ⟨gx, 1, none⟩) HWX.out _, (bx8.set_ 0 _).set_ 1 _⟩
      have HZ8 := Lib.hid hz8
      have HNX := Lib.hid hnx
      clear k2 k3 hRq lg hBq hB8 o1 o2 bxq hnm hPt hGq q1 q2 hG8 o18 o28 hnx
      go_wp2_with fail
      obtain ⟨o19, o29, hG9, b9⟩ := HX9.out
      have hs9 : ((w8.setCell ⟨gx, 0, none⟩ (.int .i64 n)).setCell ⟨gx, 1, none⟩ (.int .i64 m)).heap.size = w8.heap.size := by simp
      have hz8 := HZ8.out
      have hlen1 := lenOf_own o19
      have hlen2 := lenOf_own H1.out
      refine ⟨⟨L ++ [((x, y), i)], w8.heap.size, n, m, rfl, Lib.hid ⟨HF.out, FwI.step HBST.out.2 HI.out.2.1 HPT.out.2.2.1 HEN.out, HPT.out⟩, ?_, ?_, ?_, ?_, hz8, ?_, hG9.alloc (by rw [hs9]; exact hz8) _⟩, ?_⟩
      · rw [List.map_append, List.map_cons, List.map_nil, natsC_snoc_, List.length_append]
        exact o19.alloc _
      · rw [List.map_append, List.map_cons, List.map_nil, ptL_snoc, List.length_append]
        exact o29.alloc _
      · have := Blk.new ((w8.setCell ⟨gx, 0, none⟩ (.int .i64 n)).setCell ⟨gx, 1, none⟩ (.int .i64 m)) 35 #[.int .i64 n, .int .i64 m]
        rw [hs9] at this
        exact this
      · intro e
        have := (o29.lt _ e.symm).2
        omega
      · rw [World.size_alloc, hs9]; omega
      · rw [hlen1, hlen2]
        have := HI.out.1.len
        omega
end Go.Proofs.YtlnkgjkjdllckaaGreatDoor

namespace Go.Proofs.YtlnkgjkjdllckaaGreatDoor
open Go.RowKit Go.Lib Go.Shelf

/-- How many of the points a part has. -/
def cntP (q : GP) (l : List (Int × Int)) : Nat := (l.filter fun x => q.1.has x.1 x.2).length
theorem cntP_snoc (q : GP) (l : List (Int × Int)) (k : Nat) (h : k < l.length) : cntP q (l.take (k + 1)) = cntP q (l.take k) + if q.1.has l[k].1 l[k].2 = true then 1 else 0 := by
  unfold cntP
  rw [List.take_succ_eq_append_getElem h, List.filter_append, List.length_append]
  congr 1
  by_cases hh : q.1.has l[k].1 l[k].2 = true
  · simp [hh]
  · simp [hh]
theorem cntP_one {ps : List GP} {pts : List (Int × Int)} (ha : Apart ps pts) {q : GP} (hq : q ∈ ps) : cntP q pts ≤ 1 := by
  have h1 : (pts.filter fun x => q.1.has x.1 x.2).Pairwise fun x y => ¬ (q.1.has x.1 x.2 = true ∧ q.1.has y.1 y.2 = true) :=
    (List.Pairwise.filter _ ha).imp fun h => h q hq
  unfold cntP
  match hl : (pts.filter fun x => q.1.has x.1 x.2) with
  | [] => rw [hl]; simp
  | [_] => rw [hl]; simp
  | x :: y :: t =>
    exfalso
    have hx : x ∈ pts.filter fun x => q.1.has x.1 x.2 := by rw [hl]; simp
    have hy : y ∈ pts.filter fun x => q.1.has x.1 x.2 := by rw [hl]; simp
    rw [hl, List.pairwise_cons] at h1
    exact h1.1 y (by simp) ⟨(List.mem_filter.1 hx).2, (List.mem_filter.1 hy).2⟩
theorem ptL_get (l : List (Int × Int)) : ∀ (k : Nat) (p : Int × Int), l[k]? = some p → (ptL l)[k * 2]? = some (.int .i64 p.1) ∧ (ptL l)[k * 2 + 1]? = some (.int .i64 p.2) := by
  induction l with
  | nil => intro k p h; simp at h
  | cons a l ih =>
    intro k p h
    cases k with
    | zero => simp at h; subst h; exact ⟨rfl, rfl⟩
    | succ k =>
      have := ih k p (by simpa using h)
      rw [show (k + 1) * 2 = k * 2 + 1 + 1 by omega]
      exact this
theorem ptL_cells {w : World} {l : List (Int × Int)} {A : Option Addr} {B : Nat} (h : Row w B 2 A l.length (ptL l)) {k : Nat} (hk : k < l.length) :
    ∃ g o, A = some ⟨g, o, none⟩ ∧ g < B ∧ w.cell? ⟨g, o + k * 2, none⟩ = some (.int .i64 l[k].1) ∧ w.cell? ⟨g, o + k * 2 + 1, none⟩ = some (.int .i64 l[k].2) := by
  obtain ⟨g, o, e, hg, hc⟩ := h.2 (by omega)
  have hr := ptL_get l k l[k] (List.getElem?_eq_getElem hk)
  exact ⟨g, o, e, hg, hc _ _ hr.1, by rw [Nat.add_assoc]; exact hc _ _ hr.2⟩

set_option maxRecDepth 100000 in
set_option maxHeartbeats 8000000 in
theorem checkApart_any (j : Jo) (k : Nat) (l : List (ByteArray × Su)) (ps : List GP) (A : Option Addr) (c B : Nat) (A' : Option Addr) (c' : Nat) (pts : List (Int × Int)) (A2 : Option Addr) (c2 B2 : Nat) (w : World) (hj : JoOk j A c B w) (hl : SuOk l A' c' B w) (hE : Ends w) (h0 : openFaceE j k = 0) (h1 : setupsE l = 0) (hps : ps.map Subtype.val = partsV j k l) (hR2 : Row w B2 2 A2 pts.length (ptL pts)) (hB2 : B2 ≤ w.heap.size) (hp : ∀ x ∈ pts, Pt x.1 x.2) (hrise : pts.Pairwise fun x y => x.1 * y.2 < y.1 * x.2) (hap : Apart ps pts) (hlen : pts.length ≤ 12) :
    Calls Tryz.prog 12 #[.agg (joC j A c), .agg #[.int .i64 (k : Int), .slice A' l.length c'], .slice A2 pts.length c2] w fun e w' => e = .returned (.tuple #[.int .i64 (pts.length : Int), .int .i64 0]) ∧ Below w.heap.size w w' := by
  have hpl : ps.length = l.length := by have := congrArg List.length hps; simpa [partsV] using this
  have hll := (setupsE_zero h1).1
  have hfs : faceSetupsE j k l = 0 := by unfold faceSetupsE; rw [if_pos h0]; exact h1
  have HPL := Lib.hid hpl
  have hpn : ps.length ≤ 12 := by omega
  have HP := Lib.hid hp
  have HRS := Lib.hid hrise
  have HAP := Lib.hid hap
  have HJ := Lib.hid (fun W (h : Below w.heap.size w W) => JoOk.below hj h hj.base)
  have HL := Lib.hid (fun W (h : Below w.heap.size w W) => SuOk.below hl h hl.base)
  have HFO := Lib.hid (fun W (h : Below w.heap.size w W) => faceOf_any j k l A c B A' c' W (JoOk.below hj h hj.base) (SuOk.below hl h hl.base) (hE.below h) h0 h1)
  have HR2 := Lib.hid (fun W (h : Below w.heap.size w W) => hR2.below h hB2)
  have HPS := Lib.hid hps
  have HFS := Lib.hid hfs
  clear hj hl hE h0 h1 hps hfs hpl hR2 hp hrise hap
  have b := (Blk.new w 24 (joC j A c)).alloc (.cells #[.int .i64 (k : Int), .slice A' l.length c'] 52)
  have b4 := Blk.new' (w.alloc (.cells (joC j A c) 24)) 52 #[.int .i64 (k : Int), .slice A' l.length c'] (g := w.heap.size + 1) (by simp)
  have hBB : Below w.heap.size w ((w.alloc (.cells (joC j A c) 24)).alloc (.cells #[.int .i64 (k : Int), .slice A' l.length c'] 52)) := ((Below.refl _ _).alloc (Nat.le_refl _) _).alloc (by simp) _
  unfold joC at *
  go_enter Tryz.func12, Tryz.ntmps12
  have l_b := b.lt
  obtain ⟨t0, t1, t2, t3⟩ := jo_cells b
  have l_b4 := b4.lt
  obtain ⟨u0, u1, _⟩ := blk2 b4
  go_wp2_with fail
  refine (openFaceSetups_any j k l A c B A' c' _ (HJ.out _ hBB) (HL.out _ hBB)).mono ?_
  rw [HFS.out]
  rintro e wc1 ⟨rfl, hBc1⟩
  replace b := b.gr hBc1
  replace b4 := b4.gr hBc1
  replace hBB := hBB.trans (Below.mono hBc1 (Below.size hBB))
  clear hBc1
  clear l_b t0 t1 t2 t3 l_b4 u0 u1
  have l_b := b.lt
  have l_b4 := b4.lt
  obtain ⟨t0, t1, t2, t3⟩ := jo_cells b
  obtain ⟨u0, u1, _⟩ := blk2 b4
  have HX := Lib.hid (And.intro b (And.intro b4 hBB))
  clear l_b t0 t1 t2 t3 l_b4 u0 u1
  clear b b4
  go_wp2_with fail
  go_loopw [31] (fun s31 wr => ∃ i : Nat, i ≤ pts.length ∧ s31 = .int .i64 i ∧ Gr wc1 wr) (fun s31 _ => pts.length - (RowKit.intOf s31).toNat)
  case atStart => exact ⟨0, Nat.zero_le _, rfl, Gr.refl _⟩
  case round =>
    obtain ⟨i, hi, rfl, hG⟩ := hrel
    by_cases hlt : i < pts.length
    · obtain ⟨g, o, hA, hg, r0, r1⟩ := ptL_cells (HR2.out wr (HX.out.2.2.trans (Below.mono hG (Below.size HX.out.2.2)))) hlt
      have hsz := Below.size hG
      have hszw := Below.size HX.out.2.2
      have lg : g < wr.heap.size := by omega
      have k0 : (0 : Int) ≤ (i : Int) := by omega
      have k1 : (i : Int) < (pts.length : Int) := by omega
      have hPt := HP.out _ (List.getElem_mem hlt)
      have HG := Lib.hid hG
      have hpe := hPt.err
      have HLT := Lib.hid (fun m (hm : m < i) => (List.pairwise_iff_getElem.1 HRS.out) m i (by omega) hlt hm)
      have HRR := Lib.hid (fun m (hm : m < i) => ptL_cells (HR2.out wr (HX.out.2.2.trans (Below.mono HG.out (Below.size HX.out.2.2)))) (show m < pts.length by omega))
      obtain ⟨p1, p2, p3, p4, _⟩ := hPt
      generalize (pts[i]).1 = qx at *
      generalize (pts[i]).2 = qy at *
      subst hA
      have hal : Gr wr (wr.alloc (.cells #[.int .i64 qx, .int .i64 qy] 35)) := (Below.refl _ _).alloc (Nat.le_refl _) _
      have bq := Blk.new wr 35 #[.int .i64 qx, .int .i64 qy]
      go_wp2_with fail
      refine (pointErr_any qx qy (by omega) (by omega) _).mono ?_
      rintro e w3 ⟨rfl, hB3⟩
      rw [hpe]
      have bq3 := bq.gr hB3
      have hG3 := Gr.trans hal hB3
      have HG3 := Lib.hid (Gr.trans HG.out hG3)
      obtain ⟨q0, q1, _⟩ := blk2 bq3
      have lq := bq3.lt
      have lg3 : g < w3.heap.size := Nat.lt_of_lt_of_le lg (Below.size hG3)
      clear bq bq3 hal hB3
      by_cases hpos : 0 < i
      · obtain ⟨m, rfl⟩ : ∃ m, i = m + 1 := ⟨i - 1, by omega⟩
        obtain ⟨g', o', hA', _, s0, s1⟩ := HRR.out m (by omega)
        simp only [Option.some.injEq, Addr.mk.injEq, and_true] at hA'
        obtain ⟨rfl, rfl⟩ := hA'
        have hlt2 := HLT.out m (by omega)
        have hpm := HP.out pts[m] (List.getElem_mem _)
        obtain ⟨m1, m2, m3, m4, _⟩ := hpm
        have z0 := (hG3.cell (p := ⟨g, o + m * 2, none⟩) lg).trans s0
        have z1 := (hG3.cell (p := ⟨g, o + m * 2 + 1, none⟩) lg).trans s1
        generalize (pts[m]'(by omega)).1 = rx at *
        generalize (pts[m]'(by omega)).2 = ry at *
        have hcm := Lib.hid (cmpI_neg1 hlt2)
        have j0 : (0 : Int) ≤ (m : Int) := by omega
        have j1 : (m : Int) < (pts.length : Int) := by omega
        clear hlt2 s0 s1 r0 r1 lg hsz hszw hG3
        go_wp2_with fail
        refine wp_region_b 12 (by kernel_rfl) (by kernel_rfl) ?_; simp only [List.take, List.drop]
        repeat (first
          | (apply StepsD.run
             · go_simp
               done
             · intro w' hS K hK
               have hc := (bcell hS).1
               have hf := (bcell hS).2
               have hz := hS.size
               try simp at hz
               go_simp
               try go_bits
               first
                 | exact hK _ hS
                 | (go_at_call 32; refine (compare_any rx ry qx qy (by omega) (by omega) (by omega) (by omega) _).mono ?_; rw [hcm.out]; rintro e w1 ⟨rfl, hB1⟩; obtain ⟨hc1, hf1⟩ := bcell hB1; have hz1 := hB1.size; (try simp at hz1); exact hK _ (Below.trans hS (Below.mono hB1 (by first | exact Nat.le_refl _ | (simp; done) | (simp; omega) | omega))))
                 | exact hK _ (by repeat (first | (with_reducible exact Below.refl _ _) | (with_reducible assumption) | ((with_reducible refine Below.setCell ?_ ?_ _); rotate_left; · (first | exact Nat.le_refl _ | (simp; done) | (simp; omega) | omega)) | ((with_reducible refine Below.alloc ?_ ?_ _); rotate_left; · (first | exact Nat.le_refl _ | (simp; done) | (simp; omega) | omega)) | (with_reducible apply Below.drew) | (with_reducible apply below_drewN') | (refine Below.trans ?_ (Below.mono (by assumption) (by first | exact Nat.le_refl _ | (simp; done) | (simp; omega) | omega))) | exact Below.refl _ _ | assumption))
             · simp [Act.put]
               done)
          | (apply StepsD.pass
             · first | (go_simp; done) | rfl
             · simp only [Act.put, List.setIfInBounds_toArray, List.set_cons_succ, List.set_cons_zero]
               rfl))
        refine StepsD.done ?_
        intro w4 hS4
        have HG4 := Lib.hid (Gr.trans HG3.out hS4)
        clear hS4
        go_wp2
        go_roundw
        case rel => exact ⟨m + 1 + 1, by omega, by go_num, HG4.out⟩
        case measure => simp [RowKit.intOf]; omega
      · have hpd : decide (0 < i) = false := decide_eq_false hpos
        have HG3' := HG3
        clear hpos r0 r1 lg hsz hszw hG3
        go_wp2_with fail
        refine wp_region_b 12 (by kernel_rfl) (by kernel_rfl) ?_; simp only [List.take, List.drop]
        repeat (first
          | (apply StepsD.run
             · go_simp
               done
             · intro w' hS K hK
               have hc := (bcell hS).1
               have hf := (bcell hS).2
               have hz := hS.size
               try simp at hz
               go_simp
               try go_bits
               first
                 | exact hK _ hS
                 | fail
                 | exact hK _ (by repeat (first | (with_reducible exact Below.refl _ _) | (with_reducible assumption) | ((with_reducible refine Below.setCell ?_ ?_ _); rotate_left; · (first | exact Nat.le_refl _ | (simp; done) | (simp; omega) | omega)) | ((with_reducible refine Below.alloc ?_ ?_ _); rotate_left; · (first | exact Nat.le_refl _ | (simp; done) | (simp; omega) | omega)) | (with_reducible apply Below.drew) | (with_reducible apply below_drewN') | (refine Below.trans ?_ (Below.mono (by assumption) (by first | exact Nat.le_refl _ | (simp; done) | (simp; omega) | omega))) | exact Below.refl _ _ | assumption))
             · simp [Act.put]
               done)
          | (apply StepsD.pass
             · first | (go_simp; done) | rfl
             · simp only [Act.put, List.setIfInBounds_toArray, List.set_cons_succ, List.set_cons_zero]
               rfl))
        refine StepsD.done ?_
        intro w4 hS4
        have HG4 := Lib.hid (Gr.trans HG3.out hS4)
        clear hS4
        go_wp2
        go_roundw
        case rel => exact ⟨i + 1, by omega, by go_num, HG4.out⟩
        case measure => simp [RowKit.intOf]; omega
    · obtain rfl : i = pts.length := by omega
      have b := HX.out.1.gr hG
      have b4 := HX.out.2.1.gr hG
      have hBB2 := HX.out.2.2.trans (Below.mono hG (Below.size HX.out.2.2))
      obtain ⟨t0, t1, t2, t3⟩ := jo_cells b
      have lb := b.lt
      obtain ⟨u0, u1, _⟩ := blk2 b4
      have lb4 := b4.lt
      have HB2 := Lib.hid hBB2
      clear b b4 hBB2 hG HX
      go_wp2_with fail
      refine (HFO.out _ HB2.out).mono ?_
      rintro e w5 ⟨v, rfl, own, hB5⟩
      rw [← HPS.out, ptsC_flat, ← HPL.out] at own
      obtain ⟨A5, c5, rfl, hR⟩ := Row.own own
      have HB5 := Lib.hid (HB2.out.trans (hB5.mono (Below.size HB2.out)))
      have HR := Lib.hid hR
      clear own hR hB5 t0 t1 t2 t3 lb u0 u1 lb4 HB2 HFO
      go_wp2_with fail
      go_loopw [61] (fun s61 wx => ∃ n : Nat, n ≤ ps.length ∧ s61 = .int .i64 n ∧ Gr w5 wx) (fun s61 _ => ps.length - (RowKit.intOf s61).toNat)
      case atStart => exact ⟨0, Nat.zero_le _, rfl, Gr.refl _⟩
      case round =>
        obtain ⟨n, hn, rfl, hG⟩ := hrel
        by_cases hlt : n < ps.length
        · obtain ⟨g, o, hA, hg, c0, c1, c2', c3, c4, c5'⟩ := gpCells (HR.out.below hG (Nat.le_refl _)) hlt
          subst hA
          have lg : g < wr.heap.size := Nat.lt_of_lt_of_le hg (Below.size hG)
          have k0 : (0 : Int) ≤ (n : Int) := by omega
          have k1 : (n : Int) < (ps.length : Int) := by omega
          have hqok := (ps[n]).2.1
          have hone := cntP_one HAP.out (List.getElem_mem hlt)
          generalize ps[n] = q at *
          have hal : Gr wr (wr.alloc (.cells #[.int .i64 q.1.a, .int .i64 q.1.b, .int .i64 q.1.c, .int .i64 q.1.d, .bool q.1.none, .bool q.1.up] 89)) := (Below.refl _ _).alloc (Nat.le_refl _) _
          have bq := Blk.new wr 89 #[.int .i64 q.1.a, .int .i64 q.1.b, .int .i64 q.1.c, .int .i64 q.1.d, .bool q.1.none, .bool q.1.up]
          have HG6 := Lib.hid (Gr.trans hG hal)
          go_wp2_with fail
          generalize wr.alloc (.cells #[.int .i64 q.1.a, .int .i64 q.1.b, .int .i64 q.1.c, .int .i64 q.1.d, .bool q.1.none, .bool q.1.up] 89) = w6 at *
          generalize wr.heap.size = g13 at *
          have HBQ := Lib.hid bq
          have HONE := Lib.hid hone
          have HQK := Lib.hid hqok
          clear c0 c1 c2' c3 c4 c5' lg hg hal bq k0 k1 hG hone hqok
          go_loopw [14, 67] (fun s14 s67 wx => ∃ i : Nat, i ≤ pts.length ∧ s67 = .int .i64 i ∧ s14 = .int .i64 (cntP q (pts.take i) : Nat) ∧ Gr w6 wx) (fun _ s67 _ => pts.length - (RowKit.intOf s67).toNat)
          case atStart => exact ⟨0, Nat.zero_le _, rfl, rfl, Gr.refl _⟩
          case round =>
            obtain ⟨i, hi, rfl, rfl, hG7⟩ := hrel
            by_cases hlti : i < pts.length
            · have hBw : Below w.heap.size w wr := (HB5.out.trans (Below.mono HG6.out (Below.size HB5.out))).trans (Below.mono hG7 (Below.size (HB5.out.trans (Below.mono HG6.out (Below.size HB5.out)))))
              obtain ⟨g2, o2, hA2, hg2, r0, r1⟩ := ptL_cells (HR2.out wr hBw) hlti
              subst hA2
              have hszw := Below.size hBw
              have lg : g2 < wr.heap.size := by omega
              have k0 : (0 : Int) ≤ (i : Int) := by omega
              have k1 : (i : Int) < (pts.length : Int) := by omega
              have HCN := Lib.hid (cntP_snoc q pts i hlti)
              have hPt := HP.out _ (List.getElem_mem hlti)
              obtain ⟨p1, p2, p3, p4, _⟩ := hPt
              generalize (pts[i]).1 = qx at *
              generalize (pts[i]).2 = qy at *
              have hcnt : cntP q (pts.take i) ≤ 100 := by
                unfold cntP
                refine Nat.le_trans (List.length_filter_le _ _) ?_
                rw [List.length_take]; omega
              have hal : Gr wr (wr.alloc (.cells #[.int .i64 qx, .int .i64 qy] 35)) := (Below.refl _ _).alloc (Nat.le_refl _) _
              have bq := (HBQ.out.gr hG7).gr hal
              obtain ⟨q0, q1, q2, q3, q4, q5⟩ := bp6 (HBQ.out.gr hG7)
              have lq := (HBQ.out.gr hG7).lt
              have HG8 := Lib.hid (Gr.trans hG7 hal)
              clear hal bq hG7 hBw
              cases hh : q.1.has qx qy
              · have HH := Lib.hid hh
                have HCX : Hid (cntP q (pts.take (i + 1)) = cntP q (pts.take i)) := Lib.hid (by rw [HCN.out, hh]; simp)
                clear hh
                generalize cntP q (pts.take i) = cn at *
                go_wp2_with fail
                refine (has_any ⟨q.1.a, q.1.b, q.1.c, q.1.d, q.1.none, q.1.up⟩ HQK.out qx qy ⟨by omega, by omega⟩ ⟨by omega, by omega⟩ _).mono ?_
                rintro e w9 ⟨rfl, hB9⟩
                rw [show PV.has ⟨q.1.a, q.1.b, q.1.c, q.1.d, q.1.none, q.1.up⟩ qx qy = false from HH.out]
                have HG9 := Lib.hid (Gr.trans HG8.out hB9)
                clear hB9 q0 q1 q2 q3 q4 q5 lq r0 r1 lg
                go_wp2
                go_roundw
                case rel => exact ⟨i + 1, by omega, by go_num, by rw [HCX.out], HG9.out⟩
                case measure => simp [RowKit.intOf]; omega
              · have HH := Lib.hid hh
                have HCX : Hid (cntP q (pts.take (i + 1)) = cntP q (pts.take i) + 1) := Lib.hid (by rw [HCN.out, hh]; simp)
                clear hh
                generalize cntP q (pts.take i) = cn at *
                go_wp2_with fail
                refine (has_any ⟨q.1.a, q.1.b, q.1.c, q.1.d, q.1.none, q.1.up⟩ HQK.out qx qy ⟨by omega, by omega⟩ ⟨by omega, by omega⟩ _).mono ?_
                rintro e w9 ⟨rfl, hB9⟩
                rw [show PV.has ⟨q.1.a, q.1.b, q.1.c, q.1.d, q.1.none, q.1.up⟩ qx qy = true from HH.out]
                have HG9 := Lib.hid (Gr.trans HG8.out hB9)
                clear hB9 q0 q1 q2 q3 q4 q5 lq r0 r1 lg
                go_wp2
                go_roundw
                case rel => exact ⟨i + 1, by omega, by go_num, by rw [HCX.out]; go_num, HG9.out⟩
                case measure => simp [RowKit.intOf]; omega
            · obtain rfl : i = pts.length := by omega
              rw [List.take_length]
              have hone := HONE.out
              have HG9 := Lib.hid (Gr.trans HG6.out hG7)
              have hcc : ¬ ((1 : Int) < (cntP q pts : Int)) := by omega
              generalize cntP q pts = cn at *
              go_wp2
              go_roundw
              case rel => exact ⟨n + 1, by omega, by go_num, HG9.out⟩
              case measure => simp [RowKit.intOf]; omega
        · obtain rfl : n = ps.length := by omega
          have HBZ := Lib.hid (HB5.out.trans (Below.mono hG (Below.size HB5.out)))
          go_wp2
          exact bodyPost_ret (v := .tuple #[.int .i64 (pts.length : Int), .int .i64 0]) (by simp [results, Tryz.results12, go_sem]) rfl ⟨rfl, HBZ.out⟩
end Go.Proofs.YtlnkgjkjdllckaaGreatDoor
