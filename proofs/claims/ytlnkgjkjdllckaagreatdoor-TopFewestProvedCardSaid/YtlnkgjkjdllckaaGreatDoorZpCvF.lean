/- The contract of met: what a set-up meets of a face. -/
import Derived.Deep.DeepCutAuto
import Derived.Deep.RegionHeld3
import Derived.BigRegion
import Derived.Outline
import Derived.Test.YtlnkgjkjdllckaaGreatDoorZpCvE
import Derived.Test.YtlnkgjkjdllckaaGreatDoorZpRgW
namespace Go.Proofs.YtlnkgjkjdllckaaGreatDoor
open Go.RowKit

def fcC (nm : ByteArray) (f : Fc) : Array Value := #[.string nm, .int .i64 f.fx, .int .i64 f.fz, .int .i64 f.tx, .int .i64 f.tz]
def suC (nm : ByteArray) (s : Su) : Array Value := #[.string nm, .int .i64 s.at_, .int .i64 s.side, .int .i64 s.legs, .int .i64 s.ln, .int .i64 s.ld, .int .i64 s.mn, .int .i64 s.md, .int .i64 s.tn, .int .i64 s.td]
def spC (x z : Int) : Array Value := #[.int .i64 x, .int .i64 z]

/-- The ends of a face, package-level variables. -/
structure Ends (w : World) : Prop where
  b0 : w.cell? ⟨0, 0, none⟩ = some (.int .i64 0)
  b1 : w.cell? ⟨0, 1, none⟩ = some (.int .i64 1)
  e0 : w.cell? ⟨1, 0, none⟩ = some (.int .i64 1)
  e1 : w.cell? ⟨1, 1, none⟩ = some (.int .i64 1)

/-- How deep a place lies, unfolded at the back wall for two legs. -/
theorem Ends.below {w w' : World} (h : Ends w) (k : Below w.heap.size w w') : Ends w' :=
  ⟨(k.cell (World.block_lt_of_cell? _ _ h.b0)).trans h.b0, (k.cell (World.block_lt_of_cell? _ _ h.b1)).trans h.b1, (k.cell (World.block_lt_of_cell? _ _ h.e0)).trans h.e0, (k.cell (World.block_lt_of_cell? _ _ h.e1)).trans h.e1⟩
def deepV (thick legs z : Int) : Int := if legs = 2 then 2 * thick - z else z
theorem deep2 {thick legs : Int} (z : Int) (h : legs = 2) : deepV thick legs z = 2 * thick - z := by unfold deepV; rw [if_pos h]
theorem deep1 {thick legs : Int} (z : Int) (h : ¬ legs = 2) : deepV thick legs z = z := by unfold deepV; rw [if_neg h]

theorem Blk.gr {w w' : World} {g : Nat} {t : TypeId} {cs : Array Value} (h : Blk w g t cs) (k : Gr w w') : Blk w' g t cs := h.below k h.lt
/-- Two rows made one behind the other. -/
theorem two_new {wc w1 w2 w3 : World} {t t' : TypeId} {c c' : Array Value} (h1 : Gr wc w1) (h2 : Gr (w1.alloc (.cells c t)) w2) (h3 : Gr (w2.alloc (.cells c' t')) w3) :
    Blk w3 w1.heap.size t c ∧ Blk w3 w2.heap.size t' c' ∧ w1.heap.size ≠ w2.heap.size ∧ wc.heap.size ≤ w1.heap.size ∧ wc.heap.size ≤ w2.heap.size := by
  have e1 : w1.heap.size < w2.heap.size := ((Blk.new w1 t c).gr h2).lt
  have e0 := Below.size h1
  exact ⟨(((Blk.new w1 t c).gr h2).alloc _).gr h3, (Blk.new w2 t' c').gr h3, by omega, e0, by omega⟩
/-- Two pairs stored into two rows. -/
theorem two_set {w3 w4 w5 : World} {p q : Nat} {t t' : TypeId} {u u' v v' x0 x1 y0 y1 : Value} (hp : Blk w3 p t #[u, u']) (hq : Blk w3 q t' #[v, v']) (hpq : p ≠ q)
    (h4 : Gr ((w3.setCell ⟨p, 0, none⟩ x0).setCell ⟨p, 1, none⟩ x1) w4) (h5 : Gr ((w4.setCell ⟨q, 0, none⟩ y0).setCell ⟨q, 1, none⟩ y1) w5) :
    Blk w5 p t #[x0, x1] ∧ Blk w5 q t' #[y0, y1] := by
  have p4 : Blk w4 p t #[x0, x1] := Blk.gr ((hp.set_ 0 x0).set_ 1 x1) h4
  have q4 : Blk w4 q t' #[v, v'] := Blk.gr ((hq.far (p := ⟨p, 0, none⟩) (Ne.symm hpq) _).far (p := ⟨p, 1, none⟩) (Ne.symm hpq) _) h4
  exact ⟨Blk.gr ((p4.far (p := ⟨q, 0, none⟩) hpq _).far (p := ⟨q, 1, none⟩) hpq _) h5, Blk.gr ((q4.set_ 0 y0).set_ 1 y1) h5⟩

theorem Below.set6 {n g : Nat} {a b : World} {u0 u1 u2 u3 u4 u5 : Value} (h : Below n a b) (hg : n ≤ g) :
    Below n a ((((((b.setCell ⟨g, 0, none⟩ u0).setCell ⟨g, 1, none⟩ u1).setCell ⟨g, 2, none⟩ u2).setCell ⟨g, 3, none⟩ u3).setCell ⟨g, 4, none⟩ u4).setCell ⟨g, 5, none⟩ u5) :=
  (((((h.setCell hg _).setCell hg _).setCell hg _).setCell hg _).setCell hg _).setCell hg _

theorem Blk.set6 {g : Nat} {b : World} {t : TypeId} {v0 v1 v2 v3 v4 v5 : Value} (h : Blk b g t #[v0, v1, v2, v3, v4, v5]) (u0 u1 u2 u3 u4 u5 : Value) :
    Blk ((((((b.setCell ⟨g, 0, none⟩ u0).setCell ⟨g, 1, none⟩ u1).setCell ⟨g, 2, none⟩ u2).setCell ⟨g, 3, none⟩ u3).setCell ⟨g, 4, none⟩ u4).setCell ⟨g, 5, none⟩ u5) g t #[u0, u1, u2, u3, u4, u5] :=
  (((((h.set_ 0 u0).set_ 1 u1).set_ 2 u2).set_ 3 u3).set_ 4 u4).set_ 5 u5

/-- The limits of a face and of a set-up. -/
structure Lim (thick : Int) (f : Fc) (s : Su) : Prop where
  thick : 1 ≤ thick ∧ thick ≤ 20000
  fx : -30000 ≤ f.fx ∧ f.fx ≤ 30000
  fz : 0 ≤ f.fz ∧ f.fz ≤ 20000
  tx : -30000 ≤ f.tx ∧ f.tx ≤ 30000
  tz : 0 ≤ f.tz ∧ f.tz ≤ 20000
  at_ : -30000 ≤ s.at_ ∧ s.at_ ≤ 30000
  side : -1 ≤ s.side ∧ s.side ≤ 1
  ln : 0 ≤ s.ln ∧ s.ln ≤ 100
  ld : 0 ≤ s.ld ∧ s.ld ≤ 100
  mn : 0 ≤ s.mn ∧ s.mn ≤ 100
  md : 0 ≤ s.md ∧ s.md ≤ 100
  tn : 0 ≤ s.tn ∧ s.tn ≤ 100
  td : 0 ≤ s.td ∧ s.td ≤ 100

theorem metW_no {wv wz dx az : Int} {s : Su} (hk : ¬ wv * az - wz * dx = 0) :
    metW wv wz dx az s = ((((PV.mk 0 1 1 1 false (decide (wz * dx < wv * az))).cut (s.side * dx * s.ld - az * s.ln) (s.side * wv * s.ld - wz * s.ln)).cut (az * s.mn - s.side * dx * s.md) (wz * s.mn - s.side * wv * s.md)).cut
      (max (wv * az - wz * dx) (-(wv * az - wz * dx)) * s.tn - (wv * dx + wz * az) * s.td) (-(wv * wv + wz * wz) * s.td)).cut
      (max (wv * az - wz * dx) (-(wv * az - wz * dx)) * s.tn - -(wv * dx + wz * az) * s.td) ((wv * wv + wz * wz) * s.td) := by
  unfold metW
  simp only []
  rw [if_neg hk]
  have h : decide (0 < wv * az - wz * dx) = decide (wz * dx < wv * az) := by rw [decide_eq_decide]; omega
  rw [h, Int.neg_one_mul, Int.neg_one_mul]
theorem int_mul_eq {a b c : Int} (h : a = b) : Value.int .i64 (a * c) = Value.int .i64 (b * c) := by rw [h]
theorem su_cells {w : World} {g : Nat} {sn : ByteArray} {s : Su} (h : Blk w g 34 (suC sn s)) :
    w.cell? ⟨g, 4, none⟩ = some (.int .i64 s.ln) ∧ w.cell? ⟨g, 5, none⟩ = some (.int .i64 s.ld) ∧ w.cell? ⟨g, 6, none⟩ = some (.int .i64 s.mn) ∧ w.cell? ⟨g, 7, none⟩ = some (.int .i64 s.md) ∧
    w.cell? ⟨g, 8, none⟩ = some (.int .i64 s.tn) ∧ w.cell? ⟨g, 9, none⟩ = some (.int .i64 s.td) :=
  ⟨h.cell 4, h.cell 5, h.cell 6, h.cell 7, h.cell 8, h.cell 9⟩

set_option maxRecDepth 100000 in
set_option maxHeartbeats 8000000 in
theorem met_any (thick : Int) (f : Fc) (s : Su) (fn sn : ByteArray) (w : World) (hE : Ends w) (L : Lim thick f s) :
    Calls Tryz.prog 37 #[.int .i64 thick, .agg (fcC fn f), .agg (suC sn s)] w fun e w' => e = .returned (.agg (ptP (metV thick f s))) ∧ Below w.heap.size w w' := by
  unfold fcC suC
  go_enter Tryz.func37, Tryz.ntmps37
  go_upto_region 1 with fail
  go_cut [7, 8] (fun s7 s8 wx => ∃ p q : Nat, s7 = .pointer (some ⟨p, 0, none⟩) ∧ s8 = .pointer (some ⟨q, 0, none⟩) ∧ Blk wx p 98 (spC f.fx f.fz) ∧ Blk wx q 98 (spC f.tx f.tz) ∧ p ≠ q ∧ w.heap.size + 3 ≤ p ∧ w.heap.size + 3 ≤ q ∧
    Below (w.heap.size + 3) (((w.alloc (.cells (fcC fn f) 100)).alloc (.cells (suC sn s) 34)).alloc (.cells (ptP ⟨0, 0, 0, 0, false, false⟩) 89)) wx)
  case first =>
    go_region
    all_goals go_wp2_with fail
    all_goals go_meet
    all_goals exact ⟨_, _, rfl, rfl, (by repeat (first | assumption | apply Blk.drew | (refine Blk.new' _ _ _ ?_; first | rfl | (simp; done) | (simp; omega)) | (refine Blk.alloc ?_ _))), (by repeat (first | assumption | apply Blk.drew | (refine Blk.new' _ _ _ ?_; first | rfl | (simp; done) | (simp; omega)) | (refine Blk.alloc ?_ _))), by omega, by omega, by omega, (by repeat (first | (with_reducible exact Below.refl _ _) | (with_reducible assumption) | ((with_reducible refine Below.setCell ?_ ?_ _); rotate_left; · (first | exact Nat.le_refl _ | (simp; done) | (simp; omega) | omega)) | ((with_reducible refine Below.alloc ?_ ?_ _); rotate_left; · (first | exact Nat.le_refl _ | (simp; done) | (simp; omega) | omega)) | (with_reducible apply Below.drew) | (with_reducible apply below_drewN') | (refine Below.trans ?_ (Below.mono (by assumption) (by first | exact Nat.le_refl _ | (simp; done) | (simp; omega) | omega))) | exact Below.refl _ _ | assumption))⟩
  case rest =>
    obtain ⟨p, q, rfl, rfl, hp, hq, hpq, hpb, hqb, hB⟩ := hcut
    have b4 : Blk wc w.heap.size 100 (fcC fn f) := by refine Blk.below ?_ hB (by omega); exact (by repeat (first | assumption | apply Blk.drew | (refine Blk.new' _ _ _ ?_; first | rfl | (simp; done) | (simp; omega)) | (refine Blk.alloc ?_ _)))
    have b5 : Blk wc (w.heap.size + 1) 34 (suC sn s) := by refine Blk.below ?_ hB (by omega); exact (by repeat (first | assumption | apply Blk.drew | (refine Blk.new' _ _ _ ?_; first | rfl | (simp; done) | (simp; omega)) | (refine Blk.alloc ?_ _)))
    have b6 : Blk wc (w.heap.size + 2) 89 (ptP ⟨0, 0, 0, 0, false, false⟩) := by refine Blk.below ?_ hB (by omega); exact (by repeat (first | assumption | apply Blk.drew | (refine Blk.new' _ _ _ ?_; first | rfl | (simp; done) | (simp; omega)) | (refine Blk.alloc ?_ _)))
    have hBw : Below w.heap.size w wc := Below.trans (b := ((w.alloc (.cells (fcC fn f) 100)).alloc (.cells (suC sn s) 34)).alloc (.cells (ptP ⟨0, 0, 0, 0, false, false⟩) 89)) (by repeat (first | (with_reducible exact Below.refl _ _) | (with_reducible assumption) | ((with_reducible refine Below.setCell ?_ ?_ _); rotate_left; · (first | exact Nat.le_refl _ | (simp; done) | (simp; omega) | omega)) | ((with_reducible refine Below.alloc ?_ ?_ _); rotate_left; · (first | exact Nat.le_refl _ | (simp; done) | (simp; omega) | omega)) | (with_reducible apply Below.drew) | (with_reducible apply below_drewN') | (refine Below.trans ?_ (Below.mono (by assumption) (by first | exact Nat.le_refl _ | (simp; done) | (simp; omega) | omega))) | exact Below.refl _ _ | assumption)) (hB.mono (by omega))
    clear hB
    have l3 := b5.cell 3
    have p1 := hp.cell 1
    have q1 := hq.cell 1
    have fp := hp.frozen 1
    have fq := hq.frozen 1
    have k1 := L.thick; have k2 := L.fz; have k3 := L.tz
    simp only [suC, spC] at l3 p1 q1
    have l3' : wc.cell? ⟨w.heap.size + 1, 3, none⟩ = some (.int .i64 s.legs) := l3
    have p1' : wc.cell? ⟨p, 1, none⟩ = some (.int .i64 f.fz) := p1
    have q1' : wc.cell? ⟨q, 1, none⟩ = some (.int .i64 f.tz) := q1
    clear l3 p1 q1
    go_upto_if 23 with fail
    go_cut [7, 8] (fun s7 s8 wx => s7 = .pointer (some ⟨p, 0, none⟩) ∧ s8 = .pointer (some ⟨q, 0, none⟩) ∧ Blk wx p 98 (spC f.fx (deepV thick s.legs f.fz)) ∧ Blk wx q 98 (spC f.tx (deepV thick s.legs f.tz)) ∧
      Blk wx w.heap.size 100 (fcC fn f) ∧ Blk wx (w.heap.size + 1) 34 (suC sn s) ∧ Blk wx (w.heap.size + 2) 89 (ptP ⟨0, 0, 0, 0, false, false⟩) ∧ Below w.heap.size w wx)
    case first =>
      by_cases h2 : s.legs = 2
      · have h2' : (s.legs == 2) = true := by simpa using h2
        have D1 := Lib.hid (deep2 (thick := thick) f.fz h2)
        have D2 := Lib.hid (deep2 (thick := thick) f.tz h2)
        clear h2
        go_wp2_with fail
        go_region
        all_goals go_wp2_with fail
        all_goals go_meet
        exact ⟨rfl, rfl, by rw [D1.out]; exact ((hp.set_ 1 _).far (p := ⟨q, 1, none⟩) hpq _).drew, by rw [D2.out]; exact ((hq.far (p := ⟨p, 1, none⟩) (Ne.symm hpq) _).set_ 1 _).drew,
          ((b4.far (p := ⟨p, 1, none⟩) (by simp; omega) _).far (p := ⟨q, 1, none⟩) (by simp; omega) _).drew, ((b5.far (p := ⟨p, 1, none⟩) (by simp; omega) _).far (p := ⟨q, 1, none⟩) (by simp; omega) _).drew,
          ((b6.far (p := ⟨p, 1, none⟩) (by simp; omega) _).far (p := ⟨q, 1, none⟩) (by simp; omega) _).drew, (by repeat (first | (with_reducible exact Below.refl _ _) | (with_reducible assumption) | ((with_reducible refine Below.setCell ?_ ?_ _); rotate_left; · (first | exact Nat.le_refl _ | (simp; done) | (simp; omega) | omega)) | ((with_reducible refine Below.alloc ?_ ?_ _); rotate_left; · (first | exact Nat.le_refl _ | (simp; done) | (simp; omega) | omega)) | (with_reducible apply Below.drew) | (with_reducible apply below_drewN') | (refine Below.trans ?_ (Below.mono (by assumption) (by first | exact Nat.le_refl _ | (simp; done) | (simp; omega) | omega))) | exact Below.refl _ _ | assumption))⟩
      · have h2' : (s.legs == 2) = false := by simpa using h2
        have D1 := Lib.hid (deep1 (thick := thick) f.fz h2)
        have D2 := Lib.hid (deep1 (thick := thick) f.tz h2)
        clear h2
        go_wp2_with fail
        go_meet
        exact ⟨rfl, rfl, by rw [D1.out]; exact hp, by rw [D2.out]; exact hq, b4, b5, b6, hBw⟩
    case rest =>
      clear hp hq b4 b5 b6 hBw l3' p1' q1' fp fq
      obtain ⟨rfl, rfl, hp, hq, _, b5, b6, hBw⟩ := hcut
      have haz : -20000 ≤ deepV thick s.legs f.fz ∧ deepV thick s.legs f.fz ≤ 40000 := by unfold deepV; split <;> omega
      have hbz : -20000 ≤ deepV thick s.legs f.tz ∧ deepV thick s.legs f.tz ≤ 40000 := by unfold deepV; split <;> omega
      generalize hazE : deepV thick s.legs f.fz = az at *
      generalize hbzE : deepV thick s.legs f.tz = bz at *
      have AZ := Lib.hid hazE; have BZ := Lib.hid hbzE; clear hazE hbzE
      have p0 : wc.cell? ⟨p, 0, none⟩ = some (.int .i64 f.fx) := hp.cell 0
      have p1 : wc.cell? ⟨p, 1, none⟩ = some (.int .i64 az) := hp.cell 1
      have q0 : wc.cell? ⟨q, 0, none⟩ = some (.int .i64 f.tx) := hq.cell 0
      have q1 : wc.cell? ⟨q, 1, none⟩ = some (.int .i64 bz) := hq.cell 1
      have s1 : wc.cell? ⟨w.heap.size + 1, 1, none⟩ = some (.int .i64 s.at_) := b5.cell 1
      have k4 := L.fx; have k5 := L.tx; have k6 := L.at_
      have lp := hp.lt; have lq := hq.lt; have l5 := b5.lt; have l6 := b6.lt
      go_upto_region 4 with fail
      go_cut [9, 10] (fun s9 s10 wx => ∃ r o : Nat, s9 = .pointer (some ⟨r, 0, none⟩) ∧ s10 = .pointer (some ⟨o, 0, none⟩) ∧ Blk wx r 128 (spC (f.tx - f.fx) (bz - az)) ∧ Blk wx o 128 (spC (f.fx - s.at_) az) ∧ r ≠ o ∧ wc.heap.size ≤ r ∧ wc.heap.size ≤ o ∧
        Below wc.heap.size wc wx)
      case first =>
        refine wp_region_w (Gr _) (by kernel_rfl) (Below.refl _ _).drew ?_
        refine wpW_det (t' := ?ct0R1) 0 (by rfl) (by kernel_rfl) (NQ_free _) (by kernel_rfl) ?cw0R1 ?ch0R1 ?ca0R1 (Eq.refl _) ?cH0R1
        case cw0R1 => (go_simp; done)
        case ch0R1 =>
          intro ds w' hS K hK
          have hc := (bcell hS).1
          have hf := (bcell hS).2
          have hz := hS.size
          try simp at hz
          go_simp
          try go_bits
          first
            | exact hK _ hS (Gr.refl _)
            | (go_at_call 62; refine (from_any _ _ _ _ (by omega) (by omega) (by omega) (by omega) _).mono ?_; rintro e w1 ⟨rfl, hB1⟩; obtain ⟨hc1, hf1⟩ := bcell hB1; have hz1 := hB1.size; (try simp at hz1); exact hK _ (Below.trans hS (Below.mono hB1 (by first | exact Nat.le_refl _ | (simp; done) | (simp; omega) | omega))) hB1)
            | exact hK _ (by repeat (first | (with_reducible exact Below.refl _ _) | (with_reducible assumption) | ((with_reducible refine Below.setCell ?_ ?_ _); rotate_left; · (first | exact Nat.le_refl _ | (simp; done) | (simp; omega) | omega)) | ((with_reducible refine Below.alloc ?_ ?_ _); rotate_left; · (first | exact Nat.le_refl _ | (simp; done) | (simp; omega) | omega)) | (with_reducible apply Below.drew) | (with_reducible apply below_drewN') | (refine Below.trans ?_ (Below.mono (by assumption) (by first | exact Nat.le_refl _ | (simp; done) | (simp; omega) | omega))) | exact Below.refl _ _ | assumption)) (by repeat (first | (with_reducible exact Below.refl _ _) | (with_reducible assumption) | ((with_reducible refine Below.setCell ?_ ?_ _); rotate_left; · (first | exact Nat.le_refl _ | (simp; done) | (simp; omega) | omega)) | ((with_reducible refine Below.alloc ?_ ?_ _); rotate_left; · (first | exact Nat.le_refl _ | (simp; done) | (simp; omega) | omega)) | (with_reducible apply Below.drew) | (with_reducible apply below_drewN') | (refine Below.trans ?_ (Below.mono (by assumption) (by first | exact Nat.le_refl _ | (simp; done) | (simp; omega) | omega))) | exact Below.refl _ _ | assumption))
        case ca0R1 => (first | (simp [Act.put]; done) | (simp [Act.put, *]; done))
        try dsimp only
        refine wpW_det (t' := ?ct1R1) 1 (by rfl) (by kernel_rfl) (NQ_free _) (by kernel_rfl) ?cw1R1 ?ch1R1 ?ca1R1 (Eq.refl _) ?cH1R1
        case cw1R1 => (go_simp; done)
        case ch1R1 =>
          intro ds w' hS K hK
          have hc := (bcell hS).1
          have hf := (bcell hS).2
          have hz := hS.size
          try simp at hz
          go_simp
          try go_bits
          first
            | exact hK _ hS (Gr.refl _)
            | (go_at_call 62; refine (from_any _ _ _ _ (by omega) (by omega) (by omega) (by omega) _).mono ?_; rintro e w1 ⟨rfl, hB1⟩; obtain ⟨hc1, hf1⟩ := bcell hB1; have hz1 := hB1.size; (try simp at hz1); exact hK _ (Below.trans hS (Below.mono hB1 (by first | exact Nat.le_refl _ | (simp; done) | (simp; omega) | omega))) hB1)
            | exact hK _ (by repeat (first | (with_reducible exact Below.refl _ _) | (with_reducible assumption) | ((with_reducible refine Below.setCell ?_ ?_ _); rotate_left; · (first | exact Nat.le_refl _ | (simp; done) | (simp; omega) | omega)) | ((with_reducible refine Below.alloc ?_ ?_ _); rotate_left; · (first | exact Nat.le_refl _ | (simp; done) | (simp; omega) | omega)) | (with_reducible apply Below.drew) | (with_reducible apply below_drewN') | (refine Below.trans ?_ (Below.mono (by assumption) (by first | exact Nat.le_refl _ | (simp; done) | (simp; omega) | omega))) | exact Below.refl _ _ | assumption)) (by repeat (first | (with_reducible exact Below.refl _ _) | (with_reducible assumption) | ((with_reducible refine Below.setCell ?_ ?_ _); rotate_left; · (first | exact Nat.le_refl _ | (simp; done) | (simp; omega) | omega)) | ((with_reducible refine Below.alloc ?_ ?_ _); rotate_left; · (first | exact Nat.le_refl _ | (simp; done) | (simp; omega) | omega)) | (with_reducible apply Below.drew) | (with_reducible apply below_drewN') | (refine Below.trans ?_ (Below.mono (by assumption) (by first | exact Nat.le_refl _ | (simp; done) | (simp; omega) | omega))) | exact Below.refl _ _ | assumption))
        case ca1R1 => (first | (simp [Act.put]; done) | (simp [Act.put, *]; done))
        try dsimp only
        refine wpW_det (t' := ?ct2R1) 2 (by rfl) (by kernel_rfl) (NQ_free _) (by kernel_rfl) ?cw2R1 ?ch2R1 ?ca2R1 (Eq.refl _) ?cH2R1
        case cw2R1 => (go_simp; done)
        case ch2R1 =>
          intro ds w' hS K hK
          have hc := (bcell hS).1
          have hf := (bcell hS).2
          have hz := hS.size
          try simp at hz
          go_simp
          try go_bits
          first
            | exact hK _ hS (Gr.refl _)
            | (go_at_call 62; refine (from_any _ _ _ _ (by omega) (by omega) (by omega) (by omega) _).mono ?_; rintro e w1 ⟨rfl, hB1⟩; obtain ⟨hc1, hf1⟩ := bcell hB1; have hz1 := hB1.size; (try simp at hz1); exact hK _ (Below.trans hS (Below.mono hB1 (by first | exact Nat.le_refl _ | (simp; done) | (simp; omega) | omega))) hB1)
            | exact hK _ (by repeat (first | (with_reducible exact Below.refl _ _) | (with_reducible assumption) | ((with_reducible refine Below.setCell ?_ ?_ _); rotate_left; · (first | exact Nat.le_refl _ | (simp; done) | (simp; omega) | omega)) | ((with_reducible refine Below.alloc ?_ ?_ _); rotate_left; · (first | exact Nat.le_refl _ | (simp; done) | (simp; omega) | omega)) | (with_reducible apply Below.drew) | (with_reducible apply below_drewN') | (refine Below.trans ?_ (Below.mono (by assumption) (by first | exact Nat.le_refl _ | (simp; done) | (simp; omega) | omega))) | exact Below.refl _ _ | assumption)) (by repeat (first | (with_reducible exact Below.refl _ _) | (with_reducible assumption) | ((with_reducible refine Below.setCell ?_ ?_ _); rotate_left; · (first | exact Nat.le_refl _ | (simp; done) | (simp; omega) | omega)) | ((with_reducible refine Below.alloc ?_ ?_ _); rotate_left; · (first | exact Nat.le_refl _ | (simp; done) | (simp; omega) | omega)) | (with_reducible apply Below.drew) | (with_reducible apply below_drewN') | (refine Below.trans ?_ (Below.mono (by assumption) (by first | exact Nat.le_refl _ | (simp; done) | (simp; omega) | omega))) | exact Below.refl _ _ | assumption))
        case ca2R1 => (first | (simp [Act.put]; done) | (simp [Act.put, *]; done))
        try dsimp only
        refine wpW_det (t' := ?ct3R1) 3 (by rfl) (by kernel_rfl) (NQ_free _) (by kernel_rfl) ?cw3R1 ?ch3R1 ?ca3R1 (Eq.refl _) ?cH3R1
        case cw3R1 => (go_simp; done)
        case ch3R1 =>
          intro ds w' hS K hK
          have hc := (bcell hS).1
          have hf := (bcell hS).2
          have hz := hS.size
          try simp at hz
          go_simp
          try go_bits
          first
            | exact hK _ hS (Gr.refl _)
            | (go_at_call 62; refine (from_any _ _ _ _ (by omega) (by omega) (by omega) (by omega) _).mono ?_; rintro e w1 ⟨rfl, hB1⟩; obtain ⟨hc1, hf1⟩ := bcell hB1; have hz1 := hB1.size; (try simp at hz1); exact hK _ (Below.trans hS (Below.mono hB1 (by first | exact Nat.le_refl _ | (simp; done) | (simp; omega) | omega))) hB1)
            | exact hK _ (by repeat (first | (with_reducible exact Below.refl _ _) | (with_reducible assumption) | ((with_reducible refine Below.setCell ?_ ?_ _); rotate_left; · (first | exact Nat.le_refl _ | (simp; done) | (simp; omega) | omega)) | ((with_reducible refine Below.alloc ?_ ?_ _); rotate_left; · (first | exact Nat.le_refl _ | (simp; done) | (simp; omega) | omega)) | (with_reducible apply Below.drew) | (with_reducible apply below_drewN') | (refine Below.trans ?_ (Below.mono (by assumption) (by first | exact Nat.le_refl _ | (simp; done) | (simp; omega) | omega))) | exact Below.refl _ _ | assumption)) (by repeat (first | (with_reducible exact Below.refl _ _) | (with_reducible assumption) | ((with_reducible refine Below.setCell ?_ ?_ _); rotate_left; · (first | exact Nat.le_refl _ | (simp; done) | (simp; omega) | omega)) | ((with_reducible refine Below.alloc ?_ ?_ _); rotate_left; · (first | exact Nat.le_refl _ | (simp; done) | (simp; omega) | omega)) | (with_reducible apply Below.drew) | (with_reducible apply below_drewN') | (refine Below.trans ?_ (Below.mono (by assumption) (by first | exact Nat.le_refl _ | (simp; done) | (simp; omega) | omega))) | exact Below.refl _ _ | assumption))
        case ca3R1 => (first | (simp [Act.put]; done) | (simp [Act.put, *]; done))
        try dsimp only
        refine wpW_det (t' := ?ct4R1) 4 (by rfl) (by kernel_rfl) (NQ_free _) (by kernel_rfl) ?cw4R1 ?ch4R1 ?ca4R1 (Eq.refl _) ?cH4R1
        case cw4R1 => (go_simp; done)
        case ch4R1 =>
          intro ds w' hS K hK
          have hc := (bcell hS).1
          have hf := (bcell hS).2
          have hz := hS.size
          try simp at hz
          go_simp
          try go_bits
          first
            | exact hK _ hS (Gr.refl _)
            | (go_at_call 62; refine (from_any _ _ _ _ (by omega) (by omega) (by omega) (by omega) _).mono ?_; rintro e w1 ⟨rfl, hB1⟩; obtain ⟨hc1, hf1⟩ := bcell hB1; have hz1 := hB1.size; (try simp at hz1); exact hK _ (Below.trans hS (Below.mono hB1 (by first | exact Nat.le_refl _ | (simp; done) | (simp; omega) | omega))) hB1)
            | exact hK _ (by repeat (first | (with_reducible exact Below.refl _ _) | (with_reducible assumption) | ((with_reducible refine Below.setCell ?_ ?_ _); rotate_left; · (first | exact Nat.le_refl _ | (simp; done) | (simp; omega) | omega)) | ((with_reducible refine Below.alloc ?_ ?_ _); rotate_left; · (first | exact Nat.le_refl _ | (simp; done) | (simp; omega) | omega)) | (with_reducible apply Below.drew) | (with_reducible apply below_drewN') | (refine Below.trans ?_ (Below.mono (by assumption) (by first | exact Nat.le_refl _ | (simp; done) | (simp; omega) | omega))) | exact Below.refl _ _ | assumption)) (by repeat (first | (with_reducible exact Below.refl _ _) | (with_reducible assumption) | ((with_reducible refine Below.setCell ?_ ?_ _); rotate_left; · (first | exact Nat.le_refl _ | (simp; done) | (simp; omega) | omega)) | ((with_reducible refine Below.alloc ?_ ?_ _); rotate_left; · (first | exact Nat.le_refl _ | (simp; done) | (simp; omega) | omega)) | (with_reducible apply Below.drew) | (with_reducible apply below_drewN') | (refine Below.trans ?_ (Below.mono (by assumption) (by first | exact Nat.le_refl _ | (simp; done) | (simp; omega) | omega))) | exact Below.refl _ _ | assumption))
        case ca4R1 => (first | (simp [Act.put]; done) | (simp [Act.put, *]; done))
        try dsimp only
        refine wpW_det (t' := ?ct5R1) 5 (by rfl) (by kernel_rfl) (NQ_free _) (by kernel_rfl) ?cw5R1 ?ch5R1 ?ca5R1 (Eq.refl _) ?cH5R1
        case cw5R1 => (go_simp; done)
        case ch5R1 =>
          intro ds w' hS K hK
          have hc := (bcell hS).1
          have hf := (bcell hS).2
          have hz := hS.size
          try simp at hz
          go_simp
          try go_bits
          first
            | exact hK _ hS (Gr.refl _)
            | (go_at_call 62; refine (from_any _ _ _ _ (by omega) (by omega) (by omega) (by omega) _).mono ?_; rintro e w1 ⟨rfl, hB1⟩; obtain ⟨hc1, hf1⟩ := bcell hB1; have hz1 := hB1.size; (try simp at hz1); exact hK _ (Below.trans hS (Below.mono hB1 (by first | exact Nat.le_refl _ | (simp; done) | (simp; omega) | omega))) hB1)
            | exact hK _ (by repeat (first | (with_reducible exact Below.refl _ _) | (with_reducible assumption) | ((with_reducible refine Below.setCell ?_ ?_ _); rotate_left; · (first | exact Nat.le_refl _ | (simp; done) | (simp; omega) | omega)) | ((with_reducible refine Below.alloc ?_ ?_ _); rotate_left; · (first | exact Nat.le_refl _ | (simp; done) | (simp; omega) | omega)) | (with_reducible apply Below.drew) | (with_reducible apply below_drewN') | (refine Below.trans ?_ (Below.mono (by assumption) (by first | exact Nat.le_refl _ | (simp; done) | (simp; omega) | omega))) | exact Below.refl _ _ | assumption)) (by repeat (first | (with_reducible exact Below.refl _ _) | (with_reducible assumption) | ((with_reducible refine Below.setCell ?_ ?_ _); rotate_left; · (first | exact Nat.le_refl _ | (simp; done) | (simp; omega) | omega)) | ((with_reducible refine Below.alloc ?_ ?_ _); rotate_left; · (first | exact Nat.le_refl _ | (simp; done) | (simp; omega) | omega)) | (with_reducible apply Below.drew) | (with_reducible apply below_drewN') | (refine Below.trans ?_ (Below.mono (by assumption) (by first | exact Nat.le_refl _ | (simp; done) | (simp; omega) | omega))) | exact Below.refl _ _ | assumption))
        case ca5R1 => (first | (simp [Act.put]; done) | (simp [Act.put, *]; done))
        try dsimp only
        refine wpW_det (t' := ?ct6R1) 6 (by rfl) (by kernel_rfl) (NQ_free _) (by kernel_rfl) ?cw6R1 ?ch6R1 ?ca6R1 (Eq.refl _) ?cH6R1
        case cw6R1 => (go_simp; done)
        case ch6R1 =>
          intro ds w' hS K hK
          have hc := (bcell hS).1
          have hf := (bcell hS).2
          have hz := hS.size
          try simp at hz
          go_simp
          try go_bits
          first
            | exact hK _ hS (Gr.refl _)
            | (go_at_call 62; refine (from_any _ _ _ _ (by omega) (by omega) (by omega) (by omega) _).mono ?_; rintro e w1 ⟨rfl, hB1⟩; obtain ⟨hc1, hf1⟩ := bcell hB1; have hz1 := hB1.size; (try simp at hz1); exact hK _ (Below.trans hS (Below.mono hB1 (by first | exact Nat.le_refl _ | (simp; done) | (simp; omega) | omega))) hB1)
            | exact hK _ (by repeat (first | (with_reducible exact Below.refl _ _) | (with_reducible assumption) | ((with_reducible refine Below.setCell ?_ ?_ _); rotate_left; · (first | exact Nat.le_refl _ | (simp; done) | (simp; omega) | omega)) | ((with_reducible refine Below.alloc ?_ ?_ _); rotate_left; · (first | exact Nat.le_refl _ | (simp; done) | (simp; omega) | omega)) | (with_reducible apply Below.drew) | (with_reducible apply below_drewN') | (refine Below.trans ?_ (Below.mono (by assumption) (by first | exact Nat.le_refl _ | (simp; done) | (simp; omega) | omega))) | exact Below.refl _ _ | assumption)) (by repeat (first | (with_reducible exact Below.refl _ _) | (with_reducible assumption) | ((with_reducible refine Below.setCell ?_ ?_ _); rotate_left; · (first | exact Nat.le_refl _ | (simp; done) | (simp; omega) | omega)) | ((with_reducible refine Below.alloc ?_ ?_ _); rotate_left; · (first | exact Nat.le_refl _ | (simp; done) | (simp; omega) | omega)) | (with_reducible apply Below.drew) | (with_reducible apply below_drewN') | (refine Below.trans ?_ (Below.mono (by assumption) (by first | exact Nat.le_refl _ | (simp; done) | (simp; omega) | omega))) | exact Below.refl _ _ | assumption))
        case ca6R1 => (first | (simp [Act.put]; done) | (simp [Act.put, *]; done))
        try dsimp only
        refine wpW_det (t' := ?ct7R1) 7 (by rfl) (by kernel_rfl) (NQ_free _) (by kernel_rfl) ?cw7R1 ?ch7R1 ?ca7R1 (Eq.refl _) ?cH7R1
        case cw7R1 => (go_simp; done)
        case ch7R1 =>
          intro ds w' hS K hK
          have hc := (bcell hS).1
          have hf := (bcell hS).2
          have hz := hS.size
          try simp at hz
          go_simp
          try go_bits
          first
            | exact hK _ hS (Gr.refl _)
            | (go_at_call 62; refine (from_any _ _ _ _ (by omega) (by omega) (by omega) (by omega) _).mono ?_; rintro e w1 ⟨rfl, hB1⟩; obtain ⟨hc1, hf1⟩ := bcell hB1; have hz1 := hB1.size; (try simp at hz1); exact hK _ (Below.trans hS (Below.mono hB1 (by first | exact Nat.le_refl _ | (simp; done) | (simp; omega) | omega))) hB1)
            | exact hK _ (by repeat (first | (with_reducible exact Below.refl _ _) | (with_reducible assumption) | ((with_reducible refine Below.setCell ?_ ?_ _); rotate_left; · (first | exact Nat.le_refl _ | (simp; done) | (simp; omega) | omega)) | ((with_reducible refine Below.alloc ?_ ?_ _); rotate_left; · (first | exact Nat.le_refl _ | (simp; done) | (simp; omega) | omega)) | (with_reducible apply Below.drew) | (with_reducible apply below_drewN') | (refine Below.trans ?_ (Below.mono (by assumption) (by first | exact Nat.le_refl _ | (simp; done) | (simp; omega) | omega))) | exact Below.refl _ _ | assumption)) (by repeat (first | (with_reducible exact Below.refl _ _) | (with_reducible assumption) | ((with_reducible refine Below.setCell ?_ ?_ _); rotate_left; · (first | exact Nat.le_refl _ | (simp; done) | (simp; omega) | omega)) | ((with_reducible refine Below.alloc ?_ ?_ _); rotate_left; · (first | exact Nat.le_refl _ | (simp; done) | (simp; omega) | omega)) | (with_reducible apply Below.drew) | (with_reducible apply below_drewN') | (refine Below.trans ?_ (Below.mono (by assumption) (by first | exact Nat.le_refl _ | (simp; done) | (simp; omega) | omega))) | exact Below.refl _ _ | assumption))
        case ca7R1 => (first | (simp [Act.put]; done) | (simp [Act.put, *]; done))
        try dsimp only
        refine wpW_branch [8, 9] (by kernel_rfl) (by simp) ?_
        intro w1 hg1 hS1
        have hc1 := (bcell hg1).1
        have hf1 := (bcell hg1).2
        have hz1 := hg1.size
        try simp at hz1
        refine each_cons ?_ (each_cons ?_ (each_nil))
        · refine wpOp_go (by rfl) (Eq.refl _) (by go_simp; done) ?_
          intro K hK
          go_simp
          try simp only [Act.put]
          refine hK _ _ (by repeat (first | (with_reducible exact Below.refl _ _) | (with_reducible assumption) | ((with_reducible refine Below.setCell ?_ ?_ _); rotate_left; · (first | exact Nat.le_refl _ | (simp; done) | (simp; omega) | omega)) | ((with_reducible refine Below.alloc ?_ ?_ _); rotate_left; · (first | exact Nat.le_refl _ | (simp; done) | (simp; omega) | omega)) | (with_reducible apply Below.drew) | (with_reducible apply below_drewN') | (refine Below.trans ?_ (Below.mono (by assumption) (by first | exact Nat.le_refl _ | (simp; done) | (simp; omega) | omega))) | exact Below.refl _ _ | assumption)) ?_
          clear hK K
          refine wpW_branch [9] (by kernel_rfl) (by simp) ?_
          intro w2 hg2 hS2
          have hc2 := (bcell hg2).1
          have hf2 := (bcell hg2).2
          have hz2 := hg2.size
          try simp at hz2
          have hl1_2 : w1.heap.size ≤ w2.heap.size := by omega
          try have hm1_2 : w1.heap.size < w2.heap.size := by omega
          refine each_cons ?_ (each_nil)
          refine wpOp_go (by rfl) (Eq.refl _) (by go_simp; done) ?_
          intro K hK
          go_simp
          try simp only [Act.put]
          refine hK _ _ (by repeat (first | (with_reducible exact Below.refl _ _) | (with_reducible assumption) | ((with_reducible refine Below.setCell ?_ ?_ _); rotate_left; · (first | exact Nat.le_refl _ | (simp; done) | (simp; omega) | omega)) | ((with_reducible refine Below.alloc ?_ ?_ _); rotate_left; · (first | exact Nat.le_refl _ | (simp; done) | (simp; omega) | omega)) | (with_reducible apply Below.drew) | (with_reducible apply below_drewN') | (refine Below.trans ?_ (Below.mono (by assumption) (by first | exact Nat.le_refl _ | (simp; done) | (simp; omega) | omega))) | exact Below.refl _ _ | assumption)) ?_
          clear hK K
          refine wpW_branch [10] (by kernel_rfl) (by simp) ?_
          intro w3 hg3 hS3
          have hc3 := (bcell hg3).1
          have hf3 := (bcell hg3).2
          have hz3 := hg3.size
          try simp at hz3
          have hl1_3 : w1.heap.size ≤ w3.heap.size := by omega
          try have hm1_3 : w1.heap.size < w3.heap.size := by omega
          have hl2_3 : w2.heap.size ≤ w3.heap.size := by omega
          try have hm2_3 : w2.heap.size < w3.heap.size := by omega
          refine each_cons ?_ (each_nil)
          refine wpOp_go (by rfl) (Eq.refl _) (by go_simp; done) ?_
          intro K hK
          go_simp
          try simp only [Act.put]
          refine hK _ _ (by repeat (first | (with_reducible exact Below.refl _ _) | (with_reducible assumption) | ((with_reducible refine Below.setCell ?_ ?_ _); rotate_left; · (first | exact Nat.le_refl _ | (simp; done) | (simp; omega) | omega)) | ((with_reducible refine Below.alloc ?_ ?_ _); rotate_left; · (first | exact Nat.le_refl _ | (simp; done) | (simp; omega) | omega)) | (with_reducible apply Below.drew) | (with_reducible apply below_drewN') | (refine Below.trans ?_ (Below.mono (by assumption) (by first | exact Nat.le_refl _ | (simp; done) | (simp; omega) | omega))) | exact Below.refl _ _ | assumption)) ?_
          clear hK K
          refine wpW_branch [11] (by kernel_rfl) (by simp) ?_
          intro w4 hg4 hS4
          have hc4 := (bcell hg4).1
          have hf4 := (bcell hg4).2
          have hz4 := hg4.size
          try simp at hz4
          have hl1_4 : w1.heap.size ≤ w4.heap.size := by omega
          try have hm1_4 : w1.heap.size < w4.heap.size := by omega
          have hl2_4 : w2.heap.size ≤ w4.heap.size := by omega
          try have hm2_4 : w2.heap.size < w4.heap.size := by omega
          have hl3_4 : w3.heap.size ≤ w4.heap.size := by omega
          try have hm3_4 : w3.heap.size < w4.heap.size := by omega
          refine each_cons ?_ (each_nil)
          refine wpOp_go (by rfl) (Eq.refl _) (by go_simp; done) ?_
          intro K hK
          go_simp
          try simp only [Act.put]
          refine hK _ _ (by repeat (first | (with_reducible exact Below.refl _ _) | (with_reducible assumption) | ((with_reducible refine Below.setCell ?_ ?_ _); rotate_left; · (first | exact Nat.le_refl _ | (simp; done) | (simp; omega) | omega)) | ((with_reducible refine Below.alloc ?_ ?_ _); rotate_left; · (first | exact Nat.le_refl _ | (simp; done) | (simp; omega) | omega)) | (with_reducible apply Below.drew) | (with_reducible apply below_drewN') | (refine Below.trans ?_ (Below.mono (by assumption) (by first | exact Nat.le_refl _ | (simp; done) | (simp; omega) | omega))) | exact Below.refl _ _ | assumption)) ?_
          clear hK K
          refine wpW_end (by kernel_rfl) ?_
          intro w5 hg5 hS5
          have hc5 := (bcell hg5).1
          have hf5 := (bcell hg5).2
          have hz5 := hg5.size
          try simp at hz5
          have hl1_5 : w1.heap.size ≤ w5.heap.size := by omega
          try have hm1_5 : w1.heap.size < w5.heap.size := by omega
          have hl2_5 : w2.heap.size ≤ w5.heap.size := by omega
          try have hm2_5 : w2.heap.size < w5.heap.size := by omega
          have hl3_5 : w3.heap.size ≤ w5.heap.size := by omega
          try have hm3_5 : w3.heap.size < w5.heap.size := by omega
          have hl4_5 : w4.heap.size ≤ w5.heap.size := by omega
          try have hm4_5 : w4.heap.size < w5.heap.size := by omega
          unfold NQ
          dsimp only
          go_wp2_with fail
          go_meet
          first
            | (obtain ⟨g1, g2, g3, g4, g5⟩ := two_new hS1 hg2 hg3; obtain ⟨g6, g7⟩ := two_set g1 g2 g3 hg4 hg5; exact ⟨_, _, rfl, rfl, g6, g7, g3, g4, g5, hS5⟩)
            | (obtain ⟨g1, g2, g3, g4, g5⟩ := two_new hS1 hg2 hg3; obtain ⟨g6, g7⟩ := two_set g2 g1 (Ne.symm g3) hg4 hg5; exact ⟨_, _, rfl, rfl, g6, g7, Ne.symm g3, g5, g4, hS5⟩)
        · refine wpOp_go (by rfl) (Eq.refl _) (by go_simp; done) ?_
          intro K hK
          go_simp
          try simp only [Act.put]
          refine hK _ _ (by repeat (first | (with_reducible exact Below.refl _ _) | (with_reducible assumption) | ((with_reducible refine Below.setCell ?_ ?_ _); rotate_left; · (first | exact Nat.le_refl _ | (simp; done) | (simp; omega) | omega)) | ((with_reducible refine Below.alloc ?_ ?_ _); rotate_left; · (first | exact Nat.le_refl _ | (simp; done) | (simp; omega) | omega)) | (with_reducible apply Below.drew) | (with_reducible apply below_drewN') | (refine Below.trans ?_ (Below.mono (by assumption) (by first | exact Nat.le_refl _ | (simp; done) | (simp; omega) | omega))) | exact Below.refl _ _ | assumption)) ?_
          clear hK K
          refine wpW_branch [8] (by kernel_rfl) (by simp) ?_
          intro w2 hg2 hS2
          have hc2 := (bcell hg2).1
          have hf2 := (bcell hg2).2
          have hz2 := hg2.size
          try simp at hz2
          have hl1_2 : w1.heap.size ≤ w2.heap.size := by omega
          try have hm1_2 : w1.heap.size < w2.heap.size := by omega
          refine each_cons ?_ (each_nil)
          refine wpOp_go (by rfl) (Eq.refl _) (by go_simp; done) ?_
          intro K hK
          go_simp
          try simp only [Act.put]
          refine hK _ _ (by repeat (first | (with_reducible exact Below.refl _ _) | (with_reducible assumption) | ((with_reducible refine Below.setCell ?_ ?_ _); rotate_left; · (first | exact Nat.le_refl _ | (simp; done) | (simp; omega) | omega)) | ((with_reducible refine Below.alloc ?_ ?_ _); rotate_left; · (first | exact Nat.le_refl _ | (simp; done) | (simp; omega) | omega)) | (with_reducible apply Below.drew) | (with_reducible apply below_drewN') | (refine Below.trans ?_ (Below.mono (by assumption) (by first | exact Nat.le_refl _ | (simp; done) | (simp; omega) | omega))) | exact Below.refl _ _ | assumption)) ?_
          clear hK K
          refine wpW_branch [10] (by kernel_rfl) (by simp) ?_
          intro w3 hg3 hS3
          have hc3 := (bcell hg3).1
          have hf3 := (bcell hg3).2
          have hz3 := hg3.size
          try simp at hz3
          have hl1_3 : w1.heap.size ≤ w3.heap.size := by omega
          try have hm1_3 : w1.heap.size < w3.heap.size := by omega
          have hl2_3 : w2.heap.size ≤ w3.heap.size := by omega
          try have hm2_3 : w2.heap.size < w3.heap.size := by omega
          refine each_cons ?_ (each_nil)
          refine wpOp_go (by rfl) (Eq.refl _) (by go_simp; done) ?_
          intro K hK
          go_simp
          try simp only [Act.put]
          refine hK _ _ (by repeat (first | (with_reducible exact Below.refl _ _) | (with_reducible assumption) | ((with_reducible refine Below.setCell ?_ ?_ _); rotate_left; · (first | exact Nat.le_refl _ | (simp; done) | (simp; omega) | omega)) | ((with_reducible refine Below.alloc ?_ ?_ _); rotate_left; · (first | exact Nat.le_refl _ | (simp; done) | (simp; omega) | omega)) | (with_reducible apply Below.drew) | (with_reducible apply below_drewN') | (refine Below.trans ?_ (Below.mono (by assumption) (by first | exact Nat.le_refl _ | (simp; done) | (simp; omega) | omega))) | exact Below.refl _ _ | assumption)) ?_
          clear hK K
          refine wpW_branch [11] (by kernel_rfl) (by simp) ?_
          intro w4 hg4 hS4
          have hc4 := (bcell hg4).1
          have hf4 := (bcell hg4).2
          have hz4 := hg4.size
          try simp at hz4
          have hl1_4 : w1.heap.size ≤ w4.heap.size := by omega
          try have hm1_4 : w1.heap.size < w4.heap.size := by omega
          have hl2_4 : w2.heap.size ≤ w4.heap.size := by omega
          try have hm2_4 : w2.heap.size < w4.heap.size := by omega
          have hl3_4 : w3.heap.size ≤ w4.heap.size := by omega
          try have hm3_4 : w3.heap.size < w4.heap.size := by omega
          refine each_cons ?_ (each_nil)
          refine wpOp_go (by rfl) (Eq.refl _) (by go_simp; done) ?_
          intro K hK
          go_simp
          try simp only [Act.put]
          refine hK _ _ (by repeat (first | (with_reducible exact Below.refl _ _) | (with_reducible assumption) | ((with_reducible refine Below.setCell ?_ ?_ _); rotate_left; · (first | exact Nat.le_refl _ | (simp; done) | (simp; omega) | omega)) | ((with_reducible refine Below.alloc ?_ ?_ _); rotate_left; · (first | exact Nat.le_refl _ | (simp; done) | (simp; omega) | omega)) | (with_reducible apply Below.drew) | (with_reducible apply below_drewN') | (refine Below.trans ?_ (Below.mono (by assumption) (by first | exact Nat.le_refl _ | (simp; done) | (simp; omega) | omega))) | exact Below.refl _ _ | assumption)) ?_
          clear hK K
          refine wpW_end (by kernel_rfl) ?_
          intro w5 hg5 hS5
          have hc5 := (bcell hg5).1
          have hf5 := (bcell hg5).2
          have hz5 := hg5.size
          try simp at hz5
          have hl1_5 : w1.heap.size ≤ w5.heap.size := by omega
          try have hm1_5 : w1.heap.size < w5.heap.size := by omega
          have hl2_5 : w2.heap.size ≤ w5.heap.size := by omega
          try have hm2_5 : w2.heap.size < w5.heap.size := by omega
          have hl3_5 : w3.heap.size ≤ w5.heap.size := by omega
          try have hm3_5 : w3.heap.size < w5.heap.size := by omega
          have hl4_5 : w4.heap.size ≤ w5.heap.size := by omega
          try have hm4_5 : w4.heap.size < w5.heap.size := by omega
          unfold NQ
          dsimp only
          go_wp2_with fail
          go_meet
          first
            | (obtain ⟨g1, g2, g3, g4, g5⟩ := two_new hS1 hg2 hg3; obtain ⟨g6, g7⟩ := two_set g1 g2 g3 hg4 hg5; exact ⟨_, _, rfl, rfl, g6, g7, g3, g4, g5, hS5⟩)
            | (obtain ⟨g1, g2, g3, g4, g5⟩ := two_new hS1 hg2 hg3; obtain ⟨g6, g7⟩ := two_set g2 g1 (Ne.symm g3) hg4 hg5; exact ⟨_, _, rfl, rfl, g6, g7, Ne.symm g3, g5, g4, hS5⟩)
      case rest =>
        obtain ⟨r, o, rfl, rfl, hr, ho, hro, hrb, hob, hB⟩ := hcut
        have c5 := b5.below hB l5
        have c6 := b6.below hB l6
        have hBw2 : Below w.heap.size w wc := Below.trans hBw (hB.mono (Below.size hBw))
        have hE2 := hE.below hBw2
        clear hp hq b5 b6 hBw hE p0 p1 q0 q1 s1 lp lq l5 l6 hB
        have g0 := hE2.b0; have g1 := hE2.b1; have g2 := hE2.e0; have g3 := hE2.e1
        have r0 : wc.cell? ⟨r, 0, none⟩ = some (.int .i64 (f.tx - f.fx)) := hr.cell 0
        have r1 : wc.cell? ⟨r, 1, none⟩ = some (.int .i64 (bz - az)) := hr.cell 1
        have o0 : wc.cell? ⟨o, 0, none⟩ = some (.int .i64 (f.fx - s.at_)) := ho.cell 0
        have o1 : wc.cell? ⟨o, 1, none⟩ = some (.int .i64 az) := ho.cell 1
        have lr := hr.lt; have lo := ho.lt; have l5 := c5.lt; have l6 := c6.lt
        have c6' : Blk wc (w.heap.size + 1 + 1) 89 (ptP ⟨0, 0, 0, 0, false, false⟩) := c6
        obtain ⟨x0, x1, x2, x3, x4, x5, f6⟩ := blk6 c6'
        generalize hwx : f.tx - f.fx = wv at *
        generalize hdx : f.fx - s.at_ = dx at *
        generalize hwz : bz - az = wz at *
        go_upto_if 52 with (first | (go_at_call 63; refine (cross_any _ _ _ _ (by omega) (by omega) (by omega) (by omega) _).mono ?_; rintro e w1 ⟨rfl, hB1⟩; obtain ⟨hc1, hf1⟩ := bcell hB1; have hz1 := hB1.size; (try simp at hz1)) | fail)
        have hV : metV thick f s = metW wv wz dx az s := by
          rw [← hwx, ← hwz, ← hdx, ← AZ.out, ← BZ.out]; unfold metV deepV; split <;> rfl
        by_cases hk : wv * az - wz * dx = 0
        · have hk' : (wv * az - wz * dx == 0) = true := by simpa using hk
          have hW : metW wv wz dx az s = ⟨0, 1, 1, 1, true, false⟩ := if_pos hk
          go_wp2_with fail
          have e6 : Blk w1 (w.heap.size + 1 + 1) 89 (ptP ⟨0, 0, 0, 0, false, false⟩) := Blk.below (c6'.alloc _) hB1 (by simp; omega)
          have e7 := Blk.set6 (e6.far (p := ⟨wc.heap.size, 4, none⟩) (by simp; omega) (Value.bool true)) (.int .i64 0) (.int .i64 1) (.int .i64 1) (.int .i64 1) (.bool true) (.bool false)
          obtain ⟨y0, y1, y2, y3, y4, y5, _⟩ := blk6 e7
          refine bodyPost_ret (v := .agg (ptP ⟨0, 1, 1, 1, true, false⟩)) (by simp [results, Tryz.results37, go_sem, y0, y1, y2, y3, y4, y5, ptP, ptC]) rfl ⟨congrArg (fun p => Ending.returned (.agg (ptP p))) (hV.trans hW).symm, ?bel⟩
          case bel => exact Below.set6 (Below.setCell (Below.trans (Below.alloc hBw2 (Below.size hBw2) _) (Below.mono hB1 (by have := Below.size hBw2; simp; omega))) (by have := Below.size hBw2; simp; omega) _) (by omega)
        · have hk' : (wv * az - wz * dx == 0) = false := by simpa using hk
          have bwv : -60000 ≤ wv ∧ wv ≤ 60000 := by omega
          have bwz : -60000 ≤ wz ∧ wz ≤ 60000 := by omega
          have bdx : -60000 ≤ dx ∧ dx ≤ 60000 := by omega
          have HWX := Lib.hid hwx; have HDX := Lib.hid hdx; have HWZ := Lib.hid hwz; have HV := Lib.hid hV; clear hwx hdx hwz hV
          have d5 : Blk w1 (w.heap.size + 1) 34 (suC sn s) := Blk.below (c5.alloc _) hB1 (by simp; omega)
          have d6 : Blk w1 (w.heap.size + 1 + 1) 89 (ptP ⟨0, 0, 0, 0, false, false⟩) := Blk.below (c6'.alloc _) hB1 (by simp; omega)
          have dr := Blk.below (hr.alloc (.cells #[.int .i64 0, .int .i64 1, .int .i64 1, .int .i64 1, .bool false, .bool false] 89)) hB1 (by simp; omega)
          have do_ := Blk.below (ho.alloc (.cells #[.int .i64 0, .int .i64 1, .int .i64 1, .int .i64 1, .bool false, .bool false] 89)) hB1 (by simp; omega)
          have d7 : Blk w1 wc.heap.size 89 (ptP ⟨0, 1, 1, 1, false, false⟩) := Blk.below (Blk.new wc _ _) hB1 (by simp)
          have dB : Below w.heap.size w w1 := Below.trans (Below.alloc hBw2 (Below.size hBw2) _) (Below.mono hB1 (by have := Below.size hBw2; simp; omega))
          go_upto_region 11 with fail
          have e5 := d5.far (p := ⟨wc.heap.size, 5, none⟩) (by simp; omega) (.bool (decide (wz * dx < wv * az)))
          have e6 := d6.far (p := ⟨wc.heap.size, 5, none⟩) (by simp; omega) (.bool (decide (wz * dx < wv * az)))
          have er := dr.far (p := ⟨wc.heap.size, 5, none⟩) (by simp; omega) (.bool (decide (wz * dx < wv * az)))
          have eo := do_.far (p := ⟨wc.heap.size, 5, none⟩) (by simp; omega) (.bool (decide (wz * dx < wv * az)))
          have e7 : Blk (w1.setCell ⟨wc.heap.size, 5, none⟩ (.bool (decide (wz * dx < wv * az)))) wc.heap.size 89 (ptP ⟨0, 1, 1, 1, false, decide (wz * dx < wv * az)⟩) := d7.set_ 5 _
          have eB : Below w.heap.size w (w1.setCell ⟨wc.heap.size, 5, none⟩ (.bool (decide (wz * dx < wv * az)))) := dB.setCell (by simp; omega) _
          have l7 : w.heap.size + 2 < wc.heap.size := by omega
          generalize hG : wc.heap.size = G at *
          clear hG
          generalize w1.setCell ⟨G, 5, none⟩ (.bool (decide (wz * dx < wv * az))) = W at *
          clear hB1 hc1 hf1 hz1 d5 d6 dr do_ d7 dB c5 c6 c6' hBw2 hE2 g0 g1 g2 g3 o0 o1 r0 r1 hr ho x0 x1 x2 x3 x4 x5 f6 hk'
          have lr' : r < G := lr
          have lo' : o < G := lo
          have lG := e7.lt
          have m5 : w.heap.size + 1 < W.heap.size := e5.lt
          have mr : r < W.heap.size := er.lt
          have mo : o < W.heap.size := eo.lt
          have t2 : W.cell? ⟨w.heap.size + 1, 2, none⟩ = some (.int .i64 s.side) := e5.cell 2
          have r0 : W.cell? ⟨r, 0, none⟩ = some (.int .i64 wv) := er.cell 0
          have r1 : W.cell? ⟨r, 1, none⟩ = some (.int .i64 wz) := er.cell 1
          have o0 : W.cell? ⟨o, 0, none⟩ = some (.int .i64 dx) := eo.cell 0
          have o1 : W.cell? ⟨o, 1, none⟩ = some (.int .i64 az) := eo.cell 1
          have hsd := L.side
          have v1 := mul_bd s.side dx 1 60000 (by omega) bdx
          have v2 := mul_bd s.side wv 1 60000 (by omega) bwv
          have v3 : IntKind.i64.wrap (s.side * dx) = s.side * dx := IntWalk.i64_in _ (by omega)
          have v4 : IntKind.i64.wrap (s.side * wv) = s.side * wv := IntWalk.i64_in _ (by omega)
          go_cut [13, 14] (fun s13 s14 wx => ∃ x y : Nat, s13 = .pointer (some ⟨x, 0, none⟩) ∧ s14 = .pointer (some ⟨y, 0, none⟩) ∧ Blk wx x 131 #[.int .i64 (s.side * dx), .int .i64 (s.side * wv)] ∧ Blk wx y 131 #[.int .i64 az, .int .i64 wz] ∧ x ≠ y ∧ W.heap.size ≤ x ∧ W.heap.size ≤ y ∧
            Below W.heap.size W wx)
          case first =>
            refine wp_region_w (Gr _) (by kernel_rfl) (Below.refl _ _).drew ?_
            refine wpW_det (t' := ?ct0R2) 0 (by rfl) (by kernel_rfl) (NQ_free _) (by kernel_rfl) ?cw0R2 ?ch0R2 ?ca0R2 (Eq.refl _) ?cH0R2
            case cw0R2 => (go_simp; done)
            case ch0R2 =>
              intro ds w' hS K hK
              have hc := (bcell hS).1
              have hf := (bcell hS).2
              have hz := hS.size
              try simp at hz
              go_simp
              try go_bits
              first
                | exact hK _ hS (Gr.refl _)
                | fail
                | exact hK _ (by repeat (first | (with_reducible exact Below.refl _ _) | (with_reducible assumption) | ((with_reducible refine Below.setCell ?_ ?_ _); rotate_left; · (first | exact Nat.le_refl _ | (simp; done) | (simp; omega) | omega)) | ((with_reducible refine Below.alloc ?_ ?_ _); rotate_left; · (first | exact Nat.le_refl _ | (simp; done) | (simp; omega) | omega)) | (with_reducible apply Below.drew) | (with_reducible apply below_drewN') | (refine Below.trans ?_ (Below.mono (by assumption) (by first | exact Nat.le_refl _ | (simp; done) | (simp; omega) | omega))) | exact Below.refl _ _ | assumption)) (by repeat (first | (with_reducible exact Below.refl _ _) | (with_reducible assumption) | ((with_reducible refine Below.setCell ?_ ?_ _); rotate_left; · (first | exact Nat.le_refl _ | (simp; done) | (simp; omega) | omega)) | ((with_reducible refine Below.alloc ?_ ?_ _); rotate_left; · (first | exact Nat.le_refl _ | (simp; done) | (simp; omega) | omega)) | (with_reducible apply Below.drew) | (with_reducible apply below_drewN') | (refine Below.trans ?_ (Below.mono (by assumption) (by first | exact Nat.le_refl _ | (simp; done) | (simp; omega) | omega))) | exact Below.refl _ _ | assumption))
            case ca0R2 => (first | (simp [Act.put]; done) | (simp [Act.put, *]; done))
            try dsimp only
            refine wpW_det (t' := ?ct1R2) 1 (by rfl) (by kernel_rfl) (NQ_free _) (by kernel_rfl) ?cw1R2 ?ch1R2 ?ca1R2 (Eq.refl _) ?cH1R2
            case cw1R2 => (go_simp; done)
            case ch1R2 =>
              intro ds w' hS K hK
              have hc := (bcell hS).1
              have hf := (bcell hS).2
              have hz := hS.size
              try simp at hz
              go_simp
              try go_bits
              first
                | exact hK _ hS (Gr.refl _)
                | fail
                | exact hK _ (by repeat (first | (with_reducible exact Below.refl _ _) | (with_reducible assumption) | ((with_reducible refine Below.setCell ?_ ?_ _); rotate_left; · (first | exact Nat.le_refl _ | (simp; done) | (simp; omega) | omega)) | ((with_reducible refine Below.alloc ?_ ?_ _); rotate_left; · (first | exact Nat.le_refl _ | (simp; done) | (simp; omega) | omega)) | (with_reducible apply Below.drew) | (with_reducible apply below_drewN') | (refine Below.trans ?_ (Below.mono (by assumption) (by first | exact Nat.le_refl _ | (simp; done) | (simp; omega) | omega))) | exact Below.refl _ _ | assumption)) (by repeat (first | (with_reducible exact Below.refl _ _) | (with_reducible assumption) | ((with_reducible refine Below.setCell ?_ ?_ _); rotate_left; · (first | exact Nat.le_refl _ | (simp; done) | (simp; omega) | omega)) | ((with_reducible refine Below.alloc ?_ ?_ _); rotate_left; · (first | exact Nat.le_refl _ | (simp; done) | (simp; omega) | omega)) | (with_reducible apply Below.drew) | (with_reducible apply below_drewN') | (refine Below.trans ?_ (Below.mono (by assumption) (by first | exact Nat.le_refl _ | (simp; done) | (simp; omega) | omega))) | exact Below.refl _ _ | assumption))
            case ca1R2 => (first | (simp [Act.put]; done) | (simp [Act.put, *]; done))
            try dsimp only
            refine wpW_det (t' := ?ct2R2) 2 (by rfl) (by kernel_rfl) (NQ_free _) (by kernel_rfl) ?cw2R2 ?ch2R2 ?ca2R2 (Eq.refl _) ?cH2R2
            case cw2R2 => (go_simp; done)
            case ch2R2 =>
              intro ds w' hS K hK
              have hc := (bcell hS).1
              have hf := (bcell hS).2
              have hz := hS.size
              try simp at hz
              go_simp
              try go_bits
              first
                | exact hK _ hS (Gr.refl _)
                | fail
                | exact hK _ (by repeat (first | (with_reducible exact Below.refl _ _) | (with_reducible assumption) | ((with_reducible refine Below.setCell ?_ ?_ _); rotate_left; · (first | exact Nat.le_refl _ | (simp; done) | (simp; omega) | omega)) | ((with_reducible refine Below.alloc ?_ ?_ _); rotate_left; · (first | exact Nat.le_refl _ | (simp; done) | (simp; omega) | omega)) | (with_reducible apply Below.drew) | (with_reducible apply below_drewN') | (refine Below.trans ?_ (Below.mono (by assumption) (by first | exact Nat.le_refl _ | (simp; done) | (simp; omega) | omega))) | exact Below.refl _ _ | assumption)) (by repeat (first | (with_reducible exact Below.refl _ _) | (with_reducible assumption) | ((with_reducible refine Below.setCell ?_ ?_ _); rotate_left; · (first | exact Nat.le_refl _ | (simp; done) | (simp; omega) | omega)) | ((with_reducible refine Below.alloc ?_ ?_ _); rotate_left; · (first | exact Nat.le_refl _ | (simp; done) | (simp; omega) | omega)) | (with_reducible apply Below.drew) | (with_reducible apply below_drewN') | (refine Below.trans ?_ (Below.mono (by assumption) (by first | exact Nat.le_refl _ | (simp; done) | (simp; omega) | omega))) | exact Below.refl _ _ | assumption))
            case ca2R2 => (first | (simp [Act.put]; done) | (simp [Act.put, *]; done))
            try dsimp only
            refine wpW_det (t' := ?ct3R2) 3 (by rfl) (by kernel_rfl) (NQ_free _) (by kernel_rfl) ?cw3R2 ?ch3R2 ?ca3R2 (Eq.refl _) ?cH3R2
            case cw3R2 => (go_simp; done)
            case ch3R2 =>
              intro ds w' hS K hK
              have hc := (bcell hS).1
              have hf := (bcell hS).2
              have hz := hS.size
              try simp at hz
              go_simp
              try go_bits
              first
                | exact hK _ hS (Gr.refl _)
                | fail
                | exact hK _ (by repeat (first | (with_reducible exact Below.refl _ _) | (with_reducible assumption) | ((with_reducible refine Below.setCell ?_ ?_ _); rotate_left; · (first | exact Nat.le_refl _ | (simp; done) | (simp; omega) | omega)) | ((with_reducible refine Below.alloc ?_ ?_ _); rotate_left; · (first | exact Nat.le_refl _ | (simp; done) | (simp; omega) | omega)) | (with_reducible apply Below.drew) | (with_reducible apply below_drewN') | (refine Below.trans ?_ (Below.mono (by assumption) (by first | exact Nat.le_refl _ | (simp; done) | (simp; omega) | omega))) | exact Below.refl _ _ | assumption)) (by repeat (first | (with_reducible exact Below.refl _ _) | (with_reducible assumption) | ((with_reducible refine Below.setCell ?_ ?_ _); rotate_left; · (first | exact Nat.le_refl _ | (simp; done) | (simp; omega) | omega)) | ((with_reducible refine Below.alloc ?_ ?_ _); rotate_left; · (first | exact Nat.le_refl _ | (simp; done) | (simp; omega) | omega)) | (with_reducible apply Below.drew) | (with_reducible apply below_drewN') | (refine Below.trans ?_ (Below.mono (by assumption) (by first | exact Nat.le_refl _ | (simp; done) | (simp; omega) | omega))) | exact Below.refl _ _ | assumption))
            case ca3R2 => (first | (simp [Act.put]; done) | (simp [Act.put, *]; done))
            try dsimp only
            refine wpW_det (t' := ?ct4R2) 4 (by rfl) (by kernel_rfl) (NQ_free _) (by kernel_rfl) ?cw4R2 ?ch4R2 ?ca4R2 (Eq.refl _) ?cH4R2
            case cw4R2 => (go_simp; done)
            case ch4R2 =>
              intro ds w' hS K hK
              have hc := (bcell hS).1
              have hf := (bcell hS).2
              have hz := hS.size
              try simp at hz
              go_simp
              try go_bits
              first
                | exact hK _ hS (Gr.refl _)
                | fail
                | exact hK _ (by repeat (first | (with_reducible exact Below.refl _ _) | (with_reducible assumption) | ((with_reducible refine Below.setCell ?_ ?_ _); rotate_left; · (first | exact Nat.le_refl _ | (simp; done) | (simp; omega) | omega)) | ((with_reducible refine Below.alloc ?_ ?_ _); rotate_left; · (first | exact Nat.le_refl _ | (simp; done) | (simp; omega) | omega)) | (with_reducible apply Below.drew) | (with_reducible apply below_drewN') | (refine Below.trans ?_ (Below.mono (by assumption) (by first | exact Nat.le_refl _ | (simp; done) | (simp; omega) | omega))) | exact Below.refl _ _ | assumption)) (by repeat (first | (with_reducible exact Below.refl _ _) | (with_reducible assumption) | ((with_reducible refine Below.setCell ?_ ?_ _); rotate_left; · (first | exact Nat.le_refl _ | (simp; done) | (simp; omega) | omega)) | ((with_reducible refine Below.alloc ?_ ?_ _); rotate_left; · (first | exact Nat.le_refl _ | (simp; done) | (simp; omega) | omega)) | (with_reducible apply Below.drew) | (with_reducible apply below_drewN') | (refine Below.trans ?_ (Below.mono (by assumption) (by first | exact Nat.le_refl _ | (simp; done) | (simp; omega) | omega))) | exact Below.refl _ _ | assumption))
            case ca4R2 => (first | (simp [Act.put]; done) | (simp [Act.put, *]; done))
            try dsimp only
            refine wpW_det (t' := ?ct5R2) 5 (by rfl) (by kernel_rfl) (NQ_free _) (by kernel_rfl) ?cw5R2 ?ch5R2 ?ca5R2 (Eq.refl _) ?cH5R2
            case cw5R2 => (go_simp; done)
            case ch5R2 =>
              intro ds w' hS K hK
              have hc := (bcell hS).1
              have hf := (bcell hS).2
              have hz := hS.size
              try simp at hz
              go_simp
              try go_bits
              first
                | exact hK _ hS (Gr.refl _)
                | fail
                | exact hK _ (by repeat (first | (with_reducible exact Below.refl _ _) | (with_reducible assumption) | ((with_reducible refine Below.setCell ?_ ?_ _); rotate_left; · (first | exact Nat.le_refl _ | (simp; done) | (simp; omega) | omega)) | ((with_reducible refine Below.alloc ?_ ?_ _); rotate_left; · (first | exact Nat.le_refl _ | (simp; done) | (simp; omega) | omega)) | (with_reducible apply Below.drew) | (with_reducible apply below_drewN') | (refine Below.trans ?_ (Below.mono (by assumption) (by first | exact Nat.le_refl _ | (simp; done) | (simp; omega) | omega))) | exact Below.refl _ _ | assumption)) (by repeat (first | (with_reducible exact Below.refl _ _) | (with_reducible assumption) | ((with_reducible refine Below.setCell ?_ ?_ _); rotate_left; · (first | exact Nat.le_refl _ | (simp; done) | (simp; omega) | omega)) | ((with_reducible refine Below.alloc ?_ ?_ _); rotate_left; · (first | exact Nat.le_refl _ | (simp; done) | (simp; omega) | omega)) | (with_reducible apply Below.drew) | (with_reducible apply below_drewN') | (refine Below.trans ?_ (Below.mono (by assumption) (by first | exact Nat.le_refl _ | (simp; done) | (simp; omega) | omega))) | exact Below.refl _ _ | assumption))
            case ca5R2 => (first | (simp [Act.put]; done) | (simp [Act.put, *]; done))
            try dsimp only
            refine wpW_det (t' := ?ct6R2) 6 (by rfl) (by kernel_rfl) (NQ_free _) (by kernel_rfl) ?cw6R2 ?ch6R2 ?ca6R2 (Eq.refl _) ?cH6R2
            case cw6R2 => (go_simp; done)
            case ch6R2 =>
              intro ds w' hS K hK
              have hc := (bcell hS).1
              have hf := (bcell hS).2
              have hz := hS.size
              try simp at hz
              go_simp
              try go_bits
              first
                | exact hK _ hS (Gr.refl _)
                | fail
                | exact hK _ (by repeat (first | (with_reducible exact Below.refl _ _) | (with_reducible assumption) | ((with_reducible refine Below.setCell ?_ ?_ _); rotate_left; · (first | exact Nat.le_refl _ | (simp; done) | (simp; omega) | omega)) | ((with_reducible refine Below.alloc ?_ ?_ _); rotate_left; · (first | exact Nat.le_refl _ | (simp; done) | (simp; omega) | omega)) | (with_reducible apply Below.drew) | (with_reducible apply below_drewN') | (refine Below.trans ?_ (Below.mono (by assumption) (by first | exact Nat.le_refl _ | (simp; done) | (simp; omega) | omega))) | exact Below.refl _ _ | assumption)) (by repeat (first | (with_reducible exact Below.refl _ _) | (with_reducible assumption) | ((with_reducible refine Below.setCell ?_ ?_ _); rotate_left; · (first | exact Nat.le_refl _ | (simp; done) | (simp; omega) | omega)) | ((with_reducible refine Below.alloc ?_ ?_ _); rotate_left; · (first | exact Nat.le_refl _ | (simp; done) | (simp; omega) | omega)) | (with_reducible apply Below.drew) | (with_reducible apply below_drewN') | (refine Below.trans ?_ (Below.mono (by assumption) (by first | exact Nat.le_refl _ | (simp; done) | (simp; omega) | omega))) | exact Below.refl _ _ | assumption))
            case ca6R2 => (first | (simp [Act.put]; done) | (simp [Act.put, *]; done))
            try dsimp only
            refine wpW_det (t' := ?ct7R2) 7 (by rfl) (by kernel_rfl) (NQ_free _) (by kernel_rfl) ?cw7R2 ?ch7R2 ?ca7R2 (Eq.refl _) ?cH7R2
            case cw7R2 => (go_simp; done)
            case ch7R2 =>
              intro ds w' hS K hK
              have hc := (bcell hS).1
              have hf := (bcell hS).2
              have hz := hS.size
              try simp at hz
              go_simp
              try go_bits
              first
                | exact hK _ hS (Gr.refl _)
                | fail
                | exact hK _ (by repeat (first | (with_reducible exact Below.refl _ _) | (with_reducible assumption) | ((with_reducible refine Below.setCell ?_ ?_ _); rotate_left; · (first | exact Nat.le_refl _ | (simp; done) | (simp; omega) | omega)) | ((with_reducible refine Below.alloc ?_ ?_ _); rotate_left; · (first | exact Nat.le_refl _ | (simp; done) | (simp; omega) | omega)) | (with_reducible apply Below.drew) | (with_reducible apply below_drewN') | (refine Below.trans ?_ (Below.mono (by assumption) (by first | exact Nat.le_refl _ | (simp; done) | (simp; omega) | omega))) | exact Below.refl _ _ | assumption)) (by repeat (first | (with_reducible exact Below.refl _ _) | (with_reducible assumption) | ((with_reducible refine Below.setCell ?_ ?_ _); rotate_left; · (first | exact Nat.le_refl _ | (simp; done) | (simp; omega) | omega)) | ((with_reducible refine Below.alloc ?_ ?_ _); rotate_left; · (first | exact Nat.le_refl _ | (simp; done) | (simp; omega) | omega)) | (with_reducible apply Below.drew) | (with_reducible apply below_drewN') | (refine Below.trans ?_ (Below.mono (by assumption) (by first | exact Nat.le_refl _ | (simp; done) | (simp; omega) | omega))) | exact Below.refl _ _ | assumption))
            case ca7R2 => (first | (simp [Act.put]; done) | (simp [Act.put, *]; done))
            try dsimp only
            refine wpW_det (t' := ?ct8R2) 8 (by rfl) (by kernel_rfl) (NQ_free _) (by kernel_rfl) ?cw8R2 ?ch8R2 ?ca8R2 (Eq.refl _) ?cH8R2
            case cw8R2 => (go_simp; done)
            case ch8R2 =>
              intro ds w' hS K hK
              have hc := (bcell hS).1
              have hf := (bcell hS).2
              have hz := hS.size
              try simp at hz
              go_simp
              try go_bits
              first
                | exact hK _ hS (Gr.refl _)
                | fail
                | exact hK _ (by repeat (first | (with_reducible exact Below.refl _ _) | (with_reducible assumption) | ((with_reducible refine Below.setCell ?_ ?_ _); rotate_left; · (first | exact Nat.le_refl _ | (simp; done) | (simp; omega) | omega)) | ((with_reducible refine Below.alloc ?_ ?_ _); rotate_left; · (first | exact Nat.le_refl _ | (simp; done) | (simp; omega) | omega)) | (with_reducible apply Below.drew) | (with_reducible apply below_drewN') | (refine Below.trans ?_ (Below.mono (by assumption) (by first | exact Nat.le_refl _ | (simp; done) | (simp; omega) | omega))) | exact Below.refl _ _ | assumption)) (by repeat (first | (with_reducible exact Below.refl _ _) | (with_reducible assumption) | ((with_reducible refine Below.setCell ?_ ?_ _); rotate_left; · (first | exact Nat.le_refl _ | (simp; done) | (simp; omega) | omega)) | ((with_reducible refine Below.alloc ?_ ?_ _); rotate_left; · (first | exact Nat.le_refl _ | (simp; done) | (simp; omega) | omega)) | (with_reducible apply Below.drew) | (with_reducible apply below_drewN') | (refine Below.trans ?_ (Below.mono (by assumption) (by first | exact Nat.le_refl _ | (simp; done) | (simp; omega) | omega))) | exact Below.refl _ _ | assumption))
            case ca8R2 => (first | (simp [Act.put]; done) | (simp [Act.put, *]; done))
            try dsimp only
            refine wpW_det (t' := ?ct9R2) 9 (by rfl) (by kernel_rfl) (NQ_free _) (by kernel_rfl) ?cw9R2 ?ch9R2 ?ca9R2 (Eq.refl _) ?cH9R2
            case cw9R2 => (go_simp; done)
            case ch9R2 =>
              intro ds w' hS K hK
              have hc := (bcell hS).1
              have hf := (bcell hS).2
              have hz := hS.size
              try simp at hz
              go_simp
              try go_bits
              first
                | exact hK _ hS (Gr.refl _)
                | fail
                | exact hK _ (by repeat (first | (with_reducible exact Below.refl _ _) | (with_reducible assumption) | ((with_reducible refine Below.setCell ?_ ?_ _); rotate_left; · (first | exact Nat.le_refl _ | (simp; done) | (simp; omega) | omega)) | ((with_reducible refine Below.alloc ?_ ?_ _); rotate_left; · (first | exact Nat.le_refl _ | (simp; done) | (simp; omega) | omega)) | (with_reducible apply Below.drew) | (with_reducible apply below_drewN') | (refine Below.trans ?_ (Below.mono (by assumption) (by first | exact Nat.le_refl _ | (simp; done) | (simp; omega) | omega))) | exact Below.refl _ _ | assumption)) (by repeat (first | (with_reducible exact Below.refl _ _) | (with_reducible assumption) | ((with_reducible refine Below.setCell ?_ ?_ _); rotate_left; · (first | exact Nat.le_refl _ | (simp; done) | (simp; omega) | omega)) | ((with_reducible refine Below.alloc ?_ ?_ _); rotate_left; · (first | exact Nat.le_refl _ | (simp; done) | (simp; omega) | omega)) | (with_reducible apply Below.drew) | (with_reducible apply below_drewN') | (refine Below.trans ?_ (Below.mono (by assumption) (by first | exact Nat.le_refl _ | (simp; done) | (simp; omega) | omega))) | exact Below.refl _ _ | assumption))
            case ca9R2 => (first | (simp [Act.put]; done) | (simp [Act.put, *]; done))
            try dsimp only
            refine wpW_det (t' := ?ct10R2) 10 (by rfl) (by kernel_rfl) (NQ_free _) (by kernel_rfl) ?cw10R2 ?ch10R2 ?ca10R2 (Eq.refl _) ?cH10R2
            case cw10R2 => (go_simp; done)
            case ch10R2 =>
              intro ds w' hS K hK
              have hc := (bcell hS).1
              have hf := (bcell hS).2
              have hz := hS.size
              try simp at hz
              go_simp
              try go_bits
              first
                | exact hK _ hS (Gr.refl _)
                | fail
                | exact hK _ (by repeat (first | (with_reducible exact Below.refl _ _) | (with_reducible assumption) | ((with_reducible refine Below.setCell ?_ ?_ _); rotate_left; · (first | exact Nat.le_refl _ | (simp; done) | (simp; omega) | omega)) | ((with_reducible refine Below.alloc ?_ ?_ _); rotate_left; · (first | exact Nat.le_refl _ | (simp; done) | (simp; omega) | omega)) | (with_reducible apply Below.drew) | (with_reducible apply below_drewN') | (refine Below.trans ?_ (Below.mono (by assumption) (by first | exact Nat.le_refl _ | (simp; done) | (simp; omega) | omega))) | exact Below.refl _ _ | assumption)) (by repeat (first | (with_reducible exact Below.refl _ _) | (with_reducible assumption) | ((with_reducible refine Below.setCell ?_ ?_ _); rotate_left; · (first | exact Nat.le_refl _ | (simp; done) | (simp; omega) | omega)) | ((with_reducible refine Below.alloc ?_ ?_ _); rotate_left; · (first | exact Nat.le_refl _ | (simp; done) | (simp; omega) | omega)) | (with_reducible apply Below.drew) | (with_reducible apply below_drewN') | (refine Below.trans ?_ (Below.mono (by assumption) (by first | exact Nat.le_refl _ | (simp; done) | (simp; omega) | omega))) | exact Below.refl _ _ | assumption))
            case ca10R2 => (first | (simp [Act.put]; done) | (simp [Act.put, *]; done))
            try dsimp only
            refine wpW_det (t' := ?ct11R2) 11 (by rfl) (by kernel_rfl) (NQ_free _) (by kernel_rfl) ?cw11R2 ?ch11R2 ?ca11R2 (Eq.refl _) ?cH11R2
            case cw11R2 => (go_simp; done)
            case ch11R2 =>
              intro ds w' hS K hK
              have hc := (bcell hS).1
              have hf := (bcell hS).2
              have hz := hS.size
              try simp at hz
              go_simp
              try go_bits
              first
                | exact hK _ hS (Gr.refl _)
                | fail
                | exact hK _ (by repeat (first | (with_reducible exact Below.refl _ _) | (with_reducible assumption) | ((with_reducible refine Below.setCell ?_ ?_ _); rotate_left; · (first | exact Nat.le_refl _ | (simp; done) | (simp; omega) | omega)) | ((with_reducible refine Below.alloc ?_ ?_ _); rotate_left; · (first | exact Nat.le_refl _ | (simp; done) | (simp; omega) | omega)) | (with_reducible apply Below.drew) | (with_reducible apply below_drewN') | (refine Below.trans ?_ (Below.mono (by assumption) (by first | exact Nat.le_refl _ | (simp; done) | (simp; omega) | omega))) | exact Below.refl _ _ | assumption)) (by repeat (first | (with_reducible exact Below.refl _ _) | (with_reducible assumption) | ((with_reducible refine Below.setCell ?_ ?_ _); rotate_left; · (first | exact Nat.le_refl _ | (simp; done) | (simp; omega) | omega)) | ((with_reducible refine Below.alloc ?_ ?_ _); rotate_left; · (first | exact Nat.le_refl _ | (simp; done) | (simp; omega) | omega)) | (with_reducible apply Below.drew) | (with_reducible apply below_drewN') | (refine Below.trans ?_ (Below.mono (by assumption) (by first | exact Nat.le_refl _ | (simp; done) | (simp; omega) | omega))) | exact Below.refl _ _ | assumption))
            case ca11R2 => (first | (simp [Act.put]; done) | (simp [Act.put, *]; done))
            try dsimp only
            refine wpW_det (t' := ?ct12R2) 12 (by rfl) (by kernel_rfl) (NQ_free _) (by kernel_rfl) ?cw12R2 ?ch12R2 ?ca12R2 (Eq.refl _) ?cH12R2
            case cw12R2 => (go_simp; done)
            case ch12R2 =>
              intro ds w' hS K hK
              have hc := (bcell hS).1
              have hf := (bcell hS).2
              have hz := hS.size
              try simp at hz
              go_simp
              try go_bits
              first
                | exact hK _ hS (Gr.refl _)
                | fail
                | exact hK _ (by repeat (first | (with_reducible exact Below.refl _ _) | (with_reducible assumption) | ((with_reducible refine Below.setCell ?_ ?_ _); rotate_left; · (first | exact Nat.le_refl _ | (simp; done) | (simp; omega) | omega)) | ((with_reducible refine Below.alloc ?_ ?_ _); rotate_left; · (first | exact Nat.le_refl _ | (simp; done) | (simp; omega) | omega)) | (with_reducible apply Below.drew) | (with_reducible apply below_drewN') | (refine Below.trans ?_ (Below.mono (by assumption) (by first | exact Nat.le_refl _ | (simp; done) | (simp; omega) | omega))) | exact Below.refl _ _ | assumption)) (by repeat (first | (with_reducible exact Below.refl _ _) | (with_reducible assumption) | ((with_reducible refine Below.setCell ?_ ?_ _); rotate_left; · (first | exact Nat.le_refl _ | (simp; done) | (simp; omega) | omega)) | ((with_reducible refine Below.alloc ?_ ?_ _); rotate_left; · (first | exact Nat.le_refl _ | (simp; done) | (simp; omega) | omega)) | (with_reducible apply Below.drew) | (with_reducible apply below_drewN') | (refine Below.trans ?_ (Below.mono (by assumption) (by first | exact Nat.le_refl _ | (simp; done) | (simp; omega) | omega))) | exact Below.refl _ _ | assumption))
            case ca12R2 => (first | (simp [Act.put]; done) | (simp [Act.put, *]; done))
            try dsimp only
            refine wpW_det (t' := ?ct13R2) 13 (by rfl) (by kernel_rfl) (NQ_free _) (by kernel_rfl) ?cw13R2 ?ch13R2 ?ca13R2 (Eq.refl _) ?cH13R2
            case cw13R2 => (go_simp; done)
            case ch13R2 =>
              intro ds w' hS K hK
              have hc := (bcell hS).1
              have hf := (bcell hS).2
              have hz := hS.size
              try simp at hz
              go_simp
              try go_bits
              first
                | exact hK _ hS (Gr.refl _)
                | fail
                | exact hK _ (by repeat (first | (with_reducible exact Below.refl _ _) | (with_reducible assumption) | ((with_reducible refine Below.setCell ?_ ?_ _); rotate_left; · (first | exact Nat.le_refl _ | (simp; done) | (simp; omega) | omega)) | ((with_reducible refine Below.alloc ?_ ?_ _); rotate_left; · (first | exact Nat.le_refl _ | (simp; done) | (simp; omega) | omega)) | (with_reducible apply Below.drew) | (with_reducible apply below_drewN') | (refine Below.trans ?_ (Below.mono (by assumption) (by first | exact Nat.le_refl _ | (simp; done) | (simp; omega) | omega))) | exact Below.refl _ _ | assumption)) (by repeat (first | (with_reducible exact Below.refl _ _) | (with_reducible assumption) | ((with_reducible refine Below.setCell ?_ ?_ _); rotate_left; · (first | exact Nat.le_refl _ | (simp; done) | (simp; omega) | omega)) | ((with_reducible refine Below.alloc ?_ ?_ _); rotate_left; · (first | exact Nat.le_refl _ | (simp; done) | (simp; omega) | omega)) | (with_reducible apply Below.drew) | (with_reducible apply below_drewN') | (refine Below.trans ?_ (Below.mono (by assumption) (by first | exact Nat.le_refl _ | (simp; done) | (simp; omega) | omega))) | exact Below.refl _ _ | assumption))
            case ca13R2 => (first | (simp [Act.put]; done) | (simp [Act.put, *]; done))
            try dsimp only
            refine wpW_det (t' := ?ct14R2) 14 (by rfl) (by kernel_rfl) (NQ_free _) (by kernel_rfl) ?cw14R2 ?ch14R2 ?ca14R2 (Eq.refl _) ?cH14R2
            case cw14R2 => (go_simp; done)
            case ch14R2 =>
              intro ds w' hS K hK
              have hc := (bcell hS).1
              have hf := (bcell hS).2
              have hz := hS.size
              try simp at hz
              go_simp
              try go_bits
              first
                | exact hK _ hS (Gr.refl _)
                | fail
                | exact hK _ (by repeat (first | (with_reducible exact Below.refl _ _) | (with_reducible assumption) | ((with_reducible refine Below.setCell ?_ ?_ _); rotate_left; · (first | exact Nat.le_refl _ | (simp; done) | (simp; omega) | omega)) | ((with_reducible refine Below.alloc ?_ ?_ _); rotate_left; · (first | exact Nat.le_refl _ | (simp; done) | (simp; omega) | omega)) | (with_reducible apply Below.drew) | (with_reducible apply below_drewN') | (refine Below.trans ?_ (Below.mono (by assumption) (by first | exact Nat.le_refl _ | (simp; done) | (simp; omega) | omega))) | exact Below.refl _ _ | assumption)) (by repeat (first | (with_reducible exact Below.refl _ _) | (with_reducible assumption) | ((with_reducible refine Below.setCell ?_ ?_ _); rotate_left; · (first | exact Nat.le_refl _ | (simp; done) | (simp; omega) | omega)) | ((with_reducible refine Below.alloc ?_ ?_ _); rotate_left; · (first | exact Nat.le_refl _ | (simp; done) | (simp; omega) | omega)) | (with_reducible apply Below.drew) | (with_reducible apply below_drewN') | (refine Below.trans ?_ (Below.mono (by assumption) (by first | exact Nat.le_refl _ | (simp; done) | (simp; omega) | omega))) | exact Below.refl _ _ | assumption))
            case ca14R2 => (first | (simp [Act.put]; done) | (simp [Act.put, *]; done))
            try dsimp only
            refine wpW_det (t' := ?ct15R2) 15 (by rfl) (by kernel_rfl) (NQ_free _) (by kernel_rfl) ?cw15R2 ?ch15R2 ?ca15R2 (Eq.refl _) ?cH15R2
            case cw15R2 => (go_simp; done)
            case ch15R2 =>
              intro ds w' hS K hK
              have hc := (bcell hS).1
              have hf := (bcell hS).2
              have hz := hS.size
              try simp at hz
              go_simp
              try go_bits
              first
                | exact hK _ hS (Gr.refl _)
                | fail
                | exact hK _ (by repeat (first | (with_reducible exact Below.refl _ _) | (with_reducible assumption) | ((with_reducible refine Below.setCell ?_ ?_ _); rotate_left; · (first | exact Nat.le_refl _ | (simp; done) | (simp; omega) | omega)) | ((with_reducible refine Below.alloc ?_ ?_ _); rotate_left; · (first | exact Nat.le_refl _ | (simp; done) | (simp; omega) | omega)) | (with_reducible apply Below.drew) | (with_reducible apply below_drewN') | (refine Below.trans ?_ (Below.mono (by assumption) (by first | exact Nat.le_refl _ | (simp; done) | (simp; omega) | omega))) | exact Below.refl _ _ | assumption)) (by repeat (first | (with_reducible exact Below.refl _ _) | (with_reducible assumption) | ((with_reducible refine Below.setCell ?_ ?_ _); rotate_left; · (first | exact Nat.le_refl _ | (simp; done) | (simp; omega) | omega)) | ((with_reducible refine Below.alloc ?_ ?_ _); rotate_left; · (first | exact Nat.le_refl _ | (simp; done) | (simp; omega) | omega)) | (with_reducible apply Below.drew) | (with_reducible apply below_drewN') | (refine Below.trans ?_ (Below.mono (by assumption) (by first | exact Nat.le_refl _ | (simp; done) | (simp; omega) | omega))) | exact Below.refl _ _ | assumption))
            case ca15R2 => (first | (simp [Act.put]; done) | (simp [Act.put, *]; done))
            try dsimp only
            refine wpW_branch [16, 17] (by kernel_rfl) (by simp) ?_
            intro w1 hg1 hS1
            have hc1 := (bcell hg1).1
            have hf1 := (bcell hg1).2
            have hz1 := hg1.size
            try simp at hz1
            refine each_cons ?_ (each_cons ?_ (each_nil))
            · refine wpOp_go (by rfl) (Eq.refl _) (by go_simp; done) ?_
              intro K hK
              go_simp
              try simp only [Act.put]
              refine hK _ _ (by repeat (first | (with_reducible exact Below.refl _ _) | (with_reducible assumption) | ((with_reducible refine Below.setCell ?_ ?_ _); rotate_left; · (first | exact Nat.le_refl _ | (simp; done) | (simp; omega) | omega)) | ((with_reducible refine Below.alloc ?_ ?_ _); rotate_left; · (first | exact Nat.le_refl _ | (simp; done) | (simp; omega) | omega)) | (with_reducible apply Below.drew) | (with_reducible apply below_drewN') | (refine Below.trans ?_ (Below.mono (by assumption) (by first | exact Nat.le_refl _ | (simp; done) | (simp; omega) | omega))) | exact Below.refl _ _ | assumption)) ?_
              clear hK K
              refine wpW_branch [17] (by kernel_rfl) (by simp) ?_
              intro w2 hg2 hS2
              have hc2 := (bcell hg2).1
              have hf2 := (bcell hg2).2
              have hz2 := hg2.size
              try simp at hz2
              have hl1_2 : w1.heap.size ≤ w2.heap.size := by omega
              try have hm1_2 : w1.heap.size < w2.heap.size := by omega
              refine each_cons ?_ (each_nil)
              refine wpOp_go (by rfl) (Eq.refl _) (by go_simp; done) ?_
              intro K hK
              go_simp
              try simp only [Act.put]
              refine hK _ _ (by repeat (first | (with_reducible exact Below.refl _ _) | (with_reducible assumption) | ((with_reducible refine Below.setCell ?_ ?_ _); rotate_left; · (first | exact Nat.le_refl _ | (simp; done) | (simp; omega) | omega)) | ((with_reducible refine Below.alloc ?_ ?_ _); rotate_left; · (first | exact Nat.le_refl _ | (simp; done) | (simp; omega) | omega)) | (with_reducible apply Below.drew) | (with_reducible apply below_drewN') | (refine Below.trans ?_ (Below.mono (by assumption) (by first | exact Nat.le_refl _ | (simp; done) | (simp; omega) | omega))) | exact Below.refl _ _ | assumption)) ?_
              clear hK K
              refine wpW_branch [18] (by kernel_rfl) (by simp) ?_
              intro w3 hg3 hS3
              have hc3 := (bcell hg3).1
              have hf3 := (bcell hg3).2
              have hz3 := hg3.size
              try simp at hz3
              have hl1_3 : w1.heap.size ≤ w3.heap.size := by omega
              try have hm1_3 : w1.heap.size < w3.heap.size := by omega
              have hl2_3 : w2.heap.size ≤ w3.heap.size := by omega
              try have hm2_3 : w2.heap.size < w3.heap.size := by omega
              refine each_cons ?_ (each_nil)
              refine wpOp_go (by rfl) (Eq.refl _) (by go_simp; done) ?_
              intro K hK
              go_simp
              try simp only [Act.put]
              refine hK _ _ (by repeat (first | (with_reducible exact Below.refl _ _) | (with_reducible assumption) | ((with_reducible refine Below.setCell ?_ ?_ _); rotate_left; · (first | exact Nat.le_refl _ | (simp; done) | (simp; omega) | omega)) | ((with_reducible refine Below.alloc ?_ ?_ _); rotate_left; · (first | exact Nat.le_refl _ | (simp; done) | (simp; omega) | omega)) | (with_reducible apply Below.drew) | (with_reducible apply below_drewN') | (refine Below.trans ?_ (Below.mono (by assumption) (by first | exact Nat.le_refl _ | (simp; done) | (simp; omega) | omega))) | exact Below.refl _ _ | assumption)) ?_
              clear hK K
              refine wpW_branch [19] (by kernel_rfl) (by simp) ?_
              intro w4 hg4 hS4
              have hc4 := (bcell hg4).1
              have hf4 := (bcell hg4).2
              have hz4 := hg4.size
              try simp at hz4
              have hl1_4 : w1.heap.size ≤ w4.heap.size := by omega
              try have hm1_4 : w1.heap.size < w4.heap.size := by omega
              have hl2_4 : w2.heap.size ≤ w4.heap.size := by omega
              try have hm2_4 : w2.heap.size < w4.heap.size := by omega
              have hl3_4 : w3.heap.size ≤ w4.heap.size := by omega
              try have hm3_4 : w3.heap.size < w4.heap.size := by omega
              refine each_cons ?_ (each_nil)
              refine wpOp_go (by rfl) (Eq.refl _) (by go_simp; done) ?_
              intro K hK
              go_simp
              try simp only [Act.put]
              refine hK _ _ (by repeat (first | (with_reducible exact Below.refl _ _) | (with_reducible assumption) | ((with_reducible refine Below.setCell ?_ ?_ _); rotate_left; · (first | exact Nat.le_refl _ | (simp; done) | (simp; omega) | omega)) | ((with_reducible refine Below.alloc ?_ ?_ _); rotate_left; · (first | exact Nat.le_refl _ | (simp; done) | (simp; omega) | omega)) | (with_reducible apply Below.drew) | (with_reducible apply below_drewN') | (refine Below.trans ?_ (Below.mono (by assumption) (by first | exact Nat.le_refl _ | (simp; done) | (simp; omega) | omega))) | exact Below.refl _ _ | assumption)) ?_
              clear hK K
              refine wpW_end (by kernel_rfl) ?_
              intro w5 hg5 hS5
              have hc5 := (bcell hg5).1
              have hf5 := (bcell hg5).2
              have hz5 := hg5.size
              try simp at hz5
              have hl1_5 : w1.heap.size ≤ w5.heap.size := by omega
              try have hm1_5 : w1.heap.size < w5.heap.size := by omega
              have hl2_5 : w2.heap.size ≤ w5.heap.size := by omega
              try have hm2_5 : w2.heap.size < w5.heap.size := by omega
              have hl3_5 : w3.heap.size ≤ w5.heap.size := by omega
              try have hm3_5 : w3.heap.size < w5.heap.size := by omega
              have hl4_5 : w4.heap.size ≤ w5.heap.size := by omega
              try have hm4_5 : w4.heap.size < w5.heap.size := by omega
              unfold NQ
              dsimp only
              go_wp2_with fail
              go_meet
              first
                | (obtain ⟨g1, g2, g3, g4, g5⟩ := two_new hS1 hg2 hg3; obtain ⟨g6, g7⟩ := two_set g1 g2 g3 hg4 hg5; exact ⟨_, _, rfl, rfl, g6, g7, g3, g4, g5, hS5⟩)
                | (obtain ⟨g1, g2, g3, g4, g5⟩ := two_new hS1 hg2 hg3; obtain ⟨g6, g7⟩ := two_set g2 g1 (Ne.symm g3) hg4 hg5; exact ⟨_, _, rfl, rfl, g6, g7, Ne.symm g3, g5, g4, hS5⟩)
            · refine wpOp_go (by rfl) (Eq.refl _) (by go_simp; done) ?_
              intro K hK
              go_simp
              try simp only [Act.put]
              refine hK _ _ (by repeat (first | (with_reducible exact Below.refl _ _) | (with_reducible assumption) | ((with_reducible refine Below.setCell ?_ ?_ _); rotate_left; · (first | exact Nat.le_refl _ | (simp; done) | (simp; omega) | omega)) | ((with_reducible refine Below.alloc ?_ ?_ _); rotate_left; · (first | exact Nat.le_refl _ | (simp; done) | (simp; omega) | omega)) | (with_reducible apply Below.drew) | (with_reducible apply below_drewN') | (refine Below.trans ?_ (Below.mono (by assumption) (by first | exact Nat.le_refl _ | (simp; done) | (simp; omega) | omega))) | exact Below.refl _ _ | assumption)) ?_
              clear hK K
              refine wpW_branch [16] (by kernel_rfl) (by simp) ?_
              intro w2 hg2 hS2
              have hc2 := (bcell hg2).1
              have hf2 := (bcell hg2).2
              have hz2 := hg2.size
              try simp at hz2
              have hl1_2 : w1.heap.size ≤ w2.heap.size := by omega
              try have hm1_2 : w1.heap.size < w2.heap.size := by omega
              refine each_cons ?_ (each_nil)
              refine wpOp_go (by rfl) (Eq.refl _) (by go_simp; done) ?_
              intro K hK
              go_simp
              try simp only [Act.put]
              refine hK _ _ (by repeat (first | (with_reducible exact Below.refl _ _) | (with_reducible assumption) | ((with_reducible refine Below.setCell ?_ ?_ _); rotate_left; · (first | exact Nat.le_refl _ | (simp; done) | (simp; omega) | omega)) | ((with_reducible refine Below.alloc ?_ ?_ _); rotate_left; · (first | exact Nat.le_refl _ | (simp; done) | (simp; omega) | omega)) | (with_reducible apply Below.drew) | (with_reducible apply below_drewN') | (refine Below.trans ?_ (Below.mono (by assumption) (by first | exact Nat.le_refl _ | (simp; done) | (simp; omega) | omega))) | exact Below.refl _ _ | assumption)) ?_
              clear hK K
              refine wpW_branch [18] (by kernel_rfl) (by simp) ?_
              intro w3 hg3 hS3
              have hc3 := (bcell hg3).1
              have hf3 := (bcell hg3).2
              have hz3 := hg3.size
              try simp at hz3
              have hl1_3 : w1.heap.size ≤ w3.heap.size := by omega
              try have hm1_3 : w1.heap.size < w3.heap.size := by omega
              have hl2_3 : w2.heap.size ≤ w3.heap.size := by omega
              try have hm2_3 : w2.heap.size < w3.heap.size := by omega
              refine each_cons ?_ (each_nil)
              refine wpOp_go (by rfl) (Eq.refl _) (by go_simp; done) ?_
              intro K hK
              go_simp
              try simp only [Act.put]
              refine hK _ _ (by repeat (first | (with_reducible exact Below.refl _ _) | (with_reducible assumption) | ((with_reducible refine Below.setCell ?_ ?_ _); rotate_left; · (first | exact Nat.le_refl _ | (simp; done) | (simp; omega) | omega)) | ((with_reducible refine Below.alloc ?_ ?_ _); rotate_left; · (first | exact Nat.le_refl _ | (simp; done) | (simp; omega) | omega)) | (with_reducible apply Below.drew) | (with_reducible apply below_drewN') | (refine Below.trans ?_ (Below.mono (by assumption) (by first | exact Nat.le_refl _ | (simp; done) | (simp; omega) | omega))) | exact Below.refl _ _ | assumption)) ?_
              clear hK K
              refine wpW_branch [19] (by kernel_rfl) (by simp) ?_
              intro w4 hg4 hS4
              have hc4 := (bcell hg4).1
              have hf4 := (bcell hg4).2
              have hz4 := hg4.size
              try simp at hz4
              have hl1_4 : w1.heap.size ≤ w4.heap.size := by omega
              try have hm1_4 : w1.heap.size < w4.heap.size := by omega
              have hl2_4 : w2.heap.size ≤ w4.heap.size := by omega
              try have hm2_4 : w2.heap.size < w4.heap.size := by omega
              have hl3_4 : w3.heap.size ≤ w4.heap.size := by omega
              try have hm3_4 : w3.heap.size < w4.heap.size := by omega
              refine each_cons ?_ (each_nil)
              refine wpOp_go (by rfl) (Eq.refl _) (by go_simp; done) ?_
              intro K hK
              go_simp
              try simp only [Act.put]
              refine hK _ _ (by repeat (first | (with_reducible exact Below.refl _ _) | (with_reducible assumption) | ((with_reducible refine Below.setCell ?_ ?_ _); rotate_left; · (first | exact Nat.le_refl _ | (simp; done) | (simp; omega) | omega)) | ((with_reducible refine Below.alloc ?_ ?_ _); rotate_left; · (first | exact Nat.le_refl _ | (simp; done) | (simp; omega) | omega)) | (with_reducible apply Below.drew) | (with_reducible apply below_drewN') | (refine Below.trans ?_ (Below.mono (by assumption) (by first | exact Nat.le_refl _ | (simp; done) | (simp; omega) | omega))) | exact Below.refl _ _ | assumption)) ?_
              clear hK K
              refine wpW_end (by kernel_rfl) ?_
              intro w5 hg5 hS5
              have hc5 := (bcell hg5).1
              have hf5 := (bcell hg5).2
              have hz5 := hg5.size
              try simp at hz5
              have hl1_5 : w1.heap.size ≤ w5.heap.size := by omega
              try have hm1_5 : w1.heap.size < w5.heap.size := by omega
              have hl2_5 : w2.heap.size ≤ w5.heap.size := by omega
              try have hm2_5 : w2.heap.size < w5.heap.size := by omega
              have hl3_5 : w3.heap.size ≤ w5.heap.size := by omega
              try have hm3_5 : w3.heap.size < w5.heap.size := by omega
              have hl4_5 : w4.heap.size ≤ w5.heap.size := by omega
              try have hm4_5 : w4.heap.size < w5.heap.size := by omega
              unfold NQ
              dsimp only
              go_wp2_with fail
              go_meet
              first
                | (obtain ⟨g1, g2, g3, g4, g5⟩ := two_new hS1 hg2 hg3; obtain ⟨g6, g7⟩ := two_set g1 g2 g3 hg4 hg5; exact ⟨_, _, rfl, rfl, g6, g7, g3, g4, g5, hS5⟩)
                | (obtain ⟨g1, g2, g3, g4, g5⟩ := two_new hS1 hg2 hg3; obtain ⟨g6, g7⟩ := two_set g2 g1 (Ne.symm g3) hg4 hg5; exact ⟨_, _, rfl, rfl, g6, g7, Ne.symm g3, g5, g4, hS5⟩)
          case rest =>
            obtain ⟨x, y, rfl, rfl, hx, hy, hxy, hxb, hyb, hB⟩ := hcut
            clear v3 v4 t2 r0 r1 o0 o1
            generalize hX : s.side * dx = X at *
            generalize hY : s.side * wv = Y at *
            have HX := Lib.hid hX; have HY := Lib.hid hY; clear hX hY
            have c5 := e5.below hB e5.lt
            have c7 := e7.below hB e7.lt
            have c6 := e6.below hB e6.lt
            have cr := er.below hB er.lt
            have co := eo.below hB eo.lt
            have cB : Below w.heap.size w wc := Below.trans eB (hB.mono (Below.size eB))
            clear hB e5 e6 e7 er eo eB
            clear k1 k2 k3 k4 k5 k6
            have hp1 : PV.ok ⟨0, 1, 1, 1, false, decide (wz * dx < wv * az)⟩ := ⟨by simp [NN], by simp [NN], by simp [NN], by simp [NN]⟩
            generalize hP1 : (PV.mk 0 1 1 1 false (decide (wz * dx < wv * az))) = P1 at *
            have HP1 := Lib.hid hP1; clear hP1
            have kln := L.ln; have kld := L.ld; have kmn := L.mn; have kmd := L.md; have ktn := L.tn; have ktd := L.td
            have nG1 : G ≠ w.heap.size + 1 := by omega
            have nGr : G ≠ r := by omega
            have nGo : G ≠ o := by omega
            have nGx : G ≠ x := by omega
            have nGy : G ≠ y := by omega
            clear hxb hyb
            obtain ⟨q4, q5, q6, q7, q8, q9⟩ := su_cells c5
            have x0 : wc.cell? ⟨x, 0, none⟩ = some (.int .i64 X) := hx.cell 0
            have x1 : wc.cell? ⟨x, 1, none⟩ = some (.int .i64 Y) := hx.cell 1
            have y0 : wc.cell? ⟨y, 0, none⟩ = some (.int .i64 az) := hy.cell 0
            have y1 : wc.cell? ⟨y, 1, none⟩ = some (.int .i64 wz) := hy.cell 1
            have b1 := mul_bd X s.ld 60000 100 (by omega) (by omega)
            have b2 := mul_bd Y s.ld 60000 100 (by omega) (by omega)
            have b3 := mul_bd az s.ln 60000 100 (by omega) (by omega)
            have b4 := mul_bd wz s.ln 60000 100 (by omega) (by omega)
            go_wp2_with fail
            refine (cut_any G _ _ P1 hp1 (by omega) (by omega) _ c7).mono ?_
            rintro e w2 ⟨rfl, hb2, hg2⟩
            have hp2 := PV.cut_ok hp1 (n := X * s.ld - az * s.ln) (m := Y * s.ld - wz * s.ln) (by omega) (by omega)
            obtain ⟨P2, HP2⟩ : ∃ q, Hid (q = P1.cut (X * s.ld - az * s.ln) (Y * s.ld - wz * s.ln)) := ⟨_, rfl⟩
            rw [← HP2.out] at hp2 hb2
            have d5 := c5.grown hg2 (by simp; omega)
            have d6 := c6.grown hg2 (by simp; omega)
            have dx_ := hx.grown hg2 (by simp; omega)
            have dy_ := hy.grown hg2 (by simp; omega)
            have dr := cr.grown hg2 (by simp; omega)
            have do_ := co.grown hg2 (by simp; omega)
            have dB := cB.grown hg2 (Below.size cB) (fun k e => by cases e; omega)
            clear c5 c6 hx hy cr co cB hg2 q4 q5 q6 q7 q8 q9 x0 x1 y0 y1 b1 b2 b3 b4 hp1 c7
            obtain ⟨q4, q5, q6, q7, q8, q9⟩ := su_cells d5
            have x0 : w2.cell? ⟨x, 0, none⟩ = some (.int .i64 X) := dx_.cell 0
            have x1 : w2.cell? ⟨x, 1, none⟩ = some (.int .i64 Y) := dx_.cell 1
            have y0 : w2.cell? ⟨y, 0, none⟩ = some (.int .i64 az) := dy_.cell 0
            have y1 : w2.cell? ⟨y, 1, none⟩ = some (.int .i64 wz) := dy_.cell 1
            have b1 := mul_bd X s.md 60000 100 (by omega) (by omega)
            have b2 := mul_bd Y s.md 60000 100 (by omega) (by omega)
            have b3 := mul_bd az s.mn 60000 100 (by omega) (by omega)
            have b4 := mul_bd wz s.mn 60000 100 (by omega) (by omega)
            go_wp2_with fail
            refine (cut_any G _ _ P2 hp2 (by omega) (by omega) _ hb2).mono ?_
            rintro e w3 ⟨rfl, hb3, hg3⟩
            have hp3 := PV.cut_ok hp2 (n := az * s.mn - X * s.md) (m := wz * s.mn - Y * s.md) (by omega) (by omega)
            obtain ⟨P3, HP3⟩ : ∃ q, Hid (q = P2.cut (az * s.mn - X * s.md) (wz * s.mn - Y * s.md)) := ⟨_, rfl⟩
            rw [← HP3.out] at hp3 hb3
            have e5 := d5.grown hg3 (by simp; omega)
            have e6 := d6.grown hg3 (by simp; omega)
            have er := dr.grown hg3 (by simp; omega)
            have eo := do_.grown hg3 (by simp; omega)
            have eB := dB.grown hg3 (Below.size dB) (fun k e => by cases e; omega)
            clear d5 d6 dx_ dy_ dr do_ dB hg3 q4 q5 q6 q7 q8 q9 x0 x1 y0 y1 b1 b2 b3 b4 hp2 hb2
            obtain ⟨q4, q5, q6, q7, q8, q9⟩ := su_cells e5
            have b5 := mul_bd wv az 60000 60000 (by omega) (by omega)
            have b6 := mul_bd wz dx 60000 60000 (by omega) (by omega)
            have b7 := mul_bd (wv * az - wz * dx) s.tn 7200000000 100 (by omega) (by omega)
            have b8 := mul_bd (-(wv * az - wz * dx)) s.tn 7200000000 100 (by omega) (by omega)
            go_upto_region 14 with fail
            go_cut [12] (fun s12 wx => s12 = .int .i64 (max (wv * az - wz * dx) (-(wv * az - wz * dx)) * s.tn) ∧ wx = w3)
            case first =>
              go_wp2
              all_goals (go_meet; refine ⟨?_, rfl⟩; first | (refine int_mul_eq ?_; omega) | (rw [IntWalk.wrap64_in _ (by omega)]; refine int_mul_eq ?_; omega))
            case rest =>
              obtain ⟨rfl, rfl⟩ := hcut
              clear b7 b8
              have b7 := mul_bd (max (wv * az - wz * dx) (-(wv * az - wz * dx))) s.tn 7200000000 100 (by omega) (by omega)
              generalize hK : max (wv * az - wz * dx) (-(wv * az - wz * dx)) * s.tn = K at *
              have HK := Lib.hid hK; clear hK b5 b6
              have b5 := mul_bd wv dx 60000 60000 (by omega) (by omega)
              have b6 := mul_bd wz az 60000 60000 (by omega) (by omega)
              have b8 := mul_bd (wv * dx + wz * az) s.td 7200000000 100 (by omega) (by omega)
              have b9 := mul_bd wv wv 60000 60000 (by omega) (by omega)
              have b10 := mul_bd wz wz 60000 60000 (by omega) (by omega)
              have b11 := mul_bd (wv * wv + wz * wz) s.td 7200000000 100 (by omega) (by omega)
              have b12 := mul_bd (-(wv * wv + wz * wz)) s.td 7200000000 100 (by omega) (by omega)
              have b13 := mul_bd (-(wv * dx + wz * az)) s.td 7200000000 100 (by omega) (by omega)
              go_wp2_with fail
              go_loopw [137] (fun i wr => ∃ P : PV, PV.ok P ∧ Blk wr G 89 (ptP P) ∧ Blk wr (w.heap.size + 1) 34 (suC sn s) ∧ Blk wr (w.heap.size + 1 + 1) 89 (ptP ⟨0, 0, 0, 0, false, false⟩) ∧ Blk wr r 128 (spC wv wz) ∧ Blk wr o 128 (spC dx az) ∧ Below w.heap.size w wr ∧
                ((i = .int .i64 0 ∧ Hid (P = P3)) ∨ (i = .int .i64 1 ∧ Hid (P = P3.cut (K - (wv * dx + wz * az) * s.td) (-(wv * wv + wz * wz) * s.td))) ∨
                (i = .int .i64 2 ∧ Hid (P = (P3.cut (K - (wv * dx + wz * az) * s.td) (-(wv * wv + wz * wz) * s.td)).cut (K - -(wv * dx + wz * az) * s.td) ((wv * wv + wz * wz) * s.td))))) (fun i _ => 2 - (intOf i).toNat)
              case atStart => exact ⟨P3, hp3, hb3, e5, e6, er, eo, eB, .inl ⟨rfl, rfl⟩⟩
              case round =>
                clear hb3 e5 e6 er eo eB hp3 q4 q5 q6 q7 q8 q9
                obtain ⟨P, hp, hbP, f5, f6, fr, fo, fB, hi⟩ := hrel
                obtain ⟨q4, q5, q6, q7, q8, q9⟩ := su_cells f5
                have r0 : wr.cell? ⟨r, 0, none⟩ = some (.int .i64 wv) := fr.cell 0
                have r1 : wr.cell? ⟨r, 1, none⟩ = some (.int .i64 wz) := fr.cell 1
                have o0 : wr.cell? ⟨o, 0, none⟩ = some (.int .i64 dx) := fo.cell 0
                have o1 : wr.cell? ⟨o, 1, none⟩ = some (.int .i64 az) := fo.cell 1
                have m5 : w.heap.size + 1 < wr.heap.size := f5.lt
                have mr : r < wr.heap.size := fr.lt
                have mo : o < wr.heap.size := fo.lt
                have mG : G < wr.heap.size := hbP.lt
                have i0 : ∀ W, (Instr.index 131 (.agg #[.int .i64 1, .int .i64 (-1)]) (.int .i64 0)).run Tryz.prog W = .ok (.int .i64 1) W := fun _ => by kernel_rfl
                have i1 : ∀ W, (Instr.index 131 (.agg #[.int .i64 1, .int .i64 (-1)]) (.int .i64 1)).run Tryz.prog W = .ok (.int .i64 (-1)) W := fun _ => by kernel_rfl
                rcases hi with ⟨rfl, HI⟩ | ⟨rfl, HI⟩ | ⟨rfl, HI⟩
                · go_wp2_with fail
                  refine wp_region_b 20 (by kernel_rfl) (by kernel_rfl) ?_; simp only [List.take, List.drop]
                  repeat (first
                    | (apply StepsD.run
                       · go_simp
                         done
                       · intro w' hS K hK
                         have hc := (bcell hS).1
                         have hf := (bcell hS).2
                         have hz := hS.size
                         try simp at hz
                         go_simp
                         try go_bits
                         first
                           | exact hK _ hS
                           | (go_at_call 65; refine (dot_any _ _ _ _ (by omega) (by omega) (by omega) (by omega) _).mono ?_; rintro e w1 ⟨rfl, hB1⟩; obtain ⟨hc1, hf1⟩ := bcell hB1; have hz1 := hB1.size; (try simp at hz1); exact hK _ (Below.trans hS (Below.mono hB1 (by first | exact Nat.le_refl _ | (simp; done) | (simp; omega) | omega))))
                           | (go_at_call 66; refine (square_any _ _ (by omega) (by omega) _).mono ?_; rintro e w1 ⟨rfl, hB1⟩; obtain ⟨hc1, hf1⟩ := bcell hB1; have hz1 := hB1.size; (try simp at hz1); exact hK _ (Below.trans hS (Below.mono hB1 (by first | exact Nat.le_refl _ | (simp; done) | (simp; omega) | omega))))
                           | exact hK _ (by repeat (first | (with_reducible exact Below.refl _ _) | (with_reducible assumption) | ((with_reducible refine Below.setCell ?_ ?_ _); rotate_left; · (first | exact Nat.le_refl _ | (simp; done) | (simp; omega) | omega)) | ((with_reducible refine Below.alloc ?_ ?_ _); rotate_left; · (first | exact Nat.le_refl _ | (simp; done) | (simp; omega) | omega)) | (with_reducible apply Below.drew) | (with_reducible apply below_drewN') | (refine Below.trans ?_ (Below.mono (by assumption) (by first | exact Nat.le_refl _ | (simp; done) | (simp; omega) | omega))) | exact Below.refl _ _ | assumption))
                       · simp [Act.put]
                         done)
                    | (apply StepsD.pass
                       · first | (go_simp; done) | rfl
                       · simp only [Act.put, List.setIfInBounds_toArray, List.set_cons_succ, List.set_cons_zero]
                         rfl))
                  refine StepsD.done ?_
                  intro w' hS; have hc := (bcell hS).1; have hf := (bcell hS).2; have hz := hS.size; (try simp at hz)
                  have hBr : Below w.heap.size w w' := Below.trans fB (hS.mono (Below.size fB))
                  have gP := hbP.below hS mG
                  have g5 := f5.below hS m5
                  have g6 := f6.below hS f6.lt
                  have gr := fr.below hS mr
                  have go_ := fo.below hS mo
                  go_wp2_with fail
                  refine (cut_any G _ _ P hp (by omega) (by omega) _ gP).mono ?_
                  rintro e w4 ⟨rfl, hb4, hg4⟩
                  have h5 := g5.grown hg4 (by simp; omega)
                  have h6 := g6.grown hg4 (by simp; omega)
                  have hr' := gr.grown hg4 (by simp; omega)
                  have ho' := go_.grown hg4 (by simp; omega)
                  have hB' := hBr.grown hg4 (Below.size hBr) (fun k e => by cases e; omega)
                  clear hc hf
                  go_wp2
                  refine ⟨⟨_, PV.cut_ok hp (by omega) (by omega), hb4, h5, h6, hr', ho', hB', .inr (.inl ⟨rfl, by rw [HI.out]; rfl⟩)⟩, by simp [intOf]⟩
                · go_wp2_with fail
                  refine wp_region_b 20 (by kernel_rfl) (by kernel_rfl) ?_; simp only [List.take, List.drop]
                  repeat (first
                    | (apply StepsD.run
                       · go_simp
                         done
                       · intro w' hS K hK
                         have hc := (bcell hS).1
                         have hf := (bcell hS).2
                         have hz := hS.size
                         try simp at hz
                         go_simp
                         try go_bits
                         first
                           | exact hK _ hS
                           | (go_at_call 65; refine (dot_any _ _ _ _ (by omega) (by omega) (by omega) (by omega) _).mono ?_; rintro e w1 ⟨rfl, hB1⟩; obtain ⟨hc1, hf1⟩ := bcell hB1; have hz1 := hB1.size; (try simp at hz1); exact hK _ (Below.trans hS (Below.mono hB1 (by first | exact Nat.le_refl _ | (simp; done) | (simp; omega) | omega))))
                           | (go_at_call 66; refine (square_any _ _ (by omega) (by omega) _).mono ?_; rintro e w1 ⟨rfl, hB1⟩; obtain ⟨hc1, hf1⟩ := bcell hB1; have hz1 := hB1.size; (try simp at hz1); exact hK _ (Below.trans hS (Below.mono hB1 (by first | exact Nat.le_refl _ | (simp; done) | (simp; omega) | omega))))
                           | exact hK _ (by repeat (first | (with_reducible exact Below.refl _ _) | (with_reducible assumption) | ((with_reducible refine Below.setCell ?_ ?_ _); rotate_left; · (first | exact Nat.le_refl _ | (simp; done) | (simp; omega) | omega)) | ((with_reducible refine Below.alloc ?_ ?_ _); rotate_left; · (first | exact Nat.le_refl _ | (simp; done) | (simp; omega) | omega)) | (with_reducible apply Below.drew) | (with_reducible apply below_drewN') | (refine Below.trans ?_ (Below.mono (by assumption) (by first | exact Nat.le_refl _ | (simp; done) | (simp; omega) | omega))) | exact Below.refl _ _ | assumption))
                       · simp [Act.put]
                         done)
                    | (apply StepsD.pass
                       · first | (go_simp; done) | rfl
                       · simp only [Act.put, List.setIfInBounds_toArray, List.set_cons_succ, List.set_cons_zero]
                         rfl))
                  refine StepsD.done ?_
                  intro w' hS; have hc := (bcell hS).1; have hf := (bcell hS).2; have hz := hS.size; (try simp at hz)
                  have hBr : Below w.heap.size w w' := Below.trans fB (hS.mono (Below.size fB))
                  have gP := hbP.below hS mG
                  have g5 := f5.below hS m5
                  have g6 := f6.below hS f6.lt
                  have gr := fr.below hS mr
                  have go_ := fo.below hS mo
                  go_wp2_with fail
                  refine (cut_any G _ _ P hp (by omega) (by omega) _ gP).mono ?_
                  rintro e w4 ⟨rfl, hb4, hg4⟩
                  have h5 := g5.grown hg4 (by simp; omega)
                  have h6 := g6.grown hg4 (by simp; omega)
                  have hr' := gr.grown hg4 (by simp; omega)
                  have ho' := go_.grown hg4 (by simp; omega)
                  have hB' := hBr.grown hg4 (Below.size hBr) (fun k e => by cases e; omega)
                  clear hc hf
                  go_wp2
                  refine ⟨⟨_, PV.cut_ok hp (by omega) (by omega), hb4, h5, h6, hr', ho', hB', .inr (.inr ⟨rfl, by rw [HI.out]; rfl⟩)⟩, by simp [intOf]⟩
                · obtain ⟨c0, c1, c2, c3, c4, c5, _⟩ := blk6 hbP
                  obtain ⟨z0, z1, z2, z3, z4, z5, zf⟩ := blk6 f6
                  have e7 := Blk.set6 f6 (.int .i64 P.a) (.int .i64 P.b) (.int .i64 P.c) (.int .i64 P.d) (.bool P.none) (.bool P.up)
                  obtain ⟨y0, y1, y2, y3, y4, y5, _⟩ := blk6 e7
                  have HW : Hid (metV thick f s = P) := by
                    rw [HV.out, metW_no hk, HI.out, HP3.out, HP2.out, ← HP1.out, ← HX.out, ← HY.out, ← HK.out]; rfl
                  go_wp2_with fail
                  refine bodyPost_ret (v := .agg (ptP P)) (by simp [results, Tryz.results37, go_sem, y0, y1, y2, y3, y4, y5, ptP, ptC]) rfl ⟨by rw [HW.out], ?bel⟩
                  case bel => exact Below.set6 fB (by omega)
end Go.Proofs.YtlnkgjkjdllckaaGreatDoor
