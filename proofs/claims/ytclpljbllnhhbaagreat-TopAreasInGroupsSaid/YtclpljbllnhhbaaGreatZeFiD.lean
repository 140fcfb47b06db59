/- Contract: flaw.MarkOf. -/
import Derived.Test.YtclpljbllnhhbaaGreatZeFiC
namespace Go.Proofs.YtclpljbllnhhbaaGreat
open Go.RowKit

theorem markSpan0 (l : List (Int × Int)) (A : Option Addr) (c B : Nat) (st pr pc lv : Int) (q : Nat) (w : World) (bq : Blk w q 42 #[.slice A l.length c, .int .i64 pr, .int .i64 pc, .int .i64 lv])
    (hR : Row w B 2 A l.length (cellsC l)) (hB : B ≤ w.heap.size) (hp : 0 < l.length) (hl : l.length ≤ 4096) (hin : Hid (∀ c ∈ l, inC c = true)) (hst : 1 ≤ st ∧ st ≤ 10000) :
    Calls Tryz.prog 29 #[.int .i64 0, .int .i64 st, .pointer (some ⟨q, 0, none⟩)] w fun e w' => e = .returned (.agg #[.int .i64 ((spanP 0 l l.length).1 * st), .int .i64 (((spanP 0 l l.length).2 + 1) * st)]) ∧ Below w.heap.size w w' :=
  markSpan_any l A c B 0 (by decide) st pr pc lv q w bq hR hB hp hl hin hst
theorem markSpan1 (l : List (Int × Int)) (A : Option Addr) (c B : Nat) (st pr pc lv : Int) (q : Nat) (w : World) (bq : Blk w q 42 #[.slice A l.length c, .int .i64 pr, .int .i64 pc, .int .i64 lv])
    (hR : Row w B 2 A l.length (cellsC l)) (hB : B ≤ w.heap.size) (hp : 0 < l.length) (hl : l.length ≤ 4096) (hin : Hid (∀ c ∈ l, inC c = true)) (hst : 1 ≤ st ∧ st ≤ 10000) :
    Calls Tryz.prog 29 #[.int .i64 1, .int .i64 st, .pointer (some ⟨q, 0, none⟩)] w fun e w' => e = .returned (.agg #[.int .i64 ((spanP 1 l l.length).1 * st), .int .i64 (((spanP 1 l l.length).2 + 1) * st)]) ∧ Below w.heap.size w w' :=
  markSpan_any l A c B 1 (by decide) st pr pc lv q w bq hR hB hp hl hin hst
/-- The mark of an area. -/
def spanM (l : List (Int × Int)) (d0 d1 : Int) (nm : ByteArray) (lv : Int) : Mk := ⟨nm, (spanP 0 l l.length).1 * d0, ((spanP 0 l l.length).2 + 1) * d0, (spanP 1 l l.length).1 * d1, ((spanP 1 l l.length).2 + 1) * d1, lv⟩
def markOfV (l : List (Int × Int)) (d0 d1 : Int) (nm : ByteArray) (lv : Int) : Mk × Int :=
  if firstE [cellsE l, gridE d0 d1] ≠ 0 then (mk0, firstE [cellsE l, gridE d0 d1]) else if markE (spanM l d0 d1 nm lv) ≠ 0 then (mk0, markE (spanM l d0 d1 nm lv)) else (spanM l d0 d1 nm lv, 0)
theorem gridE_zero {a d : Int} (h : gridE a d = 0) : (1 ≤ a ∧ a ≤ 10000) ∧ 1 ≤ d ∧ d ≤ 10000 := by
  unfold gridE at h
  split at h
  · rename_i h1
    simp [wi] at h1; omega
  · cases h

set_option maxRecDepth 100000 in
set_option maxHeartbeats 4000000 in
theorem markOf_any (l : List (Int × Int)) (A : Option Addr) (c B : Nat) (pr pc lv d0 d1 : Int) (nm : ByteArray) (w : World) (hR : Row w B 2 A l.length (cellsC l)) (hB : B ≤ w.heap.size) (hl : l.length ≤ 9223372036854775807) (hnm : nm.size ≤ 1000000000000) :
    Calls Tryz.prog 11 #[.agg #[.slice A l.length c, .int .i64 pr, .int .i64 pc, .int .i64 lv], .agg #[.int .i64 d0, .int .i64 d1], .string nm] w fun e w' => e = .returned (.tuple #[.agg (mkC (markOfV l d0 d1 nm lv).1), .int .i64 (markOfV l d0 d1 nm lv).2]) ∧ Below w.heap.size w w' := by
  have hV : markOfV l d0 d1 nm lv = if firstE [cellsE l, gridE d0 d1] ≠ 0 then (mk0, firstE [cellsE l, gridE d0 d1]) else if markE (spanM l d0 d1 nm lv) ≠ 0 then (mk0, markE (spanM l d0 d1 nm lv)) else (spanM l d0 d1 nm lv, 0) := rfl
  obtain ⟨E, hE⟩ : ∃ E, firstE [cellsE l, gridE d0 d1] = E := ⟨_, rfl⟩
  rw [hE] at hV
  have HV := Lib.hid hV; clear hV
  have HE := Lib.hid hE; clear hE
  have b3 := ((Blk.new w 42 #[.slice A l.length c, .int .i64 pr, .int .i64 pc, .int .i64 lv]).alloc (.cells #[.int .i64 d0, .int .i64 d1] 26)).alloc (.cells (mkC mk0) 46)
  have b4 := (Blk.new (w.alloc (.cells #[.slice A l.length c, .int .i64 pr, .int .i64 pc, .int .i64 lv] 42)) 26 #[.int .i64 d0, .int .i64 d1]).alloc (.cells (mkC mk0) 46)
  have b6 := Blk.new ((w.alloc (.cells #[.slice A l.length c, .int .i64 pr, .int .i64 pc, .int .i64 lv] 42)).alloc (.cells #[.int .i64 d0, .int .i64 d1] 26)) 46 (mkC mk0)
  have hBB : Below w.heap.size w (((w.alloc (.cells #[.slice A l.length c, .int .i64 pr, .int .i64 pc, .int .i64 lv] 42)).alloc (.cells #[.int .i64 d0, .int .i64 d1] 26)).alloc (.cells (mkC mk0) 46)) := (by repeat (first | (with_reducible exact Below.refl _ _) | (with_reducible assumption) | ((with_reducible refine Below.setCell ?_ ?_ _); rotate_left; · (first | exact Nat.le_refl _ | (simp; done) | (simp; omega) | omega)) | ((with_reducible refine Below.alloc ?_ ?_ _); rotate_left; · (first | exact Nat.le_refl _ | (simp; done) | (simp; omega) | omega)) | (with_reducible apply Below.drew) | (with_reducible apply below_drewN') | (refine Below.trans ?_ (Below.mono (by assumption) (by first | exact Nat.le_refl _ | (simp; done) | (simp; omega) | omega))) | exact Below.refl _ _ | assumption))
  simp only [World.size_alloc] at b4 b6
  go_enter Tryz.func11, Tryz.ntmps11
  go_upto_region 1 with fail
  obtain ⟨W, hW⟩ : ∃ W, ((w.alloc (.cells #[.slice A l.length c, .int .i64 pr, .int .i64 pc, .int .i64 lv] 42)).alloc (.cells #[.int .i64 d0, .int .i64 d1] 26)).alloc (.cells (mkC mk0) 46) = W := ⟨_, rfl⟩
  rw [hW] at b3 b4 b6 hBB
  try rw [hW]
  clear hW
  have l_b3 := b3.lt
  obtain ⟨x0, x1, x2, x3, f3⟩ := blk4 b3
  have l_b4 := b4.lt
  obtain ⟨y0, y1, f4⟩ := blk2c b4
  have l_b6 := b6.lt
  obtain ⟨z0, z1, z2, z3, z4, z5, f6⟩ := blk6 b6
  have n34 : w.heap.size ≠ w.heap.size + 1 := by omega
  refine wp_region_b 5 (by kernel_rfl) (by kernel_rfl) ?_; simp only [List.take, List.drop]
  repeat (first
    | (apply StepsD.run
       · go_simp
         done
       · intro w' hS K hK
         have hc := (bcell hS).1
         have hf := (bcell hS).2
         have hz := hS.size
         try simp at hz
         go_simp
         try go_bits
         first
           | exact hK _ hS
           | (go_at_call 27; (with_reducible refine (cellsErr_any l A c B _ (hR.below (hBB.trans (hS.mono (Below.size hBB))) hB) (by have := Below.size hBB; have := Below.size hS; omega) hl).mono ?_); rintro e w1 ⟨rfl, hB1⟩; obtain ⟨hc1, hf1⟩ := bcell hB1; have hz1 := hB1.size; (try simp at hz1); exact hK _ (Below.trans hS (Below.mono hB1 (by first | exact Nat.le_refl _ | (simp; done) | (simp; omega) | omega))))
           | (go_at_call 28; (with_reducible refine (checkGrid_any _ _ _).mono ?_); rintro e w1 ⟨rfl, hB1⟩; obtain ⟨hc1, hf1⟩ := bcell hB1; have hz1 := hB1.size; (try simp at hz1); exact hK _ (Below.trans hS (Below.mono hB1 (by first | exact Nat.le_refl _ | (simp; done) | (simp; omega) | omega))))
           | exact hK _ (by repeat (first | (with_reducible exact Below.refl _ _) | (with_reducible assumption) | ((with_reducible refine Below.setCell ?_ ?_ _); rotate_left; · (first | exact Nat.le_refl _ | (simp; done) | (simp; omega) | omega)) | ((with_reducible refine Below.alloc ?_ ?_ _); rotate_left; · (first | exact Nat.le_refl _ | (simp; done) | (simp; omega) | omega)) | (with_reducible apply Below.drew) | (with_reducible apply below_drewN') | (refine Below.trans ?_ (Below.mono (by assumption) (by first | exact Nat.le_refl _ | (simp; done) | (simp; omega) | omega))) | exact Below.refl _ _ | assumption))
       · simp [Act.put]
         done)
    | (apply StepsD.pass
       · go_simp
         done
       · simp only [Act.put, List.setIfInBounds_toArray, List.set_cons_succ, List.set_cons_zero]
         rfl))
  refine StepsD.done ?_
  intro w1 hS
  replace b3 := b3.gr hS
  replace b4 := b4.gr hS
  replace b6 := b6.gr hS
  replace hBB := hBB.trans (Below.mono hS (Below.size hBB))
  clear hS
  clear l_b3 x0 x1 x2 x3 f3 l_b4 y0 y1 f4 l_b6 z0 z1 z2 z3 z4 z5 f6
  have l_b3 := b3.lt
  have l_b4 := b4.lt
  have l_b6 := b6.lt
  obtain ⟨x0, x1, x2, x3, f3⟩ := blk4 b3
  obtain ⟨y0, y1, f4⟩ := blk2c b4
  obtain ⟨z0, z1, z2, z3, z4, z5, f6⟩ := blk6 b6
  go_wp2_with fail
  refine (first2_any _ _ _ _).mono ?_
  rw [HE.out]
  rintro e wc1 ⟨rfl, hBc1⟩
  replace b3 := b3.gr hBc1
  replace b4 := b4.gr hBc1
  replace b6 := b6.gr hBc1
  replace hBB := hBB.trans (Below.mono hBc1 (Below.size hBB))
  clear hBc1
  clear l_b3 x0 x1 x2 x3 f3 l_b4 y0 y1 f4 l_b6 z0 z1 z2 z3 z4 z5 f6
  have l_b3 := b3.lt
  have l_b4 := b4.lt
  have l_b6 := b6.lt
  obtain ⟨x0, x1, x2, x3, f3⟩ := blk4 b3
  obtain ⟨y0, y1, f4⟩ := blk2c b4
  obtain ⟨z0, z1, z2, z3, z4, z5, f6⟩ := blk6 b6
  by_cases h0 : E = 0
  · have hz := (firstE_zero _).1 (HE.out.trans h0)
    have hc0 : cellsE l = 0 := hz _ (by simp)
    have hg0 : gridE d0 d1 = 0 := hz _ (by simp)
    obtain ⟨hpos, hmost, hin⟩ := cellsE_zero hc0
    obtain ⟨hd0, hd1⟩ := gridE_zero hg0
    have HIN := Lib.hid hin
    have HV2 : Hid (markOfV l d0 d1 nm lv = if markE (spanM l d0 d1 nm lv) ≠ 0 then (mk0, markE (spanM l d0 d1 nm lv)) else (spanM l d0 d1 nm lv, 0)) := Lib.hid (by rw [HV.out, if_neg (by simpa using h0)])
    clear HV hz hc0 hg0 hin
    subst h0
    go_upto_region 5 with fail
    have n34 : w.heap.size ≠ w.heap.size + 1 := by omega
    refine wp_region_w (Gr _) (by kernel_rfl) (Below.refl _ _).drew ?_
    refine wpW_det (t' := ?ct0R62) 0 (by rfl) (by kernel_rfl) (NQ_free _) (by kernel_rfl) ?cw0R62 ?ch0R62 ?ca0R62 (Eq.refl _) ?cH0R62
    case cw0R62 => (go_simp; done)
    case ch0R62 =>
      intro ds w' hS K hK
      have hc := (bcell hS).1
      have hf := (bcell hS).2
      have hz := hS.size
      try simp at hz
      go_simp
      try go_bits
      first
        | exact hK _ hS (Gr.refl _)
        | (go_at_call 29; (with_reducible refine (markSpan0 l A c B _ _ _ _ _ _ (b3.gr hS) (hR.below (hBB.trans (hS.mono (Below.size hBB))) hB) (by have := Below.size hBB; have := Below.size hS; omega) hpos hmost HIN hd0).mono ?_); rintro e w1 ⟨rfl, hB1⟩; exact hK _ (Below.trans hS (hB1.mono (Below.size hS))) hB1)
        | (go_at_call 29; (with_reducible refine (markSpan1 l A c B _ _ _ _ _ _ (b3.gr hS) (hR.below (hBB.trans (hS.mono (Below.size hBB))) hB) (by have := Below.size hBB; have := Below.size hS; omega) hpos hmost HIN hd1).mono ?_); rintro e w1 ⟨rfl, hB1⟩; exact hK _ (Below.trans hS (hB1.mono (Below.size hS))) hB1)
        | exact hK _ (by repeat (first | (with_reducible exact Below.refl _ _) | (with_reducible assumption) | ((with_reducible refine Below.setCell ?_ ?_ _); rotate_left; · (first | exact Nat.le_refl _ | (simp; done) | (simp; omega) | omega)) | ((with_reducible refine Below.alloc ?_ ?_ _); rotate_left; · (first | exact Nat.le_refl _ | (simp; done) | (simp; omega) | omega)) | (with_reducible apply Below.drew) | (with_reducible apply below_drewN') | (refine Below.trans ?_ (Below.mono (by assumption) (by first | exact Nat.le_refl _ | (simp; done) | (simp; omega) | omega))) | exact Below.refl _ _ | assumption)) (by repeat (first | (with_reducible exact Below.refl _ _) | (with_reducible assumption) | ((with_reducible refine Below.setCell ?_ ?_ _); rotate_left; · (first | exact Nat.le_refl _ | (simp; done) | (simp; omega) | omega)) | ((with_reducible refine Below.alloc ?_ ?_ _); rotate_left; · (first | exact Nat.le_refl _ | (simp; done) | (simp; omega) | omega)) | (with_reducible apply Below.drew) | (with_reducible apply below_drewN') | (refine Below.trans ?_ (Below.mono (by assumption) (by first | exact Nat.le_refl _ | (simp; done) | (simp; omega) | omega))) | exact Below.refl _ _ | assumption))
    case ca0R62 => (first | (simp [Act.put]; done) | (simp [Act.put, *]; done))
    try dsimp only
    refine wpW_det (t' := ?ct1R62) 1 (by rfl) (by kernel_rfl) (NQ_free _) (by kernel_rfl) ?cw1R62 ?ch1R62 ?ca1R62 (Eq.refl _) ?cH1R62
    case cw1R62 => (go_simp; done)
    case ch1R62 =>
      intro ds w' hS K hK
      have hc := (bcell hS).1
      have hf := (bcell hS).2
      have hz := hS.size
      try simp at hz
      go_simp
      try go_bits
      first
        | exact hK _ hS (Gr.refl _)
        | (go_at_call 29; (with_reducible refine (markSpan0 l A c B _ _ _ _ _ _ (b3.gr hS) (hR.below (hBB.trans (hS.mono (Below.size hBB))) hB) (by have := Below.size hBB; have := Below.size hS; omega) hpos hmost HIN hd0).mono ?_); rintro e w1 ⟨rfl, hB1⟩; exact hK _ (Below.trans hS (hB1.mono (Below.size hS))) hB1)
        | (go_at_call 29; (with_reducible refine (markSpan1 l A c B _ _ _ _ _ _ (b3.gr hS) (hR.below (hBB.trans (hS.mono (Below.size hBB))) hB) (by have := Below.size hBB; have := Below.size hS; omega) hpos hmost HIN hd1).mono ?_); rintro e w1 ⟨rfl, hB1⟩; exact hK _ (Below.trans hS (hB1.mono (Below.size hS))) hB1)
        | exact hK _ (by repeat (first | (with_reducible exact Below.refl _ _) | (with_reducible assumption) | ((with_reducible refine Below.setCell ?_ ?_ _); rotate_left; · (first | exact Nat.le_refl _ | (simp; done) | (simp; omega) | omega)) | ((with_reducible refine Below.alloc ?_ ?_ _); rotate_left; · (first | exact Nat.le_refl _ | (simp; done) | (simp; omega) | omega)) | (with_reducible apply Below.drew) | (with_reducible apply below_drewN') | (refine Below.trans ?_ (Below.mono (by assumption) (by first | exact Nat.le_refl _ | (simp; done) | (simp; omega) | omega))) | exact Below.refl _ _ | assumption)) (by repeat (first | (with_reducible exact Below.refl _ _) | (with_reducible assumption) | ((with_reducible refine Below.setCell ?_ ?_ _); rotate_left; · (first | exact Nat.le_refl _ | (simp; done) | (simp; omega) | omega)) | ((with_reducible refine Below.alloc ?_ ?_ _); rotate_left; · (first | exact Nat.le_refl _ | (simp; done) | (simp; omega) | omega)) | (with_reducible apply Below.drew) | (with_reducible apply below_drewN') | (refine Below.trans ?_ (Below.mono (by assumption) (by first | exact Nat.le_refl _ | (simp; done) | (simp; omega) | omega))) | exact Below.refl _ _ | assumption))
    case ca1R62 => (first | (simp [Act.put]; done) | (simp [Act.put, *]; done))
    try dsimp only
    refine wpW_det (t' := ?ct2R62) 2 (by rfl) (by kernel_rfl) (NQ_free _) (by kernel_rfl) ?cw2R62 ?ch2R62 ?ca2R62 (Eq.refl _) ?cH2R62
    case cw2R62 => (go_simp; done)
    case ch2R62 =>
      intro ds w' hS K hK
      have hc := (bcell hS).1
      have hf := (bcell hS).2
      have hz := hS.size
      try simp at hz
      go_simp
      try go_bits
      first
        | exact hK _ hS (Gr.refl _)
        | (go_at_call 29; (with_reducible refine (markSpan0 l A c B _ _ _ _ _ _ (b3.gr hS) (hR.below (hBB.trans (hS.mono (Below.size hBB))) hB) (by have := Below.size hBB; have := Below.size hS; omega) hpos hmost HIN hd0).mono ?_); rintro e w1 ⟨rfl, hB1⟩; exact hK _ (Below.trans hS (hB1.mono (Below.size hS))) hB1)
        | (go_at_call 29; (with_reducible refine (markSpan1 l A c B _ _ _ _ _ _ (b3.gr hS) (hR.below (hBB.trans (hS.mono (Below.size hBB))) hB) (by have := Below.size hBB; have := Below.size hS; omega) hpos hmost HIN hd1).mono ?_); rintro e w1 ⟨rfl, hB1⟩; exact hK _ (Below.trans hS (hB1.mono (Below.size hS))) hB1)
        | exact hK _ (by repeat (first | (with_reducible exact Below.refl _ _) | (with_reducible assumption) | ((with_reducible refine Below.setCell ?_ ?_ _); rotate_left; · (first | exact Nat.le_refl _ | (simp; done) | (simp; omega) | omega)) | ((with_reducible refine Below.alloc ?_ ?_ _); rotate_left; · (first | exact Nat.le_refl _ | (simp; done) | (simp; omega) | omega)) | (with_reducible apply Below.drew) | (with_reducible apply below_drewN') | (refine Below.trans ?_ (Below.mono (by assumption) (by first | exact Nat.le_refl _ | (simp; done) | (simp; omega) | omega))) | exact Below.refl _ _ | assumption)) (by repeat (first | (with_reducible exact Below.refl _ _) | (with_reducible assumption) | ((with_reducible refine Below.setCell ?_ ?_ _); rotate_left; · (first | exact Nat.le_refl _ | (simp; done) | (simp; omega) | omega)) | ((with_reducible refine Below.alloc ?_ ?_ _); rotate_left; · (first | exact Nat.le_refl _ | (simp; done) | (simp; omega) | omega)) | (with_reducible apply Below.drew) | (with_reducible apply below_drewN') | (refine Below.trans ?_ (Below.mono (by assumption) (by first | exact Nat.le_refl _ | (simp; done) | (simp; omega) | omega))) | exact Below.refl _ _ | assumption))
    case ca2R62 => (first | (simp [Act.put]; done) | (simp [Act.put, *]; done))
    try dsimp only
    refine wpW_det (t' := ?ct3R62) 3 (by rfl) (by kernel_rfl) (NQ_free _) (by kernel_rfl) ?cw3R62 ?ch3R62 ?ca3R62 (Eq.refl _) ?cH3R62
    case cw3R62 => (go_simp; done)
    case ch3R62 =>
      intro ds w' hS K hK
      have hc := (bcell hS).1
      have hf := (bcell hS).2
      have hz := hS.size
      try simp at hz
      go_simp
      try go_bits
      first
        | exact hK _ hS (Gr.refl _)
        | (go_at_call 29; (with_reducible refine (markSpan0 l A c B _ _ _ _ _ _ (b3.gr hS) (hR.below (hBB.trans (hS.mono (Below.size hBB))) hB) (by have := Below.size hBB; have := Below.size hS; omega) hpos hmost HIN hd0).mono ?_); rintro e w1 ⟨rfl, hB1⟩; exact hK _ (Below.trans hS (hB1.mono (Below.size hS))) hB1)
        | (go_at_call 29; (with_reducible refine (markSpan1 l A c B _ _ _ _ _ _ (b3.gr hS) (hR.below (hBB.trans (hS.mono (Below.size hBB))) hB) (by have := Below.size hBB; have := Below.size hS; omega) hpos hmost HIN hd1).mono ?_); rintro e w1 ⟨rfl, hB1⟩; exact hK _ (Below.trans hS (hB1.mono (Below.size hS))) hB1)
        | exact hK _ (by repeat (first | (with_reducible exact Below.refl _ _) | (with_reducible assumption) | ((with_reducible refine Below.setCell ?_ ?_ _); rotate_left; · (first | exact Nat.le_refl _ | (simp; done) | (simp; omega) | omega)) | ((with_reducible refine Below.alloc ?_ ?_ _); rotate_left; · (first | exact Nat.le_refl _ | (simp; done) | (simp; omega) | omega)) | (with_reducible apply Below.drew) | (with_reducible apply below_drewN') | (refine Below.trans ?_ (Below.mono (by assumption) (by first | exact Nat.le_refl _ | (simp; done) | (simp; omega) | omega))) | exact Below.refl _ _ | assumption)) (by repeat (first | (with_reducible exact Below.refl _ _) | (with_reducible assumption) | ((with_reducible refine Below.setCell ?_ ?_ _); rotate_left; · (first | exact Nat.le_refl _ | (simp; done) | (simp; omega) | omega)) | ((with_reducible refine Below.alloc ?_ ?_ _); rotate_left; · (first | exact Nat.le_refl _ | (simp; done) | (simp; omega) | omega)) | (with_reducible apply Below.drew) | (with_reducible apply below_drewN') | (refine Below.trans ?_ (Below.mono (by assumption) (by first | exact Nat.le_refl _ | (simp; done) | (simp; omega) | omega))) | exact Below.refl _ _ | assumption))
    case ca3R62 => (first | (simp [Act.put]; done) | (simp [Act.put, *]; done))
    try dsimp only
    refine wpW_det (t' := ?ct4R62) 4 (by rfl) (by kernel_rfl) (NQ_free _) (by kernel_rfl) ?cw4R62 ?ch4R62 ?ca4R62 (Eq.refl _) ?cH4R62
    case cw4R62 => (go_simp; done)
    case ch4R62 =>
      intro ds w' hS K hK
      have hc := (bcell hS).1
      have hf := (bcell hS).2
      have hz := hS.size
      try simp at hz
      go_simp
      try go_bits
      first
        | exact hK _ hS (Gr.refl _)
        | (go_at_call 29; (with_reducible refine (markSpan0 l A c B _ _ _ _ _ _ (b3.gr hS) (hR.below (hBB.trans (hS.mono (Below.size hBB))) hB) (by have := Below.size hBB; have := Below.size hS; omega) hpos hmost HIN hd0).mono ?_); rintro e w1 ⟨rfl, hB1⟩; exact hK _ (Below.trans hS (hB1.mono (Below.size hS))) hB1)
        | (go_at_call 29; (with_reducible refine (markSpan1 l A c B _ _ _ _ _ _ (b3.gr hS) (hR.below (hBB.trans (hS.mono (Below.size hBB))) hB) (by have := Below.size hBB; have := Below.size hS; omega) hpos hmost HIN hd1).mono ?_); rintro e w1 ⟨rfl, hB1⟩; exact hK _ (Below.trans hS (hB1.mono (Below.size hS))) hB1)
        | exact hK _ (by repeat (first | (with_reducible exact Below.refl _ _) | (with_reducible assumption) | ((with_reducible refine Below.setCell ?_ ?_ _); rotate_left; · (first | exact Nat.le_refl _ | (simp; done) | (simp; omega) | omega)) | ((with_reducible refine Below.alloc ?_ ?_ _); rotate_left; · (first | exact Nat.le_refl _ | (simp; done) | (simp; omega) | omega)) | (with_reducible apply Below.drew) | (with_reducible apply below_drewN') | (refine Below.trans ?_ (Below.mono (by assumption) (by first | exact Nat.le_refl _ | (simp; done) | (simp; omega) | omega))) | exact Below.refl _ _ | assumption)) (by repeat (first | (with_reducible exact Below.refl _ _) | (with_reducible assumption) | ((with_reducible refine Below.setCell ?_ ?_ _); rotate_left; · (first | exact Nat.le_refl _ | (simp; done) | (simp; omega) | omega)) | ((with_reducible refine Below.alloc ?_ ?_ _); rotate_left; · (first | exact Nat.le_refl _ | (simp; done) | (simp; omega) | omega)) | (with_reducible apply Below.drew) | (with_reducible apply below_drewN') | (refine Below.trans ?_ (Below.mono (by assumption) (by first | exact Nat.le_refl _ | (simp; done) | (simp; omega) | omega))) | exact Below.refl _ _ | assumption))
    case ca4R62 => (first | (simp [Act.put]; done) | (simp [Act.put, *]; done))
    try dsimp only
    refine wpW_det (t' := ?ct5R62) 5 (by rfl) (by kernel_rfl) (NQ_free _) (by kernel_rfl) ?cw5R62 ?ch5R62 ?ca5R62 (Eq.refl _) ?cH5R62
    case cw5R62 => (go_simp; done)
    case ch5R62 =>
      intro ds w' hS K hK
      have hc := (bcell hS).1
      have hf := (bcell hS).2
      have hz := hS.size
      try simp at hz
      go_simp
      try go_bits
      first
        | exact hK _ hS (Gr.refl _)
        | (go_at_call 29; (with_reducible refine (markSpan0 l A c B _ _ _ _ _ _ (b3.gr hS) (hR.below (hBB.trans (hS.mono (Below.size hBB))) hB) (by have := Below.size hBB; have := Below.size hS; omega) hpos hmost HIN hd0).mono ?_); rintro e w1 ⟨rfl, hB1⟩; exact hK _ (Below.trans hS (hB1.mono (Below.size hS))) hB1)
        | (go_at_call 29; (with_reducible refine (markSpan1 l A c B _ _ _ _ _ _ (b3.gr hS) (hR.below (hBB.trans (hS.mono (Below.size hBB))) hB) (by have := Below.size hBB; have := Below.size hS; omega) hpos hmost HIN hd1).mono ?_); rintro e w1 ⟨rfl, hB1⟩; exact hK _ (Below.trans hS (hB1.mono (Below.size hS))) hB1)
        | exact hK _ (by repeat (first | (with_reducible exact Below.refl _ _) | (with_reducible assumption) | ((with_reducible refine Below.setCell ?_ ?_ _); rotate_left; · (first | exact Nat.le_refl _ | (simp; done) | (simp; omega) | omega)) | ((with_reducible refine Below.alloc ?_ ?_ _); rotate_left; · (first | exact Nat.le_refl _ | (simp; done) | (simp; omega) | omega)) | (with_reducible apply Below.drew) | (with_reducible apply below_drewN') | (refine Below.trans ?_ (Below.mono (by assumption) (by first | exact Nat.le_refl _ | (simp; done) | (simp; omega) | omega))) | exact Below.refl _ _ | assumption)) (by repeat (first | (with_reducible exact Below.refl _ _) | (with_reducible assumption) | ((with_reducible refine Below.setCell ?_ ?_ _); rotate_left; · (first | exact Nat.le_refl _ | (simp; done) | (simp; omega) | omega)) | ((with_reducible refine Below.alloc ?_ ?_ _); rotate_left; · (first | exact Nat.le_refl _ | (simp; done) | (simp; omega) | omega)) | (with_reducible apply Below.drew) | (with_reducible apply below_drewN') | (refine Below.trans ?_ (Below.mono (by assumption) (by first | exact Nat.le_refl _ | (simp; done) | (simp; omega) | omega))) | exact Below.refl _ _ | assumption))
    case ca5R62 => (first | (simp [Act.put]; done) | (simp [Act.put, *]; done))
    try dsimp only
    refine wpW_det (t' := ?ct6R62) 6 (by rfl) (by kernel_rfl) (NQ_free _) (by kernel_rfl) ?cw6R62 ?ch6R62 ?ca6R62 (Eq.refl _) ?cH6R62
    case cw6R62 => (go_simp; done)
    case ch6R62 =>
      intro ds w' hS K hK
      have hc := (bcell hS).1
      have hf := (bcell hS).2
      have hz := hS.size
      try simp at hz
      go_simp
      try go_bits
      first
        | exact hK _ hS (Gr.refl _)
        | (go_at_call 29; (with_reducible refine (markSpan0 l A c B _ _ _ _ _ _ (b3.gr hS) (hR.below (hBB.trans (hS.mono (Below.size hBB))) hB) (by have := Below.size hBB; have := Below.size hS; omega) hpos hmost HIN hd0).mono ?_); rintro e w1 ⟨rfl, hB1⟩; exact hK _ (Below.trans hS (hB1.mono (Below.size hS))) hB1)
        | (go_at_call 29; (with_reducible refine (markSpan1 l A c B _ _ _ _ _ _ (b3.gr hS) (hR.below (hBB.trans (hS.mono (Below.size hBB))) hB) (by have := Below.size hBB; have := Below.size hS; omega) hpos hmost HIN hd1).mono ?_); rintro e w1 ⟨rfl, hB1⟩; exact hK _ (Below.trans hS (hB1.mono (Below.size hS))) hB1)
        | exact hK _ (by repeat (first | (with_reducible exact Below.refl _ _) | (with_reducible assumption) | ((with_reducible refine Below.setCell ?_ ?_ _); rotate_left; · (first | exact Nat.le_refl _ | (simp; done) | (simp; omega) | omega)) | ((with_reducible refine Below.alloc ?_ ?_ _); rotate_left; · (first | exact Nat.le_refl _ | (simp; done) | (simp; omega) | omega)) | (with_reducible apply Below.drew) | (with_reducible apply below_drewN') | (refine Below.trans ?_ (Below.mono (by assumption) (by first | exact Nat.le_refl _ | (simp; done) | (simp; omega) | omega))) | exact Below.refl _ _ | assumption)) (by repeat (first | (with_reducible exact Below.refl _ _) | (with_reducible assumption) | ((with_reducible refine Below.setCell ?_ ?_ _); rotate_left; · (first | exact Nat.le_refl _ | (simp; done) | (simp; omega) | omega)) | ((with_reducible refine Below.alloc ?_ ?_ _); rotate_left; · (first | exact Nat.le_refl _ | (simp; done) | (simp; omega) | omega)) | (with_reducible apply Below.drew) | (with_reducible apply below_drewN') | (refine Below.trans ?_ (Below.mono (by assumption) (by first | exact Nat.le_refl _ | (simp; done) | (simp; omega) | omega))) | exact Below.refl _ _ | assumption))
    case ca6R62 => (first | (simp [Act.put]; done) | (simp [Act.put, *]; done))
    try dsimp only
    refine wpW_det (t' := ?ct7R62) 7 (by rfl) (by kernel_rfl) (NQ_free _) (by kernel_rfl) ?cw7R62 ?ch7R62 ?ca7R62 (Eq.refl _) ?cH7R62
    case cw7R62 => (go_simp; done)
    case ch7R62 =>
      intro ds w' hS K hK
      have hc := (bcell hS).1
      have hf := (bcell hS).2
      have hz := hS.size
      try simp at hz
      go_simp
      try go_bits
      first
        | exact hK _ hS (Gr.refl _)
        | (go_at_call 29; (with_reducible refine (markSpan0 l A c B _ _ _ _ _ _ (b3.gr hS) (hR.below (hBB.trans (hS.mono (Below.size hBB))) hB) (by have := Below.size hBB; have := Below.size hS; omega) hpos hmost HIN hd0).mono ?_); rintro e w1 ⟨rfl, hB1⟩; exact hK _ (Below.trans hS (hB1.mono (Below.size hS))) hB1)
        | (go_at_call 29; (with_reducible refine (markSpan1 l A c B _ _ _ _ _ _ (b3.gr hS) (hR.below (hBB.trans (hS.mono (Below.size hBB))) hB) (by have := Below.size hBB; have := Below.size hS; omega) hpos hmost HIN hd1).mono ?_); rintro e w1 ⟨rfl, hB1⟩; exact hK _ (Below.trans hS (hB1.mono (Below.size hS))) hB1)
        | exact hK _ (by repeat (first | (with_reducible exact Below.refl _ _) | (with_reducible assumption) | ((with_reducible refine Below.setCell ?_ ?_ _); rotate_left; · (first | exact Nat.le_refl _ | (simp; done) | (simp; omega) | omega)) | ((with_reducible refine Below.alloc ?_ ?_ _); rotate_left; · (first | exact Nat.le_refl _ | (simp; done) | (simp; omega) | omega)) | (with_reducible apply Below.drew) | (with_reducible apply below_drewN') | (refine Below.trans ?_ (Below.mono (by assumption) (by first | exact Nat.le_refl _ | (simp; done) | (simp; omega) | omega))) | exact Below.refl _ _ | assumption)) (by repeat (first | (with_reducible exact Below.refl _ _) | (with_reducible assumption) | ((with_reducible refine Below.setCell ?_ ?_ _); rotate_left; · (first | exact Nat.le_refl _ | (simp; done) | (simp; omega) | omega)) | ((with_reducible refine Below.alloc ?_ ?_ _); rotate_left; · (first | exact Nat.le_refl _ | (simp; done) | (simp; omega) | omega)) | (with_reducible apply Below.drew) | (with_reducible apply below_drewN') | (refine Below.trans ?_ (Below.mono (by assumption) (by first | exact Nat.le_refl _ | (simp; done) | (simp; omega) | omega))) | exact Below.refl _ _ | assumption))
    case ca7R62 => (first | (simp [Act.put]; done) | (simp [Act.put, *]; done))
    try dsimp only
    refine wpW_det (t' := ?ct8R62) 8 (by rfl) (by kernel_rfl) (NQ_free _) (by kernel_rfl) ?cw8R62 ?ch8R62 ?ca8R62 (Eq.refl _) ?cH8R62
    case cw8R62 => (go_simp; done)
    case ch8R62 =>
      intro ds w' hS K hK
      have hc := (bcell hS).1
      have hf := (bcell hS).2
      have hz := hS.size
      try simp at hz
      go_simp
      try go_bits
      first
        | exact hK _ hS (Gr.refl _)
        | (go_at_call 29; (with_reducible refine (markSpan0 l A c B _ _ _ _ _ _ (b3.gr hS) (hR.below (hBB.trans (hS.mono (Below.size hBB))) hB) (by have := Below.size hBB; have := Below.size hS; omega) hpos hmost HIN hd0).mono ?_); rintro e w1 ⟨rfl, hB1⟩; exact hK _ (Below.trans hS (hB1.mono (Below.size hS))) hB1)
        | (go_at_call 29; (with_reducible refine (markSpan1 l A c B _ _ _ _ _ _ (b3.gr hS) (hR.below (hBB.trans (hS.mono (Below.size hBB))) hB) (by have := Below.size hBB; have := Below.size hS; omega) hpos hmost HIN hd1).mono ?_); rintro e w1 ⟨rfl, hB1⟩; exact hK _ (Below.trans hS (hB1.mono (Below.size hS))) hB1)
        | exact hK _ (by repeat (first | (with_reducible exact Below.refl _ _) | (with_reducible assumption) | ((with_reducible refine Below.setCell ?_ ?_ _); rotate_left; · (first | exact Nat.le_refl _ | (simp; done) | (simp; omega) | omega)) | ((with_reducible refine Below.alloc ?_ ?_ _); rotate_left; · (first | exact Nat.le_refl _ | (simp; done) | (simp; omega) | omega)) | (with_reducible apply Below.drew) | (with_reducible apply below_drewN') | (refine Below.trans ?_ (Below.mono (by assumption) (by first | exact Nat.le_refl _ | (simp; done) | (simp; omega) | omega))) | exact Below.refl _ _ | assumption)) (by repeat (first | (with_reducible exact Below.refl _ _) | (with_reducible assumption) | ((with_reducible refine Below.setCell ?_ ?_ _); rotate_left; · (first | exact Nat.le_refl _ | (simp; done) | (simp; omega) | omega)) | ((with_reducible refine Below.alloc ?_ ?_ _); rotate_left; · (first | exact Nat.le_refl _ | (simp; done) | (simp; omega) | omega)) | (with_reducible apply Below.drew) | (with_reducible apply below_drewN') | (refine Below.trans ?_ (Below.mono (by assumption) (by first | exact Nat.le_refl _ | (simp; done) | (simp; omega) | omega))) | exact Below.refl _ _ | assumption))
    case ca8R62 => (first | (simp [Act.put]; done) | (simp [Act.put, *]; done))
    try dsimp only
    refine wpW_det (t' := ?ct9R62) 9 (by rfl) (by kernel_rfl) (NQ_free _) (by kernel_rfl) ?cw9R62 ?ch9R62 ?ca9R62 (Eq.refl _) ?cH9R62
    case cw9R62 => (go_simp; done)
    case ch9R62 =>
      intro ds w' hS K hK
      have hc := (bcell hS).1
      have hf := (bcell hS).2
      have hz := hS.size
      try simp at hz
      go_simp
      try go_bits
      first
        | exact hK _ hS (Gr.refl _)
        | (go_at_call 29; (with_reducible refine (markSpan0 l A c B _ _ _ _ _ _ (b3.gr hS) (hR.below (hBB.trans (hS.mono (Below.size hBB))) hB) (by have := Below.size hBB; have := Below.size hS; omega) hpos hmost HIN hd0).mono ?_); rintro e w1 ⟨rfl, hB1⟩; exact hK _ (Below.trans hS (hB1.mono (Below.size hS))) hB1)
        | (go_at_call 29; (with_reducible refine (markSpan1 l A c B _ _ _ _ _ _ (b3.gr hS) (hR.below (hBB.trans (hS.mono (Below.size hBB))) hB) (by have := Below.size hBB; have := Below.size hS; omega) hpos hmost HIN hd1).mono ?_); rintro e w1 ⟨rfl, hB1⟩; exact hK _ (Below.trans hS (hB1.mono (Below.size hS))) hB1)
        | exact hK _ (by repeat (first | (with_reducible exact Below.refl _ _) | (with_reducible assumption) | ((with_reducible refine Below.setCell ?_ ?_ _); rotate_left; · (first | exact Nat.le_refl _ | (simp; done) | (simp; omega) | omega)) | ((with_reducible refine Below.alloc ?_ ?_ _); rotate_left; · (first | exact Nat.le_refl _ | (simp; done) | (simp; omega) | omega)) | (with_reducible apply Below.drew) | (with_reducible apply below_drewN') | (refine Below.trans ?_ (Below.mono (by assumption) (by first | exact Nat.le_refl _ | (simp; done) | (simp; omega) | omega))) | exact Below.refl _ _ | assumption)) (by repeat (first | (with_reducible exact Below.refl _ _) | (with_reducible assumption) | ((with_reducible refine Below.setCell ?_ ?_ _); rotate_left; · (first | exact Nat.le_refl _ | (simp; done) | (simp; omega) | omega)) | ((with_reducible refine Below.alloc ?_ ?_ _); rotate_left; · (first | exact Nat.le_refl _ | (simp; done) | (simp; omega) | omega)) | (with_reducible apply Below.drew) | (with_reducible apply below_drewN') | (refine Below.trans ?_ (Below.mono (by assumption) (by first | exact Nat.le_refl _ | (simp; done) | (simp; omega) | omega))) | exact Below.refl _ _ | assumption))
    case ca9R62 => (first | (simp [Act.put]; done) | (simp [Act.put, *]; done))
    try dsimp only
    refine wpW_det (t' := ?ct10R62) 10 (by rfl) (by kernel_rfl) (NQ_free _) (by kernel_rfl) ?cw10R62 ?ch10R62 ?ca10R62 (Eq.refl _) ?cH10R62
    case cw10R62 => (go_simp; done)
    case ch10R62 =>
      intro ds w' hS K hK
      have hc := (bcell hS).1
      have hf := (bcell hS).2
      have hz := hS.size
      try simp at hz
      go_simp
      try go_bits
      first
        | exact hK _ hS (Gr.refl _)
        | (go_at_call 29; (with_reducible refine (markSpan0 l A c B _ _ _ _ _ _ (b3.gr hS) (hR.below (hBB.trans (hS.mono (Below.size hBB))) hB) (by have := Below.size hBB; have := Below.size hS; omega) hpos hmost HIN hd0).mono ?_); rintro e w1 ⟨rfl, hB1⟩; exact hK _ (Below.trans hS (hB1.mono (Below.size hS))) hB1)
        | (go_at_call 29; (with_reducible refine (markSpan1 l A c B _ _ _ _ _ _ (b3.gr hS) (hR.below (hBB.trans (hS.mono (Below.size hBB))) hB) (by have := Below.size hBB; have := Below.size hS; omega) hpos hmost HIN hd1).mono ?_); rintro e w1 ⟨rfl, hB1⟩; exact hK _ (Below.trans hS (hB1.mono (Below.size hS))) hB1)
        | exact hK _ (by repeat (first | (with_reducible exact Below.refl _ _) | (with_reducible assumption) | ((with_reducible refine Below.setCell ?_ ?_ _); rotate_left; · (first | exact Nat.le_refl _ | (simp; done) | (simp; omega) | omega)) | ((with_reducible refine Below.alloc ?_ ?_ _); rotate_left; · (first | exact Nat.le_refl _ | (simp; done) | (simp; omega) | omega)) | (with_reducible apply Below.drew) | (with_reducible apply below_drewN') | (refine Below.trans ?_ (Below.mono (by assumption) (by first | exact Nat.le_refl _ | (simp; done) | (simp; omega) | omega))) | exact Below.refl _ _ | assumption)) (by repeat (first | (with_reducible exact Below.refl _ _) | (with_reducible assumption) | ((with_reducible refine Below.setCell ?_ ?_ _); rotate_left; · (first | exact Nat.le_refl _ | (simp; done) | (simp; omega) | omega)) | ((with_reducible refine Below.alloc ?_ ?_ _); rotate_left; · (first | exact Nat.le_refl _ | (simp; done) | (simp; omega) | omega)) | (with_reducible apply Below.drew) | (with_reducible apply below_drewN') | (refine Below.trans ?_ (Below.mono (by assumption) (by first | exact Nat.le_refl _ | (simp; done) | (simp; omega) | omega))) | exact Below.refl _ _ | assumption))
    case ca10R62 => (first | (simp [Act.put]; done) | (simp [Act.put, *]; done))
    try dsimp only
    refine wpW_det (t' := ?ct11R62) 11 (by rfl) (by kernel_rfl) (NQ_free _) (by kernel_rfl) ?cw11R62 ?ch11R62 ?ca11R62 (Eq.refl _) ?cH11R62
    case cw11R62 => (go_simp; done)
    case ch11R62 =>
      intro ds w' hS K hK
      have hc := (bcell hS).1
      have hf := (bcell hS).2
      have hz := hS.size
      try simp at hz
      go_simp
      try go_bits
      first
        | exact hK _ hS (Gr.refl _)
        | (go_at_call 29; (with_reducible refine (markSpan0 l A c B _ _ _ _ _ _ (b3.gr hS) (hR.below (hBB.trans (hS.mono (Below.size hBB))) hB) (by have := Below.size hBB; have := Below.size hS; omega) hpos hmost HIN hd0).mono ?_); rintro e w1 ⟨rfl, hB1⟩; exact hK _ (Below.trans hS (hB1.mono (Below.size hS))) hB1)
        | (go_at_call 29; (with_reducible refine (markSpan1 l A c B _ _ _ _ _ _ (b3.gr hS) (hR.below (hBB.trans (hS.mono (Below.size hBB))) hB) (by have := Below.size hBB; have := Below.size hS; omega) hpos hmost HIN hd1).mono ?_); rintro e w1 ⟨rfl, hB1⟩; exact hK _ (Below.trans hS (hB1.mono (Below.size hS))) hB1)
        | exact hK _ (by repeat (first | (with_reducible exact Below.refl _ _) | (with_reducible assumption) | ((with_reducible refine Below.setCell ?_ ?_ _); rotate_left; · (first | exact Nat.le_refl _ | (simp; done) | (simp; omega) | omega)) | ((with_reducible refine Below.alloc ?_ ?_ _); rotate_left; · (first | exact Nat.le_refl _ | (simp; done) | (simp; omega) | omega)) | (with_reducible apply Below.drew) | (with_reducible apply below_drewN') | (refine Below.trans ?_ (Below.mono (by assumption) (by first | exact Nat.le_refl _ | (simp; done) | (simp; omega) | omega))) | exact Below.refl _ _ | assumption)) (by repeat (first | (with_reducible exact Below.refl _ _) | (with_reducible assumption) | ((with_reducible refine Below.setCell ?_ ?_ _); rotate_left; · (first | exact Nat.le_refl _ | (simp; done) | (simp; omega) | omega)) | ((with_reducible refine Below.alloc ?_ ?_ _); rotate_left; · (first | exact Nat.le_refl _ | (simp; done) | (simp; omega) | omega)) | (with_reducible apply Below.drew) | (with_reducible apply below_drewN') | (refine Below.trans ?_ (Below.mono (by assumption) (by first | exact Nat.le_refl _ | (simp; done) | (simp; omega) | omega))) | exact Below.refl _ _ | assumption))
    case ca11R62 => (first | (simp [Act.put]; done) | (simp [Act.put, *]; done))
    try dsimp only
    refine wpW_branch [12] (by kernel_rfl) (by simp) ?_
    intro w1 hg1 hS1
    have hc1 := (bcell hg1).1
    have hf1 := (bcell hg1).2
    have hz1 := hg1.size
    try simp at hz1
    refine each_cons ?_ (each_nil)
    · refine wpOp_go (by rfl) (Eq.refl _) (by go_simp; done) ?_
      intro K hK
      go_simp
      try simp only [Act.put]
      refine hK _ _ (by repeat (first | (with_reducible exact Below.refl _ _) | (with_reducible assumption) | ((with_reducible refine Below.setCell ?_ ?_ _); rotate_left; · (first | exact Nat.le_refl _ | (simp; done) | (simp; omega) | omega)) | ((with_reducible refine Below.alloc ?_ ?_ _); rotate_left; · (first | exact Nat.le_refl _ | (simp; done) | (simp; omega) | omega)) | (with_reducible apply Below.drew) | (with_reducible apply below_drewN') | (refine Below.trans ?_ (Below.mono (by assumption) (by first | exact Nat.le_refl _ | (simp; done) | (simp; omega) | omega))) | exact Below.refl _ _ | assumption)) ?_
      clear hK K
      refine wpW_branch [13] (by kernel_rfl) (by simp) ?_
      intro w2 hg2 hS2
      have hc2 := (bcell hg2).1
      have hf2 := (bcell hg2).2
      have hz2 := hg2.size
      try simp at hz2
      have hl1_2 : w1.heap.size ≤ w2.heap.size := by omega
      try have hm1_2 : w1.heap.size < w2.heap.size := by omega
      refine each_cons ?_ (each_nil)
      · refine wpOp_go (by rfl) (Eq.refl _) (by go_simp; done) ?_
        intro K hK
        go_simp
        try simp only [Act.put]
        refine hK _ _ (by repeat (first | (with_reducible exact Below.refl _ _) | (with_reducible assumption) | ((with_reducible refine Below.setCell ?_ ?_ _); rotate_left; · (first | exact Nat.le_refl _ | (simp; done) | (simp; omega) | omega)) | ((with_reducible refine Below.alloc ?_ ?_ _); rotate_left; · (first | exact Nat.le_refl _ | (simp; done) | (simp; omega) | omega)) | (with_reducible apply Below.drew) | (with_reducible apply below_drewN') | (refine Below.trans ?_ (Below.mono (by assumption) (by first | exact Nat.le_refl _ | (simp; done) | (simp; omega) | omega))) | exact Below.refl _ _ | assumption)) ?_
        clear hK K
        refine wpW_end (by kernel_rfl) ?_
        intro w3 hg3 hS3
        have hc3 := (bcell hg3).1
        have hf3 := (bcell hg3).2
        have hz3 := hg3.size
        try simp at hz3
        have hl1_3 : w1.heap.size ≤ w3.heap.size := by omega
        try have hm1_3 : w1.heap.size < w3.heap.size := by omega
        have hl2_3 : w2.heap.size ≤ w3.heap.size := by omega
        try have hm2_3 : w2.heap.size < w3.heap.size := by omega
        unfold NQ
        dsimp only
        have b10 : Blk w3 w1.heap.size 46 (mkC (spanM l d0 d1 nm lv)) := Blk.gr ((Blk.gr (Blk.new w1 46 (mkC mk0)) hg2).set6 (.string nm) (.int .i64 ((spanP 0 l l.length).1 * d0)) (.int .i64 (((spanP 0 l l.length).2 + 1) * d0)) (.int .i64 ((spanP 1 l l.length).1 * d1)) (.int .i64 (((spanP 1 l l.length).2 + 1) * d1)) (.int .i64 lv)) hg3
        have n610 : w.heap.size + 1 + 1 < w1.heap.size := by have := b6.lt; have := Below.size hS1; omega
        replace b6 := b6.gr hS3
        replace hBB := hBB.trans (hS3.mono (Below.size hBB))
        generalize hN : w1.heap.size = N at *
        clear hg1 hS1 hc1 hf1 hz1 hg2 hS2 hc2 hf2 hz2 hg3 hS3 hc3 hf3 hz3 hl1_2 hm1_2 hl1_3 hm1_3 hl2_3 x0 x1 x2 x3 y0 y1 z0 z1 z2 z3 z4 z5 f3 f4 f6 b3 b4 hN
        have hsz : (spanM l d0 d1 nm lv).nm.size ≤ 1000000000000 := hnm
        generalize spanM l d0 d1 nm lv = M at *
        have l_b6 := b6.lt
        obtain ⟨z0, z1, z2, z3, z4, z5, f6⟩ := blk6 b6
        have l_b10 := b10.lt
        obtain ⟨g0, g1, g2, g3, g4, g5, f10⟩ := blk6 b10
        have l_b6 := b6.lt
        have l_b10 := b10.lt
        obtain ⟨z0, z1, z2, z3, z4, z5, f6⟩ := blk6 b6
        obtain ⟨g0, g1, g2, g3, g4, g5, f10⟩ := blk6 b10
        obtain ⟨e, he⟩ : ∃ e, markE M = e := ⟨_, rfl⟩
        rw [he] at HV2
        have HEE := Lib.hid he; clear he
        go_wp2_with fail
        refine (markErr_any M hsz _).mono ?_
        rw [HEE.out]
        rintro e wc2 ⟨rfl, hBc2⟩
        replace b6 := b6.gr hBc2
        replace b10 := b10.gr hBc2
        replace hBB := hBB.trans (Below.mono hBc2 (Below.size hBB))
        clear hBc2
        clear l_b6 z0 z1 z2 z3 z4 z5 f6 l_b10 g0 g1 g2 g3 g4 g5 f10
        have l_b6 := b6.lt
        have l_b10 := b10.lt
        obtain ⟨z0, z1, z2, z3, z4, z5, f6⟩ := blk6 b6
        obtain ⟨g0, g1, g2, g3, g4, g5, f10⟩ := blk6 b10
        trace_state
        by_cases h1 : e = 0
        · have HV3 : Hid (markOfV l d0 d1 nm lv = (M, 0)) := Lib.hid (by rw [HV2.out, if_neg (by simpa using h1)])
          subst h1
          go_wp2
          have b9 := b6.set6 (.string M.nm) (.int .i64 M.al) (.int .i64 M.ah) (.int .i64 M.dl) (.int .i64 M.dh) (.int .i64 M.lv)
          obtain ⟨u0, u1, u2, u3, u4, u5, _⟩ := blk6 b9
          rw [HV3.out]
          exact bodyPost_ret (v := .tuple #[.agg (mkC M), .int .i64 0]) (by simp [results, Tryz.results11, go_sem, u0, u1, u2, u3, u4, u5]) rfl ⟨rfl, Below.set6 hBB (by omega)⟩
        · have HV3 : Hid (markOfV l d0 d1 nm lv = (mk0, e)) := Lib.hid (by rw [HV2.out, if_pos h1])
          have h1' : (e != 0) = true := by simpa using h1
          go_wp2
          have b9 := b6.set6 (.string ⟨#[]⟩) (.int .i64 0) (.int .i64 0) (.int .i64 0) (.int .i64 0) (.int .i64 0)
          obtain ⟨u0, u1, u2, u3, u4, u5, _⟩ := blk6 b9
          rw [HV3.out]
          exact bodyPost_ret (v := .tuple #[.agg (mkC mk0), .int .i64 e]) (by simp [results, Tryz.results11, go_sem, u0, u1, u2, u3, u4, u5]) rfl ⟨rfl, Below.set6 hBB (by omega)⟩
  · have h0' : (E != 0) = true := by simpa using h0
    have HV2 : Hid (markOfV l d0 d1 nm lv = (mk0, E)) := Lib.hid (by rw [HV.out, if_pos h0])
    go_wp2
    have b9 := b6.set6 (.string ⟨#[]⟩) (.int .i64 0) (.int .i64 0) (.int .i64 0) (.int .i64 0) (.int .i64 0)
    obtain ⟨u0, u1, u2, u3, u4, u5, _⟩ := blk6 b9
    rw [HV2.out]
    exact bodyPost_ret (v := .tuple #[.agg (mkC mk0), .int .i64 E]) (by simp [results, Tryz.results11, go_sem, u0, u1, u2, u3, u4, u5]) rfl ⟨rfl, Below.set6 hBB (by omega)⟩
end Go.Proofs.YtclpljbllnhhbaaGreat
