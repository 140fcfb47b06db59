/- Contracts: the hull of marks. Contracts: the law's numbers; the reference's hull of a group. -/
import Derived.Deep.DeepCutAuto
import Derived.Test.YtclpljbllnhhbaaGreatZeFcG
import Derived.Test.YtclpljbllnhhbaaGreatZeFfA
namespace Go.Proofs.YtclpljbllnhhbaaGreat
open Go.RowKit

abbrev mk0 : Mk := ⟨⟨#[]⟩, 0, 0, 0, 0, 0⟩

end Go.Proofs.YtclpljbllnhhbaaGreat

namespace Go.Proofs.YtclpljbllnhhbaaGreat
open Go.RowKit

set_option maxRecDepth 100000 in
set_option maxHeartbeats 1000000 in
theorem refHull_any (a0 a1 b0 b1 : Int) (w : World) :
    Calls Tryz.prog 51 #[.agg (rgC a0 a1), .agg (rgC b0 b1)] w fun e w' => e = .returned (.agg (rgC (min a0 b0) (max a1 b1))) ∧ Below w.heap.size w w' := by
  unfold rgC
  go_enter Tryz.func51, Tryz.ntmps51
  go_wp2
  have bn := Blk.new ((w.alloc (.cells #[.int .i64 a0, .int .i64 a1] 44)).alloc (.cells #[.int .i64 b0, .int .i64 b1] 44)) 44 #[.int .i64 (min a0 b0), .int .i64 (max a1 b1)]
  simp only [World.size_alloc] at bn
  obtain ⟨u0, u1, _⟩ := blk2c bn
  exact bodyPost_ret (v := .agg #[.int .i64 (min a0 b0), .int .i64 (max a1 b1)]) (by simp [results, Tryz.results51, go_sem, u0, u1]) rfl ⟨rfl, (by repeat (first | (with_reducible exact Below.refl _ _) | (with_reducible assumption) | ((with_reducible refine Below.setCell ?_ ?_ _); rotate_left; · (first | exact Nat.le_refl _ | (simp; done) | (simp; omega) | omega)) | ((with_reducible refine Below.alloc ?_ ?_ _); rotate_left; · (first | exact Nat.le_refl _ | (simp; done) | (simp; omega) | omega)) | (with_reducible apply Below.drew) | (with_reducible apply below_drewN') | (refine Below.trans ?_ (Below.mono (by assumption) (by first | exact Nat.le_refl _ | (simp; done) | (simp; omega) | omega))) | exact Below.refl _ _ | assumption))⟩

/-- The hull of the first k marks of a group. -/
def hullK (l : List Mk) (g : List Int) (k : Nat) : Mk := ((g.take k).drop 1).foldl (fun o j => hullV o (l[j.toNat]?.getD o)) (l[(g.headD 0).toNat]?.getD mk0)
theorem hullK_all {l : List Mk} {g : List Int} (h : g ≠ []) : hullK l g g.length = hullR l g := by
  cases g with
  | nil => exact absurd rfl h
  | cons i t => simp [hullK, hullR]
theorem hullK_one {l : List Mk} {g : List Int} (h : 0 < g.length) (hi : g[0].toNat < l.length) : hullK l g 1 = l[g[0].toNat] := by
  cases g with
  | nil => simp at h
  | cons i t =>
    have hi' : i.toNat < l.length := hi
    simp [hullK, List.getElem?_eq_getElem hi']
theorem hullK_succ {l : List Mk} {g : List Int} {k : Nat} (h : k < g.length) (h0 : 0 < k) (hi : g[k].toNat < l.length) : hullK l g (k + 1) = hullV (hullK l g k) l[g[k].toNat] := by
  unfold hullK
  rw [List.take_succ_eq_append_getElem h, List.drop_append_of_le_length (by simp; omega), List.foldl_append]
  simp only [List.foldl_cons, List.foldl_nil]
  rw [List.getElem?_eq_getElem hi]; rfl
theorem idx_nat {n : Nat} {i : Int} (h : 0 ≤ i ∧ i < n) : ∃ k : Nat, i = (k : Int) ∧ k < n := ⟨i.toNat, by omega, by omega⟩

theorem Blk.put12 {w : World} {g t : Nat} {v0 v1 v2 v3 v4 v5 : Value} (h : Blk w g t #[v0, v1, v2, v3, v4, v5]) (u1 u2 : Value) : Blk ((w.setCell ⟨g, 1, none⟩ u1).setCell ⟨g, 2, none⟩ u2) g t #[v0, u1, u2, v3, v4, v5] := (h.set_ 1 u1).set_ 2 u2
theorem Blk.put34 {w : World} {g t : Nat} {v0 v1 v2 v3 v4 v5 : Value} (h : Blk w g t #[v0, v1, v2, v3, v4, v5]) (u3 u4 : Value) : Blk ((w.setCell ⟨g, 3, none⟩ u3).setCell ⟨g, 4, none⟩ u4) g t #[v0, v1, v2, u3, u4, v5] := (h.set_ 3 u3).set_ 4 u4
theorem Blk.put5 {w : World} {g t : Nat} {v0 v1 v2 v3 v4 v5 : Value} (h : Blk w g t #[v0, v1, v2, v3, v4, v5]) (u5 : Value) : Blk (w.setCell ⟨g, 5, none⟩ u5) g t #[v0, v1, v2, v3, v4, u5] := h.set_ 5 u5
theorem only_set2' {a w : World} {g : Nat} {row : Option Nat} (hr : row = some g) (h : a.grownBy w row) (i : Nat) (u : Value) : a.grownBy (w.setCell ⟨g, i, none⟩ u) row := by subst hr; exact only_setCell (p := ⟨g, i, none⟩) h (.inl rfl) u
set_option maxRecDepth 100000 in
set_option maxHeartbeats 4000000 in
/-- A mark is taken into the hull (region 6). -/
theorem hullReg6 {w : World} {N M : Nat} (P q : Mk) (b5 : Blk w N 46 (mkC P)) (b7 : Blk w M 46 (mkC q)) (hne : M ≠ N) {t0 t1 t2 t3 t4 t6 t8 t9 t10 t11 t12 t13 t14 t15 t16 t17 t18 t19 t20 t21 t22 t23 t24 t25 t26 t27 t28 t29 t30 t31 t32 t33 t34 t35 t36 t37 t38 t39 t40 t41 t42 t43 t44 t45 : Value} {ds : List Deferred} (Q : Exit → Act → World → Prop)
    (h : ∀ (t27 t28 t29 t30 t31 t32 t33 t34 t35 t36 t37 t38 t39 t40 t41 t42 t43 t44 : Value) (w' : World), Blk w' N 46 (mkC (hullV P q)) → w.grownBy w' (some N) → Q .normal ⟨#[t0, t1, t2, t3, t4, .pointer (some ⟨N, 0, none⟩), t6, .pointer (some ⟨M, 0, none⟩), t8, t9, t10, t11, t12, t13, t14, t15, t16, t17, t18, t19, t20, t21, t22, t23, t24, t25, t26, t27, t28, t29, t30, t31, t32, t33, t34, t35, t36, t37, t38, t39, t40, t41, t42, t43, t44, t45], ds⟩ w') :
    (regOf Tryz.f20 6).wp Tryz.prog Q ⟨#[t0, t1, t2, t3, t4, .pointer (some ⟨N, 0, none⟩), t6, .pointer (some ⟨M, 0, none⟩), t8, t9, t10, t11, t12, t13, t14, t15, t16, t17, t18, t19, t20, t21, t22, t23, t24, t25, t26, t27, t28, t29, t30, t31, t32, t33, t34, t35, t36, t37, t38, t39, t40, t41, t42, t43, t44, t45], ds⟩ w := by
  have H := Lib.hid h; clear h
  obtain ⟨g0, g1, g2, g3, g4, g5, f7⟩ := blk6 b7
  have l7 := b7.lt
  have l5 := b5.lt
  conv in (regOf _ _) => whnf
  obtain ⟨row, hrow⟩ : ∃ r : Option Nat, r = some N := ⟨_, rfl⟩
  have m1 : some M ≠ row := by rw [hrow]; intro e; exact hne (Option.some.inj e)
  have HRW := Lib.hid hrow; clear hrow
  clear b7
  refine wp_region_w (fun w' => World.grownBy _ w' row) (by kernel_rfl) (only_drew (World.grownBy.refl _ _)) ?_
  refine wpW_det (t' := ?ct0R3) 0 (by rfl) (by kernel_rfl) (NQ_free _) (by kernel_rfl) ?cw0R3 ?ch0R3 ?ca0R3 (Eq.refl _) ?cH0R3
  case cw0R3 => (go_simp; done)
  case ch0R3 =>
    intro ds w' hS K hK
    have hc := (ocell hS).1
    have hf := (ocell hS).2
    have hz := hS.size
    try simp at hz
    go_simp
    try go_bits
    first
      | exact hK _ hS (Gr.refl _)
      | fail
  case ca0R3 => (first | (simp [Act.put]; done) | (simp [Act.put, *]; done))
  try dsimp only
  refine wpW_det (t' := ?ct2R3) 2 (by rfl) (by kernel_rfl) (NQ_free _) (by kernel_rfl) ?cw2R3 ?ch2R3 ?ca2R3 (Eq.refl _) ?cH2R3
  case cw2R3 => (go_simp; done)
  case ch2R3 =>
    intro ds w' hS K hK
    have hc := (ocell hS).1
    have hf := (ocell hS).2
    have hz := hS.size
    try simp at hz
    go_simp
    try go_bits
    first
      | exact hK _ hS (Gr.refl _)
      | fail
  case ca2R3 => (first | (simp [Act.put]; done) | (simp [Act.put, *]; done))
  try dsimp only
  refine wpW_det (t' := ?ct3R3) 3 (by rfl) (by kernel_rfl) (NQ_free _) (by kernel_rfl) ?cw3R3 ?ch3R3 ?ca3R3 (Eq.refl _) ?cH3R3
  case cw3R3 => (go_simp; done)
  case ch3R3 =>
    intro ds w' hS K hK
    have hc := (ocell hS).1
    have hf := (ocell hS).2
    have hz := hS.size
    try simp at hz
    go_simp
    try go_bits
    first
      | exact hK _ hS (Gr.refl _)
      | fail
  case ca3R3 => (first | (simp [Act.put]; done) | (simp [Act.put, *]; done))
  try dsimp only
  refine wpW_det (t' := ?ct5R3) 5 (by rfl) (by kernel_rfl) (NQ_free _) (by kernel_rfl) ?cw5R3 ?ch5R3 ?ca5R3 (Eq.refl _) ?cH5R3
  case cw5R3 => (go_simp; done)
  case ch5R3 =>
    intro ds w' hS K hK
    have hc := (ocell hS).1
    have hf := (ocell hS).2
    have hz := hS.size
    try simp at hz
    go_simp
    try go_bits
    first
      | exact hK _ hS (Gr.refl _)
      | fail
  case ca5R3 => (first | (simp [Act.put]; done) | (simp [Act.put, *]; done))
  try dsimp only
  refine wpW_det (t' := ?ct7R3) 7 (by rfl) (by kernel_rfl) (NQ_free _) (by kernel_rfl) ?cw7R3 ?ch7R3 ?ca7R3 (Eq.refl _) ?cH7R3
  case cw7R3 => (go_simp; done)
  case ch7R3 =>
    intro ds w' hS K hK
    have hc := (ocell hS).1
    have hf := (ocell hS).2
    have hz := hS.size
    try simp at hz
    go_simp
    try go_bits
    first
      | exact hK _ hS (Gr.refl _)
      | fail
  case ca7R3 => (first | (simp [Act.put]; done) | (simp [Act.put, *]; done))
  try dsimp only
  refine wpW_det (t' := ?ct8R3) 8 (by rfl) (by kernel_rfl) (NQ_free _) (by kernel_rfl) ?cw8R3 ?ch8R3 ?ca8R3 (Eq.refl _) ?cH8R3
  case cw8R3 => (go_simp; done)
  case ch8R3 =>
    intro ds w' hS K hK
    have hc := (ocell hS).1
    have hf := (ocell hS).2
    have hz := hS.size
    try simp at hz
    go_simp
    try go_bits
    first
      | exact hK _ hS (Gr.refl _)
      | fail
  case ca8R3 => (first | (simp [Act.put]; done) | (simp [Act.put, *]; done))
  try dsimp only
  refine wpW_det (t' := ?ct10R3) 10 (by rfl) (by kernel_rfl) (NQ_free _) (by kernel_rfl) ?cw10R3 ?ch10R3 ?ca10R3 (Eq.refl _) ?cH10R3
  case cw10R3 => (go_simp; done)
  case ch10R3 =>
    intro ds w' hS K hK
    have hc := (ocell hS).1
    have hf := (ocell hS).2
    have hz := hS.size
    try simp at hz
    go_simp
    try go_bits
    first
      | exact hK _ hS (Gr.refl _)
      | fail
  case ca10R3 => (first | (simp [Act.put]; done) | (simp [Act.put, *]; done))
  try dsimp only
  refine wpW_det (t' := ?ct12R3) 12 (by rfl) (by kernel_rfl) (NQ_free _) (by kernel_rfl) ?cw12R3 ?ch12R3 ?ca12R3 (Eq.refl _) ?cH12R3
  case cw12R3 => (go_simp; done)
  case ch12R3 =>
    intro ds w' hS K hK
    have hc := (ocell hS).1
    have hf := (ocell hS).2
    have hz := hS.size
    try simp at hz
    go_simp
    try go_bits
    first
      | exact hK _ hS (Gr.refl _)
      | fail
  case ca12R3 => (first | (simp [Act.put]; done) | (simp [Act.put, *]; done))
  try dsimp only
  refine wpW_det (t' := ?ct13R3) 13 (by rfl) (by kernel_rfl) (NQ_free _) (by kernel_rfl) ?cw13R3 ?ch13R3 ?ca13R3 (Eq.refl _) ?cH13R3
  case cw13R3 => (go_simp; done)
  case ch13R3 =>
    intro ds w' hS K hK
    have hc := (ocell hS).1
    have hf := (ocell hS).2
    have hz := hS.size
    try simp at hz
    go_simp
    try go_bits
    first
      | exact hK _ hS (Gr.refl _)
      | fail
  case ca13R3 => (first | (simp [Act.put]; done) | (simp [Act.put, *]; done))
  try dsimp only
  clear g0 g1 g2 g3 g4 g5 f7 l7 m1
  refine wpW_branch [1, 6, 11] (by kernel_rfl) (by simp) ?_
  intro w1 hg1 hS1
  have b5 := (by first | exact Blk.gr b5 hg1 | exact Blk.gr b5.drew hg1 : Blk w1 N 46 (mkC P))
  obtain ⟨e0, e1, e2, e3, e4, e5, f5⟩ := blk6 b5
  have l5 := b5.lt
  refine each_cons ?_ (each_cons ?_ (each_cons ?_ (each_nil)))
  · refine wpOp_go (by rfl) (Eq.refl _) (by go_simp; done) ?_
    intro K hK
    go_simp
    try simp only [Act.put]
    refine hK _ _ hS1 ?_
    clear hK K
    refine wpW_det (t' := ?ct4R4) 4 (by rfl) (by kernel_rfl) (NQ_free _) (by kernel_rfl) ?cw4R4 ?ch4R4 ?ca4R4 (Eq.refl _) ?cH4R4
    case cw4R4 => (go_simp; done)
    case ch4R4 =>
      intro ds w' hS K hK
      have hc := (ocell hS).1
      have hf := (ocell hS).2
      have hz := hS.size
      try simp at hz
      go_simp
      try go_bits
      first
        | exact hK _ hS (Gr.refl _)
        | (refine (refHull_any _ _ _ _ _).mono ?_; rintro e w1 ⟨rfl, hB1⟩; exact hK _ (only_below hS hB1 hS.size) hB1)
        | exact hK _ (by repeat (first | (with_reducible exact Below.refl _ _) | (with_reducible assumption) | ((with_reducible refine Below.setCell ?_ ?_ _); rotate_left; · (first | exact Nat.le_refl _ | (simp; done) | (simp; omega) | omega)) | ((with_reducible refine Below.alloc ?_ ?_ _); rotate_left; · (first | exact Nat.le_refl _ | (simp; done) | (simp; omega) | omega)) | (with_reducible apply Below.drew) | (with_reducible apply below_drewN') | (refine Below.trans ?_ (Below.mono (by assumption) (by first | exact Nat.le_refl _ | (simp; done) | (simp; omega) | omega))) | exact Below.refl _ _ | assumption)) (by repeat (first | (with_reducible exact Below.refl _ _) | (with_reducible assumption) | ((with_reducible refine Below.setCell ?_ ?_ _); rotate_left; · (first | exact Nat.le_refl _ | (simp; done) | (simp; omega) | omega)) | ((with_reducible refine Below.alloc ?_ ?_ _); rotate_left; · (first | exact Nat.le_refl _ | (simp; done) | (simp; omega) | omega)) | (with_reducible apply Below.drew) | (with_reducible apply below_drewN') | (refine Below.trans ?_ (Below.mono (by assumption) (by first | exact Nat.le_refl _ | (simp; done) | (simp; omega) | omega))) | exact Below.refl _ _ | assumption))
    case ca4R4 => (first | (simp [Act.put]; done) | (simp [Act.put, *]; done))
    try dsimp only
    refine wpW_branch [6, 11] (by kernel_rfl) (by simp) ?_
    intro w2 hg2 hS2
    have b5 := (by first | exact Blk.gr b5 hg2 | exact Blk.gr b5.drew hg2 : Blk w2 N 46 (mkC P))
    obtain ⟨e0, e1, e2, e3, e4, e5, f5⟩ := blk6 b5
    have l5 := b5.lt
    refine each_cons ?_ (each_cons ?_ (each_nil))
    · refine wpOp_go (by rfl) (Eq.refl _) (by go_simp; done) ?_
      intro K hK
      go_simp
      try simp only [Act.put]
      refine hK _ _ hS2 ?_
      clear hK K
      refine wpW_det (t' := ?ct9R5) 9 (by rfl) (by kernel_rfl) (NQ_free _) (by kernel_rfl) ?cw9R5 ?ch9R5 ?ca9R5 (Eq.refl _) ?cH9R5
      case cw9R5 => (go_simp; done)
      case ch9R5 =>
        intro ds w' hS K hK
        have hc := (ocell hS).1
        have hf := (ocell hS).2
        have hz := hS.size
        try simp at hz
        go_simp
        try go_bits
        first
          | exact hK _ hS (Gr.refl _)
          | (refine (refHull_any _ _ _ _ _).mono ?_; rintro e w1 ⟨rfl, hB1⟩; exact hK _ (only_below hS hB1 hS.size) hB1)
          | exact hK _ (by repeat (first | (with_reducible exact Below.refl _ _) | (with_reducible assumption) | ((with_reducible refine Below.setCell ?_ ?_ _); rotate_left; · (first | exact Nat.le_refl _ | (simp; done) | (simp; omega) | omega)) | ((with_reducible refine Below.alloc ?_ ?_ _); rotate_left; · (first | exact Nat.le_refl _ | (simp; done) | (simp; omega) | omega)) | (with_reducible apply Below.drew) | (with_reducible apply below_drewN') | (refine Below.trans ?_ (Below.mono (by assumption) (by first | exact Nat.le_refl _ | (simp; done) | (simp; omega) | omega))) | exact Below.refl _ _ | assumption)) (by repeat (first | (with_reducible exact Below.refl _ _) | (with_reducible assumption) | ((with_reducible refine Below.setCell ?_ ?_ _); rotate_left; · (first | exact Nat.le_refl _ | (simp; done) | (simp; omega) | omega)) | ((with_reducible refine Below.alloc ?_ ?_ _); rotate_left; · (first | exact Nat.le_refl _ | (simp; done) | (simp; omega) | omega)) | (with_reducible apply Below.drew) | (with_reducible apply below_drewN') | (refine Below.trans ?_ (Below.mono (by assumption) (by first | exact Nat.le_refl _ | (simp; done) | (simp; omega) | omega))) | exact Below.refl _ _ | assumption))
      case ca9R5 => (first | (simp [Act.put]; done) | (simp [Act.put, *]; done))
      try dsimp only
      refine wpW_branch [11] (by kernel_rfl) (by simp) ?_
      intro w3 hg3 hS3
      have b5 := (by first | exact Blk.gr b5 hg3 | exact Blk.gr b5.drew hg3 : Blk w3 N 46 (mkC P))
      obtain ⟨e0, e1, e2, e3, e4, e5, f5⟩ := blk6 b5
      have l5 := b5.lt
      refine each_cons ?_ (each_nil)
      · refine wpOp_go (by rfl) (Eq.refl _) (by go_simp; done) ?_
        intro K hK
        go_simp
        try simp only [Act.put]
        refine hK _ _ hS3 ?_
        clear hK K
        refine wpW_det (t' := ?ct14R6) 14 (by rfl) (by kernel_rfl) (NQ_free _) (by kernel_rfl) ?cw14R6 ?ch14R6 ?ca14R6 (Eq.refl _) ?cH14R6
        case cw14R6 => (go_simp; done)
        case ch14R6 =>
          intro ds w' hS K hK
          have hc := (ocell hS).1
          have hf := (ocell hS).2
          have hz := hS.size
          try simp at hz
          go_simp
          try go_bits
          first
            | exact hK _ hS (Gr.refl _)
            | exact hK _ (by repeat (first | (with_reducible exact Below.refl _ _) | (with_reducible assumption) | ((with_reducible refine Below.setCell ?_ ?_ _); rotate_left; · (first | exact Nat.le_refl _ | (simp; done) | (simp; omega) | omega)) | ((with_reducible refine Below.alloc ?_ ?_ _); rotate_left; · (first | exact Nat.le_refl _ | (simp; done) | (simp; omega) | omega)) | (with_reducible apply Below.drew) | (with_reducible apply below_drewN') | (refine Below.trans ?_ (Below.mono (by assumption) (by first | exact Nat.le_refl _ | (simp; done) | (simp; omega) | omega))) | exact Below.refl _ _ | assumption)) (by repeat (first | (with_reducible exact Below.refl _ _) | (with_reducible assumption) | ((with_reducible refine Below.setCell ?_ ?_ _); rotate_left; · (first | exact Nat.le_refl _ | (simp; done) | (simp; omega) | omega)) | ((with_reducible refine Below.alloc ?_ ?_ _); rotate_left; · (first | exact Nat.le_refl _ | (simp; done) | (simp; omega) | omega)) | (with_reducible apply Below.drew) | (with_reducible apply below_drewN') | (refine Below.trans ?_ (Below.mono (by assumption) (by first | exact Nat.le_refl _ | (simp; done) | (simp; omega) | omega))) | exact Below.refl _ _ | assumption))
        case ca14R6 => (first | (simp [Act.put]; done) | (simp [Act.put, *]; done))
        try dsimp only
        clear e0 e1 e2 e3 e4 e5 f5 l5
        refine wpW_det (t' := ?ct15R7) 15 (by rfl) (by kernel_rfl) (NQ_free _) (by kernel_rfl) ?cw15R7 ?ch15R7 ?ca15R7 (Eq.refl _) ?cH15R7
        case cw15R7 => (go_simp; done)
        case ch15R7 =>
          intro ds w' hS K hK
          have hc := (ocell hS).1
          have hf := (ocell hS).2
          have hz := hS.size
          try simp at hz
          go_simp
          try go_bits
          first
            | exact hK _ hS (Gr.refl _)
            | exact hK _ (by repeat (first | (with_reducible exact Below.refl _ _) | (with_reducible assumption) | ((with_reducible refine Below.setCell ?_ ?_ _); rotate_left; · (first | exact Nat.le_refl _ | (simp; done) | (simp; omega) | omega)) | ((with_reducible refine Below.alloc ?_ ?_ _); rotate_left; · (first | exact Nat.le_refl _ | (simp; done) | (simp; omega) | omega)) | (with_reducible apply Below.drew) | (with_reducible apply below_drewN') | (refine Below.trans ?_ (Below.mono (by assumption) (by first | exact Nat.le_refl _ | (simp; done) | (simp; omega) | omega))) | exact Below.refl _ _ | assumption)) (by repeat (first | (with_reducible exact Below.refl _ _) | (with_reducible assumption) | ((with_reducible refine Below.setCell ?_ ?_ _); rotate_left; · (first | exact Nat.le_refl _ | (simp; done) | (simp; omega) | omega)) | ((with_reducible refine Below.alloc ?_ ?_ _); rotate_left; · (first | exact Nat.le_refl _ | (simp; done) | (simp; omega) | omega)) | (with_reducible apply Below.drew) | (with_reducible apply below_drewN') | (refine Below.trans ?_ (Below.mono (by assumption) (by first | exact Nat.le_refl _ | (simp; done) | (simp; omega) | omega))) | exact Below.refl _ _ | assumption))
        case ca15R7 => (first | (simp [Act.put]; done) | (simp [Act.put, *]; done))
        try dsimp only
        refine wpW_branch [16] (by kernel_rfl) (by simp) ?_
        intro v1 hg_v1 hS_v1
        have b5 := Blk.gr b5 hg_v1
        have f5 := b5.frozen
        obtain ⟨e0, e1, e2, e3, e4, e5, _⟩ := blk6 b5
        have l5 := b5.lt
        refine each_cons ?_ each_nil
        refine wpOp_go (by rfl) (Eq.refl _) (by go_simp; done) ?_
        intro K hK
        go_simp
        try simp only [Act.put]
        refine hK _ _ (only_set2' HRW.out (only_set2' HRW.out hS_v1 _ _) _ _) ?_
        replace b5 := Blk.put12 b5 (.int .i64 (min P.al q.al)) (.int .i64 (max P.ah q.ah))
        clear hK K e0 e1 e2 e3 e4 e5 f5 l5
        refine wpW_det (t' := ?ct17R8) 17 (by rfl) (by kernel_rfl) (NQ_free _) (by kernel_rfl) ?cw17R8 ?ch17R8 ?ca17R8 (Eq.refl _) ?cH17R8
        case cw17R8 => (go_simp; done)
        case ch17R8 =>
          intro ds w' hS K hK
          have hc := (ocell hS).1
          have hf := (ocell hS).2
          have hz := hS.size
          try simp at hz
          go_simp
          try go_bits
          first
            | exact hK _ hS (Gr.refl _)
            | exact hK _ (by repeat (first | (with_reducible exact Below.refl _ _) | (with_reducible assumption) | ((with_reducible refine Below.setCell ?_ ?_ _); rotate_left; · (first | exact Nat.le_refl _ | (simp; done) | (simp; omega) | omega)) | ((with_reducible refine Below.alloc ?_ ?_ _); rotate_left; · (first | exact Nat.le_refl _ | (simp; done) | (simp; omega) | omega)) | (with_reducible apply Below.drew) | (with_reducible apply below_drewN') | (refine Below.trans ?_ (Below.mono (by assumption) (by first | exact Nat.le_refl _ | (simp; done) | (simp; omega) | omega))) | exact Below.refl _ _ | assumption)) (by repeat (first | (with_reducible exact Below.refl _ _) | (with_reducible assumption) | ((with_reducible refine Below.setCell ?_ ?_ _); rotate_left; · (first | exact Nat.le_refl _ | (simp; done) | (simp; omega) | omega)) | ((with_reducible refine Below.alloc ?_ ?_ _); rotate_left; · (first | exact Nat.le_refl _ | (simp; done) | (simp; omega) | omega)) | (with_reducible apply Below.drew) | (with_reducible apply below_drewN') | (refine Below.trans ?_ (Below.mono (by assumption) (by first | exact Nat.le_refl _ | (simp; done) | (simp; omega) | omega))) | exact Below.refl _ _ | assumption))
        case ca17R8 => (first | (simp [Act.put]; done) | (simp [Act.put, *]; done))
        try dsimp only
        refine wpW_branch [18] (by kernel_rfl) (by simp) ?_
        intro v2 hg_v2 hS_v2
        have b5 := Blk.gr b5 hg_v2
        have f5 := b5.frozen
        obtain ⟨e0, e1, e2, e3, e4, e5, _⟩ := blk6 b5
        have l5 := b5.lt
        refine each_cons ?_ each_nil
        refine wpOp_go (by rfl) (Eq.refl _) (by go_simp; done) ?_
        intro K hK
        go_simp
        try simp only [Act.put]
        refine hK _ _ (only_set2' HRW.out (only_set2' HRW.out hS_v2 _ _) _ _) ?_
        replace b5 := Blk.put34 b5 (.int .i64 (min P.dl q.dl)) (.int .i64 (max P.dh q.dh))
        clear hK K e0 e1 e2 e3 e4 e5 f5 l5
        refine wpW_det (t' := ?ct19R9) 19 (by rfl) (by kernel_rfl) (NQ_free _) (by kernel_rfl) ?cw19R9 ?ch19R9 ?ca19R9 (Eq.refl _) ?cH19R9
        case cw19R9 => (go_simp; done)
        case ch19R9 =>
          intro ds w' hS K hK
          have hc := (ocell hS).1
          have hf := (ocell hS).2
          have hz := hS.size
          try simp at hz
          go_simp
          try go_bits
          first
            | exact hK _ hS (Gr.refl _)
            | exact hK _ (by repeat (first | (with_reducible exact Below.refl _ _) | (with_reducible assumption) | ((with_reducible refine Below.setCell ?_ ?_ _); rotate_left; · (first | exact Nat.le_refl _ | (simp; done) | (simp; omega) | omega)) | ((with_reducible refine Below.alloc ?_ ?_ _); rotate_left; · (first | exact Nat.le_refl _ | (simp; done) | (simp; omega) | omega)) | (with_reducible apply Below.drew) | (with_reducible apply below_drewN') | (refine Below.trans ?_ (Below.mono (by assumption) (by first | exact Nat.le_refl _ | (simp; done) | (simp; omega) | omega))) | exact Below.refl _ _ | assumption)) (by repeat (first | (with_reducible exact Below.refl _ _) | (with_reducible assumption) | ((with_reducible refine Below.setCell ?_ ?_ _); rotate_left; · (first | exact Nat.le_refl _ | (simp; done) | (simp; omega) | omega)) | ((with_reducible refine Below.alloc ?_ ?_ _); rotate_left; · (first | exact Nat.le_refl _ | (simp; done) | (simp; omega) | omega)) | (with_reducible apply Below.drew) | (with_reducible apply below_drewN') | (refine Below.trans ?_ (Below.mono (by assumption) (by first | exact Nat.le_refl _ | (simp; done) | (simp; omega) | omega))) | exact Below.refl _ _ | assumption))
        case ca19R9 => (first | (simp [Act.put]; done) | (simp [Act.put, *]; done))
        try dsimp only
        refine wpW_branch [20] (by kernel_rfl) (by simp) ?_
        intro v3 hg_v3 hS_v3
        have b5 := Blk.gr b5 hg_v3
        have f5 := b5.frozen
        obtain ⟨e0, e1, e2, e3, e4, e5, _⟩ := blk6 b5
        have l5 := b5.lt
        refine each_cons ?_ each_nil
        refine wpOp_go (by rfl) (Eq.refl _) (by go_simp; done) ?_
        intro K hK
        go_simp
        try simp only [Act.put]
        refine hK _ _ (only_set2' HRW.out hS_v3 _ _) ?_
        replace b5 := Blk.put5 b5 (.int .i64 (max P.lv q.lv))
        clear hK K e0 e1 e2 e3 e4 e5 f5 l5
        refine wpW_end (by kernel_rfl) ?_
        intro we hg hS
        unfold NQ
        dsimp only
        rw [HRW.out] at hS
        replace b5 := b5.gr hg
        exact H.out _ _ _ _ _ _ _ _ _ _ _ _ _ _ _ _ _ _ _ b5 hS
    · refine wpOp_go (by rfl) (Eq.refl _) (by go_simp; done) ?_
      intro K hK
      go_simp
      try simp only [Act.put]
      refine hK _ _ hS2 ?_
      clear hK K
      refine wpW_det (t' := ?ct14R10) 14 (by rfl) (by kernel_rfl) (NQ_free _) (by kernel_rfl) ?cw14R10 ?ch14R10 ?ca14R10 (Eq.refl _) ?cH14R10
      case cw14R10 => (go_simp; done)
      case ch14R10 =>
        intro ds w' hS K hK
        have hc := (ocell hS).1
        have hf := (ocell hS).2
        have hz := hS.size
        try simp at hz
        go_simp
        try go_bits
        first
          | exact hK _ hS (Gr.refl _)
          | exact hK _ (by repeat (first | (with_reducible exact Below.refl _ _) | (with_reducible assumption) | ((with_reducible refine Below.setCell ?_ ?_ _); rotate_left; · (first | exact Nat.le_refl _ | (simp; done) | (simp; omega) | omega)) | ((with_reducible refine Below.alloc ?_ ?_ _); rotate_left; · (first | exact Nat.le_refl _ | (simp; done) | (simp; omega) | omega)) | (with_reducible apply Below.drew) | (with_reducible apply below_drewN') | (refine Below.trans ?_ (Below.mono (by assumption) (by first | exact Nat.le_refl _ | (simp; done) | (simp; omega) | omega))) | exact Below.refl _ _ | assumption)) (by repeat (first | (with_reducible exact Below.refl _ _) | (with_reducible assumption) | ((with_reducible refine Below.setCell ?_ ?_ _); rotate_left; · (first | exact Nat.le_refl _ | (simp; done) | (simp; omega) | omega)) | ((with_reducible refine Below.alloc ?_ ?_ _); rotate_left; · (first | exact Nat.le_refl _ | (simp; done) | (simp; omega) | omega)) | (with_reducible apply Below.drew) | (with_reducible apply below_drewN') | (refine Below.trans ?_ (Below.mono (by assumption) (by first | exact Nat.le_refl _ | (simp; done) | (simp; omega) | omega))) | exact Below.refl _ _ | assumption))
      case ca14R10 => (first | (simp [Act.put]; done) | (simp [Act.put, *]; done))
      try dsimp only
      refine wpW_branch [6] (by kernel_rfl) (by simp) ?_
      intro w3 hg3 hS3
      have b5 := (by first | exact Blk.gr b5 hg3 | exact Blk.gr b5.drew hg3 : Blk w3 N 46 (mkC P))
      obtain ⟨e0, e1, e2, e3, e4, e5, f5⟩ := blk6 b5
      have l5 := b5.lt
      refine each_cons ?_ (each_nil)
      · refine wpOp_go (by rfl) (Eq.refl _) (by go_simp; done) ?_
        intro K hK
        go_simp
        try simp only [Act.put]
        refine hK _ _ hS3 ?_
        clear hK K
        refine wpW_det (t' := ?ct9R11) 9 (by rfl) (by kernel_rfl) (NQ_free _) (by kernel_rfl) ?cw9R11 ?ch9R11 ?ca9R11 (Eq.refl _) ?cH9R11
        case cw9R11 => (go_simp; done)
        case ch9R11 =>
          intro ds w' hS K hK
          have hc := (ocell hS).1
          have hf := (ocell hS).2
          have hz := hS.size
          try simp at hz
          go_simp
          try go_bits
          first
            | exact hK _ hS (Gr.refl _)
            | (refine (refHull_any _ _ _ _ _).mono ?_; rintro e w1 ⟨rfl, hB1⟩; exact hK _ (only_below hS hB1 hS.size) hB1)
            | exact hK _ (by repeat (first | (with_reducible exact Below.refl _ _) | (with_reducible assumption) | ((with_reducible refine Below.setCell ?_ ?_ _); rotate_left; · (first | exact Nat.le_refl _ | (simp; done) | (simp; omega) | omega)) | ((with_reducible refine Below.alloc ?_ ?_ _); rotate_left; · (first | exact Nat.le_refl _ | (simp; done) | (simp; omega) | omega)) | (with_reducible apply Below.drew) | (with_reducible apply below_drewN') | (refine Below.trans ?_ (Below.mono (by assumption) (by first | exact Nat.le_refl _ | (simp; done) | (simp; omega) | omega))) | exact Below.refl _ _ | assumption)) (by repeat (first | (with_reducible exact Below.refl _ _) | (with_reducible assumption) | ((with_reducible refine Below.setCell ?_ ?_ _); rotate_left; · (first | exact Nat.le_refl _ | (simp; done) | (simp; omega) | omega)) | ((with_reducible refine Below.alloc ?_ ?_ _); rotate_left; · (first | exact Nat.le_refl _ | (simp; done) | (simp; omega) | omega)) | (with_reducible apply Below.drew) | (with_reducible apply below_drewN') | (refine Below.trans ?_ (Below.mono (by assumption) (by first | exact Nat.le_refl _ | (simp; done) | (simp; omega) | omega))) | exact Below.refl _ _ | assumption))
        case ca9R11 => (first | (simp [Act.put]; done) | (simp [Act.put, *]; done))
        try dsimp only
        clear e0 e1 e2 e3 e4 e5 f5 l5
        refine wpW_det (t' := ?ct15R12) 15 (by rfl) (by kernel_rfl) (NQ_free _) (by kernel_rfl) ?cw15R12 ?ch15R12 ?ca15R12 (Eq.refl _) ?cH15R12
        case cw15R12 => (go_simp; done)
        case ch15R12 =>
          intro ds w' hS K hK
          have hc := (ocell hS).1
          have hf := (ocell hS).2
          have hz := hS.size
          try simp at hz
          go_simp
          try go_bits
          first
            | exact hK _ hS (Gr.refl _)
            | exact hK _ (by repeat (first | (with_reducible exact Below.refl _ _) | (with_reducible assumption) | ((with_reducible refine Below.setCell ?_ ?_ _); rotate_left; · (first | exact Nat.le_refl _ | (simp; done) | (simp; omega) | omega)) | ((with_reducible refine Below.alloc ?_ ?_ _); rotate_left; · (first | exact Nat.le_refl _ | (simp; done) | (simp; omega) | omega)) | (with_reducible apply Below.drew) | (with_reducible apply below_drewN') | (refine Below.trans ?_ (Below.mono (by assumption) (by first | exact Nat.le_refl _ | (simp; done) | (simp; omega) | omega))) | exact Below.refl _ _ | assumption)) (by repeat (first | (with_reducible exact Below.refl _ _) | (with_reducible assumption) | ((with_reducible refine Below.setCell ?_ ?_ _); rotate_left; · (first | exact Nat.le_refl _ | (simp; done) | (simp; omega) | omega)) | ((with_reducible refine Below.alloc ?_ ?_ _); rotate_left; · (first | exact Nat.le_refl _ | (simp; done) | (simp; omega) | omega)) | (with_reducible apply Below.drew) | (with_reducible apply below_drewN') | (refine Below.trans ?_ (Below.mono (by assumption) (by first | exact Nat.le_refl _ | (simp; done) | (simp; omega) | omega))) | exact Below.refl _ _ | assumption))
        case ca15R12 => (first | (simp [Act.put]; done) | (simp [Act.put, *]; done))
        try dsimp only
        refine wpW_branch [16] (by kernel_rfl) (by simp) ?_
        intro v1 hg_v1 hS_v1
        have b5 := Blk.gr b5 hg_v1
        have f5 := b5.frozen
        obtain ⟨e0, e1, e2, e3, e4, e5, _⟩ := blk6 b5
        have l5 := b5.lt
        refine each_cons ?_ each_nil
        refine wpOp_go (by rfl) (Eq.refl _) (by go_simp; done) ?_
        intro K hK
        go_simp
        try simp only [Act.put]
        refine hK _ _ (only_set2' HRW.out (only_set2' HRW.out hS_v1 _ _) _ _) ?_
        replace b5 := Blk.put12 b5 (.int .i64 (min P.al q.al)) (.int .i64 (max P.ah q.ah))
        clear hK K e0 e1 e2 e3 e4 e5 f5 l5
        refine wpW_det (t' := ?ct17R13) 17 (by rfl) (by kernel_rfl) (NQ_free _) (by kernel_rfl) ?cw17R13 ?ch17R13 ?ca17R13 (Eq.refl _) ?cH17R13
        case cw17R13 => (go_simp; done)
        case ch17R13 =>
          intro ds w' hS K hK
          have hc := (ocell hS).1
          have hf := (ocell hS).2
          have hz := hS.size
          try simp at hz
          go_simp
          try go_bits
          first
            | exact hK _ hS (Gr.refl _)
            | exact hK _ (by repeat (first | (with_reducible exact Below.refl _ _) | (with_reducible assumption) | ((with_reducible refine Below.setCell ?_ ?_ _); rotate_left; · (first | exact Nat.le_refl _ | (simp; done) | (simp; omega) | omega)) | ((with_reducible refine Below.alloc ?_ ?_ _); rotate_left; · (first | exact Nat.le_refl _ | (simp; done) | (simp; omega) | omega)) | (with_reducible apply Below.drew) | (with_reducible apply below_drewN') | (refine Below.trans ?_ (Below.mono (by assumption) (by first | exact Nat.le_refl _ | (simp; done) | (simp; omega) | omega))) | exact Below.refl _ _ | assumption)) (by repeat (first | (with_reducible exact Below.refl _ _) | (with_reducible assumption) | ((with_reducible refine Below.setCell ?_ ?_ _); rotate_left; · (first | exact Nat.le_refl _ | (simp; done) | (simp; omega) | omega)) | ((with_reducible refine Below.alloc ?_ ?_ _); rotate_left; · (first | exact Nat.le_refl _ | (simp; done) | (simp; omega) | omega)) | (with_reducible apply Below.drew) | (with_reducible apply below_drewN') | (refine Below.trans ?_ (Below.mono (by assumption) (by first | exact Nat.le_refl _ | (simp; done) | (simp; omega) | omega))) | exact Below.refl _ _ | assumption))
        case ca17R13 => (first | (simp [Act.put]; done) | (simp [Act.put, *]; done))
        try dsimp only
        refine wpW_branch [18] (by kernel_rfl) (by simp) ?_
        intro v2 hg_v2 hS_v2
        have b5 := Blk.gr b5 hg_v2
        have f5 := b5.frozen
        obtain ⟨e0, e1, e2, e3, e4, e5, _⟩ := blk6 b5
        have l5 := b5.lt
        refine each_cons ?_ each_nil
        refine wpOp_go (by rfl) (Eq.refl _) (by go_simp; done) ?_
        intro K hK
        go_simp
        try simp only [Act.put]
        refine hK _ _ (only_set2' HRW.out (only_set2' HRW.out hS_v2 _ _) _ _) ?_
        replace b5 := Blk.put34 b5 (.int .i64 (min P.dl q.dl)) (.int .i64 (max P.dh q.dh))
        clear hK K e0 e1 e2 e3 e4 e5 f5 l5
        refine wpW_det (t' := ?ct19R14) 19 (by rfl) (by kernel_rfl) (NQ_free _) (by kernel_rfl) ?cw19R14 ?ch19R14 ?ca19R14 (Eq.refl _) ?cH19R14
        case cw19R14 => (go_simp; done)
        case ch19R14 =>
          intro ds w' hS K hK
          have hc := (ocell hS).1
          have hf := (ocell hS).2
          have hz := hS.size
          try simp at hz
          go_simp
          try go_bits
          first
            | exact hK _ hS (Gr.refl _)
            | exact hK _ (by repeat (first | (with_reducible exact Below.refl _ _) | (with_reducible assumption) | ((with_reducible refine Below.setCell ?_ ?_ _); rotate_left; · (first | exact Nat.le_refl _ | (simp; done) | (simp; omega) | omega)) | ((with_reducible refine Below.alloc ?_ ?_ _); rotate_left; · (first | exact Nat.le_refl _ | (simp; done) | (simp; omega) | omega)) | (with_reducible apply Below.drew) | (with_reducible apply below_drewN') | (refine Below.trans ?_ (Below.mono (by assumption) (by first | exact Nat.le_refl _ | (simp; done) | (simp; omega) | omega))) | exact Below.refl _ _ | assumption)) (by repeat (first | (with_reducible exact Below.refl _ _) | (with_reducible assumption) | ((with_reducible refine Below.setCell ?_ ?_ _); rotate_left; · (first | exact Nat.le_refl _ | (simp; done) | (simp; omega) | omega)) | ((with_reducible refine Below.alloc ?_ ?_ _); rotate_left; · (first | exact Nat.le_refl _ | (simp; done) | (simp; omega) | omega)) | (with_reducible apply Below.drew) | (with_reducible apply below_drewN') | (refine Below.trans ?_ (Below.mono (by assumption) (by first | exact Nat.le_refl _ | (simp; done) | (simp; omega) | omega))) | exact Below.refl _ _ | assumption))
        case ca19R14 => (first | (simp [Act.put]; done) | (simp [Act.put, *]; done))
        try dsimp only
        refine wpW_branch [20] (by kernel_rfl) (by simp) ?_
        intro v3 hg_v3 hS_v3
        have b5 := Blk.gr b5 hg_v3
        have f5 := b5.frozen
        obtain ⟨e0, e1, e2, e3, e4, e5, _⟩ := blk6 b5
        have l5 := b5.lt
        refine each_cons ?_ each_nil
        refine wpOp_go (by rfl) (Eq.refl _) (by go_simp; done) ?_
        intro K hK
        go_simp
        try simp only [Act.put]
        refine hK _ _ (only_set2' HRW.out hS_v3 _ _) ?_
        replace b5 := Blk.put5 b5 (.int .i64 (max P.lv q.lv))
        clear hK K e0 e1 e2 e3 e4 e5 f5 l5
        refine wpW_end (by kernel_rfl) ?_
        intro we hg hS
        unfold NQ
        dsimp only
        rw [HRW.out] at hS
        replace b5 := b5.gr hg
        exact H.out _ _ _ _ _ _ _ _ _ _ _ _ _ _ _ _ _ _ _ b5 hS
  · refine wpOp_go (by rfl) (Eq.refl _) (by go_simp; done) ?_
    intro K hK
    go_simp
    try simp only [Act.put]
    refine hK _ _ hS1 ?_
    clear hK K
    refine wpW_branch [1, 11] (by kernel_rfl) (by simp) ?_
    intro w2 hg2 hS2
    have b5 := (by first | exact Blk.gr b5 hg2 | exact Blk.gr b5.drew hg2 : Blk w2 N 46 (mkC P))
    obtain ⟨e0, e1, e2, e3, e4, e5, f5⟩ := blk6 b5
    have l5 := b5.lt
    refine each_cons ?_ (each_cons ?_ (each_nil))
    · refine wpOp_go (by rfl) (Eq.refl _) (by go_simp; done) ?_
      intro K hK
      go_simp
      try simp only [Act.put]
      refine hK _ _ hS2 ?_
      clear hK K
      refine wpW_det (t' := ?ct4R15) 4 (by rfl) (by kernel_rfl) (NQ_free _) (by kernel_rfl) ?cw4R15 ?ch4R15 ?ca4R15 (Eq.refl _) ?cH4R15
      case cw4R15 => (go_simp; done)
      case ch4R15 =>
        intro ds w' hS K hK
        have hc := (ocell hS).1
        have hf := (ocell hS).2
        have hz := hS.size
        try simp at hz
        go_simp
        try go_bits
        first
          | exact hK _ hS (Gr.refl _)
          | (refine (refHull_any _ _ _ _ _).mono ?_; rintro e w1 ⟨rfl, hB1⟩; exact hK _ (only_below hS hB1 hS.size) hB1)
          | exact hK _ (by repeat (first | (with_reducible exact Below.refl _ _) | (with_reducible assumption) | ((with_reducible refine Below.setCell ?_ ?_ _); rotate_left; · (first | exact Nat.le_refl _ | (simp; done) | (simp; omega) | omega)) | ((with_reducible refine Below.alloc ?_ ?_ _); rotate_left; · (first | exact Nat.le_refl _ | (simp; done) | (simp; omega) | omega)) | (with_reducible apply Below.drew) | (with_reducible apply below_drewN') | (refine Below.trans ?_ (Below.mono (by assumption) (by first | exact Nat.le_refl _ | (simp; done) | (simp; omega) | omega))) | exact Below.refl _ _ | assumption)) (by repeat (first | (with_reducible exact Below.refl _ _) | (with_reducible assumption) | ((with_reducible refine Below.setCell ?_ ?_ _); rotate_left; · (first | exact Nat.le_refl _ | (simp; done) | (simp; omega) | omega)) | ((with_reducible refine Below.alloc ?_ ?_ _); rotate_left; · (first | exact Nat.le_refl _ | (simp; done) | (simp; omega) | omega)) | (with_reducible apply Below.drew) | (with_reducible apply below_drewN') | (refine Below.trans ?_ (Below.mono (by assumption) (by first | exact Nat.le_refl _ | (simp; done) | (simp; omega) | omega))) | exact Below.refl _ _ | assumption))
      case ca4R15 => (first | (simp [Act.put]; done) | (simp [Act.put, *]; done))
      try dsimp only
      refine wpW_det (t' := ?ct9R16) 9 (by rfl) (by kernel_rfl) (NQ_free _) (by kernel_rfl) ?cw9R16 ?ch9R16 ?ca9R16 (Eq.refl _) ?cH9R16
      case cw9R16 => (go_simp; done)
      case ch9R16 =>
        intro ds w' hS K hK
        have hc := (ocell hS).1
        have hf := (ocell hS).2
        have hz := hS.size
        try simp at hz
        go_simp
        try go_bits
        first
          | exact hK _ hS (Gr.refl _)
          | (refine (refHull_any _ _ _ _ _).mono ?_; rintro e w1 ⟨rfl, hB1⟩; exact hK _ (only_below hS hB1 hS.size) hB1)
          | exact hK _ (by repeat (first | (with_reducible exact Below.refl _ _) | (with_reducible assumption) | ((with_reducible refine Below.setCell ?_ ?_ _); rotate_left; · (first | exact Nat.le_refl _ | (simp; done) | (simp; omega) | omega)) | ((with_reducible refine Below.alloc ?_ ?_ _); rotate_left; · (first | exact Nat.le_refl _ | (simp; done) | (simp; omega) | omega)) | (with_reducible apply Below.drew) | (with_reducible apply below_drewN') | (refine Below.trans ?_ (Below.mono (by assumption) (by first | exact Nat.le_refl _ | (simp; done) | (simp; omega) | omega))) | exact Below.refl _ _ | assumption)) (by repeat (first | (with_reducible exact Below.refl _ _) | (with_reducible assumption) | ((with_reducible refine Below.setCell ?_ ?_ _); rotate_left; · (first | exact Nat.le_refl _ | (simp; done) | (simp; omega) | omega)) | ((with_reducible refine Below.alloc ?_ ?_ _); rotate_left; · (first | exact Nat.le_refl _ | (simp; done) | (simp; omega) | omega)) | (with_reducible apply Below.drew) | (with_reducible apply below_drewN') | (refine Below.trans ?_ (Below.mono (by assumption) (by first | exact Nat.le_refl _ | (simp; done) | (simp; omega) | omega))) | exact Below.refl _ _ | assumption))
      case ca9R16 => (first | (simp [Act.put]; done) | (simp [Act.put, *]; done))
      try dsimp only
      refine wpW_branch [11] (by kernel_rfl) (by simp) ?_
      intro w3 hg3 hS3
      have b5 := (by first | exact Blk.gr b5 hg3 | exact Blk.gr b5.drew hg3 : Blk w3 N 46 (mkC P))
      obtain ⟨e0, e1, e2, e3, e4, e5, f5⟩ := blk6 b5
      have l5 := b5.lt
      refine each_cons ?_ (each_nil)
      · refine wpOp_go (by rfl) (Eq.refl _) (by go_simp; done) ?_
        intro K hK
        go_simp
        try simp only [Act.put]
        refine hK _ _ hS3 ?_
        clear hK K
        refine wpW_det (t' := ?ct14R17) 14 (by rfl) (by kernel_rfl) (NQ_free _) (by kernel_rfl) ?cw14R17 ?ch14R17 ?ca14R17 (Eq.refl _) ?cH14R17
        case cw14R17 => (go_simp; done)
        case ch14R17 =>
          intro ds w' hS K hK
          have hc := (ocell hS).1
          have hf := (ocell hS).2
          have hz := hS.size
          try simp at hz
          go_simp
          try go_bits
          first
            | exact hK _ hS (Gr.refl _)
            | exact hK _ (by repeat (first | (with_reducible exact Below.refl _ _) | (with_reducible assumption) | ((with_reducible refine Below.setCell ?_ ?_ _); rotate_left; · (first | exact Nat.le_refl _ | (simp; done) | (simp; omega) | omega)) | ((with_reducible refine Below.alloc ?_ ?_ _); rotate_left; · (first | exact Nat.le_refl _ | (simp; done) | (simp; omega) | omega)) | (with_reducible apply Below.drew) | (with_reducible apply below_drewN') | (refine Below.trans ?_ (Below.mono (by assumption) (by first | exact Nat.le_refl _ | (simp; done) | (simp; omega) | omega))) | exact Below.refl _ _ | assumption)) (by repeat (first | (with_reducible exact Below.refl _ _) | (with_reducible assumption) | ((with_reducible refine Below.setCell ?_ ?_ _); rotate_left; · (first | exact Nat.le_refl _ | (simp; done) | (simp; omega) | omega)) | ((with_reducible refine Below.alloc ?_ ?_ _); rotate_left; · (first | exact Nat.le_refl _ | (simp; done) | (simp; omega) | omega)) | (with_reducible apply Below.drew) | (with_reducible apply below_drewN') | (refine Below.trans ?_ (Below.mono (by assumption) (by first | exact Nat.le_refl _ | (simp; done) | (simp; omega) | omega))) | exact Below.refl _ _ | assumption))
        case ca14R17 => (first | (simp [Act.put]; done) | (simp [Act.put, *]; done))
        try dsimp only
        clear e0 e1 e2 e3 e4 e5 f5 l5
        refine wpW_det (t' := ?ct15R18) 15 (by rfl) (by kernel_rfl) (NQ_free _) (by kernel_rfl) ?cw15R18 ?ch15R18 ?ca15R18 (Eq.refl _) ?cH15R18
        case cw15R18 => (go_simp; done)
        case ch15R18 =>
          intro ds w' hS K hK
          have hc := (ocell hS).1
          have hf := (ocell hS).2
          have hz := hS.size
          try simp at hz
          go_simp
          try go_bits
          first
            | exact hK _ hS (Gr.refl _)
            | exact hK _ (by repeat (first | (with_reducible exact Below.refl _ _) | (with_reducible assumption) | ((with_reducible refine Below.setCell ?_ ?_ _); rotate_left; · (first | exact Nat.le_refl _ | (simp; done) | (simp; omega) | omega)) | ((with_reducible refine Below.alloc ?_ ?_ _); rotate_left; · (first | exact Nat.le_refl _ | (simp; done) | (simp; omega) | omega)) | (with_reducible apply Below.drew) | (with_reducible apply below_drewN') | (refine Below.trans ?_ (Below.mono (by assumption) (by first | exact Nat.le_refl _ | (simp; done) | (simp; omega) | omega))) | exact Below.refl _ _ | assumption)) (by repeat (first | (with_reducible exact Below.refl _ _) | (with_reducible assumption) | ((with_reducible refine Below.setCell ?_ ?_ _); rotate_left; · (first | exact Nat.le_refl _ | (simp; done) | (simp; omega) | omega)) | ((with_reducible refine Below.alloc ?_ ?_ _); rotate_left; · (first | exact Nat.le_refl _ | (simp; done) | (simp; omega) | omega)) | (with_reducible apply Below.drew) | (with_reducible apply below_drewN') | (refine Below.trans ?_ (Below.mono (by assumption) (by first | exact Nat.le_refl _ | (simp; done) | (simp; omega) | omega))) | exact Below.refl _ _ | assumption))
        case ca15R18 => (first | (simp [Act.put]; done) | (simp [Act.put, *]; done))
        try dsimp only
        refine wpW_branch [16] (by kernel_rfl) (by simp) ?_
        intro v1 hg_v1 hS_v1
        have b5 := Blk.gr b5 hg_v1
        have f5 := b5.frozen
        obtain ⟨e0, e1, e2, e3, e4, e5, _⟩ := blk6 b5
        have l5 := b5.lt
        refine each_cons ?_ each_nil
        refine wpOp_go (by rfl) (Eq.refl _) (by go_simp; done) ?_
        intro K hK
        go_simp
        try simp only [Act.put]
        refine hK _ _ (only_set2' HRW.out (only_set2' HRW.out hS_v1 _ _) _ _) ?_
        replace b5 := Blk.put12 b5 (.int .i64 (min P.al q.al)) (.int .i64 (max P.ah q.ah))
        clear hK K e0 e1 e2 e3 e4 e5 f5 l5
        refine wpW_det (t' := ?ct17R19) 17 (by rfl) (by kernel_rfl) (NQ_free _) (by kernel_rfl) ?cw17R19 ?ch17R19 ?ca17R19 (Eq.refl _) ?cH17R19
        case cw17R19 => (go_simp; done)
        case ch17R19 =>
          intro ds w' hS K hK
          have hc := (ocell hS).1
          have hf := (ocell hS).2
          have hz := hS.size
          try simp at hz
          go_simp
          try go_bits
          first
            | exact hK _ hS (Gr.refl _)
            | exact hK _ (by repeat (first | (with_reducible exact Below.refl _ _) | (with_reducible assumption) | ((with_reducible refine Below.setCell ?_ ?_ _); rotate_left; · (first | exact Nat.le_refl _ | (simp; done) | (simp; omega) | omega)) | ((with_reducible refine Below.alloc ?_ ?_ _); rotate_left; · (first | exact Nat.le_refl _ | (simp; done) | (simp; omega) | omega)) | (with_reducible apply Below.drew) | (with_reducible apply below_drewN') | (refine Below.trans ?_ (Below.mono (by assumption) (by first | exact Nat.le_refl _ | (simp; done) | (simp; omega) | omega))) | exact Below.refl _ _ | assumption)) (by repeat (first | (with_reducible exact Below.refl _ _) | (with_reducible assumption) | ((with_reducible refine Below.setCell ?_ ?_ _); rotate_left; · (first | exact Nat.le_refl _ | (simp; done) | (simp; omega) | omega)) | ((with_reducible refine Below.alloc ?_ ?_ _); rotate_left; · (first | exact Nat.le_refl _ | (simp; done) | (simp; omega) | omega)) | (with_reducible apply Below.drew) | (with_reducible apply below_drewN') | (refine Below.trans ?_ (Below.mono (by assumption) (by first | exact Nat.le_refl _ | (simp; done) | (simp; omega) | omega))) | exact Below.refl _ _ | assumption))
        case ca17R19 => (first | (simp [Act.put]; done) | (simp [Act.put, *]; done))
        try dsimp only
        refine wpW_branch [18] (by kernel_rfl) (by simp) ?_
        intro v2 hg_v2 hS_v2
        have b5 := Blk.gr b5 hg_v2
        have f5 := b5.frozen
        obtain ⟨e0, e1, e2, e3, e4, e5, _⟩ := blk6 b5
        have l5 := b5.lt
        refine each_cons ?_ each_nil
        refine wpOp_go (by rfl) (Eq.refl _) (by go_simp; done) ?_
        intro K hK
        go_simp
        try simp only [Act.put]
        refine hK _ _ (only_set2' HRW.out (only_set2' HRW.out hS_v2 _ _) _ _) ?_
        replace b5 := Blk.put34 b5 (.int .i64 (min P.dl q.dl)) (.int .i64 (max P.dh q.dh))
        clear hK K e0 e1 e2 e3 e4 e5 f5 l5
        refine wpW_det (t' := ?ct19R20) 19 (by rfl) (by kernel_rfl) (NQ_free _) (by kernel_rfl) ?cw19R20 ?ch19R20 ?ca19R20 (Eq.refl _) ?cH19R20
        case cw19R20 => (go_simp; done)
        case ch19R20 =>
          intro ds w' hS K hK
          have hc := (ocell hS).1
          have hf := (ocell hS).2
          have hz := hS.size
          try simp at hz
          go_simp
          try go_bits
          first
            | exact hK _ hS (Gr.refl _)
            | exact hK _ (by repeat (first | (with_reducible exact Below.refl _ _) | (with_reducible assumption) | ((with_reducible refine Below.setCell ?_ ?_ _); rotate_left; · (first | exact Nat.le_refl _ | (simp; done) | (simp; omega) | omega)) | ((with_reducible refine Below.alloc ?_ ?_ _); rotate_left; · (first | exact Nat.le_refl _ | (simp; done) | (simp; omega) | omega)) | (with_reducible apply Below.drew) | (with_reducible apply below_drewN') | (refine Below.trans ?_ (Below.mono (by assumption) (by first | exact Nat.le_refl _ | (simp; done) | (simp; omega) | omega))) | exact Below.refl _ _ | assumption)) (by repeat (first | (with_reducible exact Below.refl _ _) | (with_reducible assumption) | ((with_reducible refine Below.setCell ?_ ?_ _); rotate_left; · (first | exact Nat.le_refl _ | (simp; done) | (simp; omega) | omega)) | ((with_reducible refine Below.alloc ?_ ?_ _); rotate_left; · (first | exact Nat.le_refl _ | (simp; done) | (simp; omega) | omega)) | (with_reducible apply Below.drew) | (with_reducible apply below_drewN') | (refine Below.trans ?_ (Below.mono (by assumption) (by first | exact Nat.le_refl _ | (simp; done) | (simp; omega) | omega))) | exact Below.refl _ _ | assumption))
        case ca19R20 => (first | (simp [Act.put]; done) | (simp [Act.put, *]; done))
        try dsimp only
        refine wpW_branch [20] (by kernel_rfl) (by simp) ?_
        intro v3 hg_v3 hS_v3
        have b5 := Blk.gr b5 hg_v3
        have f5 := b5.frozen
        obtain ⟨e0, e1, e2, e3, e4, e5, _⟩ := blk6 b5
        have l5 := b5.lt
        refine each_cons ?_ each_nil
        refine wpOp_go (by rfl) (Eq.refl _) (by go_simp; done) ?_
        intro K hK
        go_simp
        try simp only [Act.put]
        refine hK _ _ (only_set2' HRW.out hS_v3 _ _) ?_
        replace b5 := Blk.put5 b5 (.int .i64 (max P.lv q.lv))
        clear hK K e0 e1 e2 e3 e4 e5 f5 l5
        refine wpW_end (by kernel_rfl) ?_
        intro we hg hS
        unfold NQ
        dsimp only
        rw [HRW.out] at hS
        replace b5 := b5.gr hg
        exact H.out _ _ _ _ _ _ _ _ _ _ _ _ _ _ _ _ _ _ _ b5 hS
    · refine wpOp_go (by rfl) (Eq.refl _) (by go_simp; done) ?_
      intro K hK
      go_simp
      try simp only [Act.put]
      refine hK _ _ hS2 ?_
      clear hK K
      refine wpW_det (t' := ?ct14R21) 14 (by rfl) (by kernel_rfl) (NQ_free _) (by kernel_rfl) ?cw14R21 ?ch14R21 ?ca14R21 (Eq.refl _) ?cH14R21
      case cw14R21 => (go_simp; done)
      case ch14R21 =>
        intro ds w' hS K hK
        have hc := (ocell hS).1
        have hf := (ocell hS).2
        have hz := hS.size
        try simp at hz
        go_simp
        try go_bits
        first
          | exact hK _ hS (Gr.refl _)
          | exact hK _ (by repeat (first | (with_reducible exact Below.refl _ _) | (with_reducible assumption) | ((with_reducible refine Below.setCell ?_ ?_ _); rotate_left; · (first | exact Nat.le_refl _ | (simp; done) | (simp; omega) | omega)) | ((with_reducible refine Below.alloc ?_ ?_ _); rotate_left; · (first | exact Nat.le_refl _ | (simp; done) | (simp; omega) | omega)) | (with_reducible apply Below.drew) | (with_reducible apply below_drewN') | (refine Below.trans ?_ (Below.mono (by assumption) (by first | exact Nat.le_refl _ | (simp; done) | (simp; omega) | omega))) | exact Below.refl _ _ | assumption)) (by repeat (first | (with_reducible exact Below.refl _ _) | (with_reducible assumption) | ((with_reducible refine Below.setCell ?_ ?_ _); rotate_left; · (first | exact Nat.le_refl _ | (simp; done) | (simp; omega) | omega)) | ((with_reducible refine Below.alloc ?_ ?_ _); rotate_left; · (first | exact Nat.le_refl _ | (simp; done) | (simp; omega) | omega)) | (with_reducible apply Below.drew) | (with_reducible apply below_drewN') | (refine Below.trans ?_ (Below.mono (by assumption) (by first | exact Nat.le_refl _ | (simp; done) | (simp; omega) | omega))) | exact Below.refl _ _ | assumption))
      case ca14R21 => (first | (simp [Act.put]; done) | (simp [Act.put, *]; done))
      try dsimp only
      refine wpW_branch [1] (by kernel_rfl) (by simp) ?_
      intro w3 hg3 hS3
      have b5 := (by first | exact Blk.gr b5 hg3 | exact Blk.gr b5.drew hg3 : Blk w3 N 46 (mkC P))
      obtain ⟨e0, e1, e2, e3, e4, e5, f5⟩ := blk6 b5
      have l5 := b5.lt
      refine each_cons ?_ (each_nil)
      · refine wpOp_go (by rfl) (Eq.refl _) (by go_simp; done) ?_
        intro K hK
        go_simp
        try simp only [Act.put]
        refine hK _ _ hS3 ?_
        clear hK K
        refine wpW_det (t' := ?ct4R22) 4 (by rfl) (by kernel_rfl) (NQ_free _) (by kernel_rfl) ?cw4R22 ?ch4R22 ?ca4R22 (Eq.refl _) ?cH4R22
        case cw4R22 => (go_simp; done)
        case ch4R22 =>
          intro ds w' hS K hK
          have hc := (ocell hS).1
          have hf := (ocell hS).2
          have hz := hS.size
          try simp at hz
          go_simp
          try go_bits
          first
            | exact hK _ hS (Gr.refl _)
            | (refine (refHull_any _ _ _ _ _).mono ?_; rintro e w1 ⟨rfl, hB1⟩; exact hK _ (only_below hS hB1 hS.size) hB1)
            | exact hK _ (by repeat (first | (with_reducible exact Below.refl _ _) | (with_reducible assumption) | ((with_reducible refine Below.setCell ?_ ?_ _); rotate_left; · (first | exact Nat.le_refl _ | (simp; done) | (simp; omega) | omega)) | ((with_reducible refine Below.alloc ?_ ?_ _); rotate_left; · (first | exact Nat.le_refl _ | (simp; done) | (simp; omega) | omega)) | (with_reducible apply Below.drew) | (with_reducible apply below_drewN') | (refine Below.trans ?_ (Below.mono (by assumption) (by first | exact Nat.le_refl _ | (simp; done) | (simp; omega) | omega))) | exact Below.refl _ _ | assumption)) (by repeat (first | (with_reducible exact Below.refl _ _) | (with_reducible assumption) | ((with_reducible refine Below.setCell ?_ ?_ _); rotate_left; · (first | exact Nat.le_refl _ | (simp; done) | (simp; omega) | omega)) | ((with_reducible refine Below.alloc ?_ ?_ _); rotate_left; · (first | exact Nat.le_refl _ | (simp; done) | (simp; omega) | omega)) | (with_reducible apply Below.drew) | (with_reducible apply below_drewN') | (refine Below.trans ?_ (Below.mono (by assumption) (by first | exact Nat.le_refl _ | (simp; done) | (simp; omega) | omega))) | exact Below.refl _ _ | assumption))
        case ca4R22 => (first | (simp [Act.put]; done) | (simp [Act.put, *]; done))
        try dsimp only
        refine wpW_det (t' := ?ct9R23) 9 (by rfl) (by kernel_rfl) (NQ_free _) (by kernel_rfl) ?cw9R23 ?ch9R23 ?ca9R23 (Eq.refl _) ?cH9R23
        case cw9R23 => (go_simp; done)
        case ch9R23 =>
          intro ds w' hS K hK
          have hc := (ocell hS).1
          have hf := (ocell hS).2
          have hz := hS.size
          try simp at hz
          go_simp
          try go_bits
          first
            | exact hK _ hS (Gr.refl _)
            | (refine (refHull_any _ _ _ _ _).mono ?_; rintro e w1 ⟨rfl, hB1⟩; exact hK _ (only_below hS hB1 hS.size) hB1)
            | exact hK _ (by repeat (first | (with_reducible exact Below.refl _ _) | (with_reducible assumption) | ((with_reducible refine Below.setCell ?_ ?_ _); rotate_left; · (first | exact Nat.le_refl _ | (simp; done) | (simp; omega) | omega)) | ((with_reducible refine Below.alloc ?_ ?_ _); rotate_left; · (first | exact Nat.le_refl _ | (simp; done) | (simp; omega) | omega)) | (with_reducible apply Below.drew) | (with_reducible apply below_drewN') | (refine Below.trans ?_ (Below.mono (by assumption) (by first | exact Nat.le_refl _ | (simp; done) | (simp; omega) | omega))) | exact Below.refl _ _ | assumption)) (by repeat (first | (with_reducible exact Below.refl _ _) | (with_reducible assumption) | ((with_reducible refine Below.setCell ?_ ?_ _); rotate_left; · (first | exact Nat.le_refl _ | (simp; done) | (simp; omega) | omega)) | ((with_reducible refine Below.alloc ?_ ?_ _); rotate_left; · (first | exact Nat.le_refl _ | (simp; done) | (simp; omega) | omega)) | (with_reducible apply Below.drew) | (with_reducible apply below_drewN') | (refine Below.trans ?_ (Below.mono (by assumption) (by first | exact Nat.le_refl _ | (simp; done) | (simp; omega) | omega))) | exact Below.refl _ _ | assumption))
        case ca9R23 => (first | (simp [Act.put]; done) | (simp [Act.put, *]; done))
        try dsimp only
        clear e0 e1 e2 e3 e4 e5 f5 l5
        refine wpW_det (t' := ?ct15R24) 15 (by rfl) (by kernel_rfl) (NQ_free _) (by kernel_rfl) ?cw15R24 ?ch15R24 ?ca15R24 (Eq.refl _) ?cH15R24
        case cw15R24 => (go_simp; done)
        case ch15R24 =>
          intro ds w' hS K hK
          have hc := (ocell hS).1
          have hf := (ocell hS).2
          have hz := hS.size
          try simp at hz
          go_simp
          try go_bits
          first
            | exact hK _ hS (Gr.refl _)
            | exact hK _ (by repeat (first | (with_reducible exact Below.refl _ _) | (with_reducible assumption) | ((with_reducible refine Below.setCell ?_ ?_ _); rotate_left; · (first | exact Nat.le_refl _ | (simp; done) | (simp; omega) | omega)) | ((with_reducible refine Below.alloc ?_ ?_ _); rotate_left; · (first | exact Nat.le_refl _ | (simp; done) | (simp; omega) | omega)) | (with_reducible apply Below.drew) | (with_reducible apply below_drewN') | (refine Below.trans ?_ (Below.mono (by assumption) (by first | exact Nat.le_refl _ | (simp; done) | (simp; omega) | omega))) | exact Below.refl _ _ | assumption)) (by repeat (first | (with_reducible exact Below.refl _ _) | (with_reducible assumption) | ((with_reducible refine Below.setCell ?_ ?_ _); rotate_left; · (first | exact Nat.le_refl _ | (simp; done) | (simp; omega) | omega)) | ((with_reducible refine Below.alloc ?_ ?_ _); rotate_left; · (first | exact Nat.le_refl _ | (simp; done) | (simp; omega) | omega)) | (with_reducible apply Below.drew) | (with_reducible apply below_drewN') | (refine Below.trans ?_ (Below.mono (by assumption) (by first | exact Nat.le_refl _ | (simp; done) | (simp; omega) | omega))) | exact Below.refl _ _ | assumption))
        case ca15R24 => (first | (simp [Act.put]; done) | (simp [Act.put, *]; done))
        try dsimp only
        refine wpW_branch [16] (by kernel_rfl) (by simp) ?_
        intro v1 hg_v1 hS_v1
        have b5 := Blk.gr b5 hg_v1
        have f5 := b5.frozen
        obtain ⟨e0, e1, e2, e3, e4, e5, _⟩ := blk6 b5
        have l5 := b5.lt
        refine each_cons ?_ each_nil
        refine wpOp_go (by rfl) (Eq.refl _) (by go_simp; done) ?_
        intro K hK
        go_simp
        try simp only [Act.put]
        refine hK _ _ (only_set2' HRW.out (only_set2' HRW.out hS_v1 _ _) _ _) ?_
        replace b5 := Blk.put12 b5 (.int .i64 (min P.al q.al)) (.int .i64 (max P.ah q.ah))
        clear hK K e0 e1 e2 e3 e4 e5 f5 l5
        refine wpW_det (t' := ?ct17R25) 17 (by rfl) (by kernel_rfl) (NQ_free _) (by kernel_rfl) ?cw17R25 ?ch17R25 ?ca17R25 (Eq.refl _) ?cH17R25
        case cw17R25 => (go_simp; done)
        case ch17R25 =>
          intro ds w' hS K hK
          have hc := (ocell hS).1
          have hf := (ocell hS).2
          have hz := hS.size
          try simp at hz
          go_simp
          try go_bits
          first
            | exact hK _ hS (Gr.refl _)
            | exact hK _ (by repeat (first | (with_reducible exact Below.refl _ _) | (with_reducible assumption) | ((with_reducible refine Below.setCell ?_ ?_ _); rotate_left; · (first | exact Nat.le_refl _ | (simp; done) | (simp; omega) | omega)) | ((with_reducible refine Below.alloc ?_ ?_ _); rotate_left; · (first | exact Nat.le_refl _ | (simp; done) | (simp; omega) | omega)) | (with_reducible apply Below.drew) | (with_reducible apply below_drewN') | (refine Below.trans ?_ (Below.mono (by assumption) (by first | exact Nat.le_refl _ | (simp; done) | (simp; omega) | omega))) | exact Below.refl _ _ | assumption)) (by repeat (first | (with_reducible exact Below.refl _ _) | (with_reducible assumption) | ((with_reducible refine Below.setCell ?_ ?_ _); rotate_left; · (first | exact Nat.le_refl _ | (simp; done) | (simp; omega) | omega)) | ((with_reducible refine Below.alloc ?_ ?_ _); rotate_left; · (first | exact Nat.le_refl _ | (simp; done) | (simp; omega) | omega)) | (with_reducible apply Below.drew) | (with_reducible apply below_drewN') | (refine Below.trans ?_ (Below.mono (by assumption) (by first | exact Nat.le_refl _ | (simp; done) | (simp; omega) | omega))) | exact Below.refl _ _ | assumption))
        case ca17R25 => (first | (simp [Act.put]; done) | (simp [Act.put, *]; done))
        try dsimp only
        refine wpW_branch [18] (by kernel_rfl) (by simp) ?_
        intro v2 hg_v2 hS_v2
        have b5 := Blk.gr b5 hg_v2
        have f5 := b5.frozen
        obtain ⟨e0, e1, e2, e3, e4, e5, _⟩ := blk6 b5
        have l5 := b5.lt
        refine each_cons ?_ each_nil
        refine wpOp_go (by rfl) (Eq.refl _) (by go_simp; done) ?_
        intro K hK
        go_simp
        try simp only [Act.put]
        refine hK _ _ (only_set2' HRW.out (only_set2' HRW.out hS_v2 _ _) _ _) ?_
        replace b5 := Blk.put34 b5 (.int .i64 (min P.dl q.dl)) (.int .i64 (max P.dh q.dh))
        clear hK K e0 e1 e2 e3 e4 e5 f5 l5
        refine wpW_det (t' := ?ct19R26) 19 (by rfl) (by kernel_rfl) (NQ_free _) (by kernel_rfl) ?cw19R26 ?ch19R26 ?ca19R26 (Eq.refl _) ?cH19R26
        case cw19R26 => (go_simp; done)
        case ch19R26 =>
          intro ds w' hS K hK
          have hc := (ocell hS).1
          have hf := (ocell hS).2
          have hz := hS.size
          try simp at hz
          go_simp
          try go_bits
          first
            | exact hK _ hS (Gr.refl _)
            | exact hK _ (by repeat (first | (with_reducible exact Below.refl _ _) | (with_reducible assumption) | ((with_reducible refine Below.setCell ?_ ?_ _); rotate_left; · (first | exact Nat.le_refl _ | (simp; done) | (simp; omega) | omega)) | ((with_reducible refine Below.alloc ?_ ?_ _); rotate_left; · (first | exact Nat.le_refl _ | (simp; done) | (simp; omega) | omega)) | (with_reducible apply Below.drew) | (with_reducible apply below_drewN') | (refine Below.trans ?_ (Below.mono (by assumption) (by first | exact Nat.le_refl _ | (simp; done) | (simp; omega) | omega))) | exact Below.refl _ _ | assumption)) (by repeat (first | (with_reducible exact Below.refl _ _) | (with_reducible assumption) | ((with_reducible refine Below.setCell ?_ ?_ _); rotate_left; · (first | exact Nat.le_refl _ | (simp; done) | (simp; omega) | omega)) | ((with_reducible refine Below.alloc ?_ ?_ _); rotate_left; · (first | exact Nat.le_refl _ | (simp; done) | (simp; omega) | omega)) | (with_reducible apply Below.drew) | (with_reducible apply below_drewN') | (refine Below.trans ?_ (Below.mono (by assumption) (by first | exact Nat.le_refl _ | (simp; done) | (simp; omega) | omega))) | exact Below.refl _ _ | assumption))
        case ca19R26 => (first | (simp [Act.put]; done) | (simp [Act.put, *]; done))
        try dsimp only
        refine wpW_branch [20] (by kernel_rfl) (by simp) ?_
        intro v3 hg_v3 hS_v3
        have b5 := Blk.gr b5 hg_v3
        have f5 := b5.frozen
        obtain ⟨e0, e1, e2, e3, e4, e5, _⟩ := blk6 b5
        have l5 := b5.lt
        refine each_cons ?_ each_nil
        refine wpOp_go (by rfl) (Eq.refl _) (by go_simp; done) ?_
        intro K hK
        go_simp
        try simp only [Act.put]
        refine hK _ _ (only_set2' HRW.out hS_v3 _ _) ?_
        replace b5 := Blk.put5 b5 (.int .i64 (max P.lv q.lv))
        clear hK K e0 e1 e2 e3 e4 e5 f5 l5
        refine wpW_end (by kernel_rfl) ?_
        intro we hg hS
        unfold NQ
        dsimp only
        rw [HRW.out] at hS
        replace b5 := b5.gr hg
        exact H.out _ _ _ _ _ _ _ _ _ _ _ _ _ _ _ _ _ _ _ b5 hS
  · refine wpOp_go (by rfl) (Eq.refl _) (by go_simp; done) ?_
    intro K hK
    go_simp
    try simp only [Act.put]
    refine hK _ _ hS1 ?_
    clear hK K
    refine wpW_det (t' := ?ct14R27) 14 (by rfl) (by kernel_rfl) (NQ_free _) (by kernel_rfl) ?cw14R27 ?ch14R27 ?ca14R27 (Eq.refl _) ?cH14R27
    case cw14R27 => (go_simp; done)
    case ch14R27 =>
      intro ds w' hS K hK
      have hc := (ocell hS).1
      have hf := (ocell hS).2
      have hz := hS.size
      try simp at hz
      go_simp
      try go_bits
      first
        | exact hK _ hS (Gr.refl _)
        | exact hK _ (by repeat (first | (with_reducible exact Below.refl _ _) | (with_reducible assumption) | ((with_reducible refine Below.setCell ?_ ?_ _); rotate_left; · (first | exact Nat.le_refl _ | (simp; done) | (simp; omega) | omega)) | ((with_reducible refine Below.alloc ?_ ?_ _); rotate_left; · (first | exact Nat.le_refl _ | (simp; done) | (simp; omega) | omega)) | (with_reducible apply Below.drew) | (with_reducible apply below_drewN') | (refine Below.trans ?_ (Below.mono (by assumption) (by first | exact Nat.le_refl _ | (simp; done) | (simp; omega) | omega))) | exact Below.refl _ _ | assumption)) (by repeat (first | (with_reducible exact Below.refl _ _) | (with_reducible assumption) | ((with_reducible refine Below.setCell ?_ ?_ _); rotate_left; · (first | exact Nat.le_refl _ | (simp; done) | (simp; omega) | omega)) | ((with_reducible refine Below.alloc ?_ ?_ _); rotate_left; · (first | exact Nat.le_refl _ | (simp; done) | (simp; omega) | omega)) | (with_reducible apply Below.drew) | (with_reducible apply below_drewN') | (refine Below.trans ?_ (Below.mono (by assumption) (by first | exact Nat.le_refl _ | (simp; done) | (simp; omega) | omega))) | exact Below.refl _ _ | assumption))
    case ca14R27 => (first | (simp [Act.put]; done) | (simp [Act.put, *]; done))
    try dsimp only
    refine wpW_branch [1, 6] (by kernel_rfl) (by simp) ?_
    intro w2 hg2 hS2
    have b5 := (by first | exact Blk.gr b5 hg2 | exact Blk.gr b5.drew hg2 : Blk w2 N 46 (mkC P))
    obtain ⟨e0, e1, e2, e3, e4, e5, f5⟩ := blk6 b5
    have l5 := b5.lt
    refine each_cons ?_ (each_cons ?_ (each_nil))
    · refine wpOp_go (by rfl) (Eq.refl _) (by go_simp; done) ?_
      intro K hK
      go_simp
      try simp only [Act.put]
      refine hK _ _ hS2 ?_
      clear hK K
      refine wpW_det (t' := ?ct4R28) 4 (by rfl) (by kernel_rfl) (NQ_free _) (by kernel_rfl) ?cw4R28 ?ch4R28 ?ca4R28 (Eq.refl _) ?cH4R28
      case cw4R28 => (go_simp; done)
      case ch4R28 =>
        intro ds w' hS K hK
        have hc := (ocell hS).1
        have hf := (ocell hS).2
        have hz := hS.size
        try simp at hz
        go_simp
        try go_bits
        first
          | exact hK _ hS (Gr.refl _)
          | (refine (refHull_any _ _ _ _ _).mono ?_; rintro e w1 ⟨rfl, hB1⟩; exact hK _ (only_below hS hB1 hS.size) hB1)
          | exact hK _ (by repeat (first | (with_reducible exact Below.refl _ _) | (with_reducible assumption) | ((with_reducible refine Below.setCell ?_ ?_ _); rotate_left; · (first | exact Nat.le_refl _ | (simp; done) | (simp; omega) | omega)) | ((with_reducible refine Below.alloc ?_ ?_ _); rotate_left; · (first | exact Nat.le_refl _ | (simp; done) | (simp; omega) | omega)) | (with_reducible apply Below.drew) | (with_reducible apply below_drewN') | (refine Below.trans ?_ (Below.mono (by assumption) (by first | exact Nat.le_refl _ | (simp; done) | (simp; omega) | omega))) | exact Below.refl _ _ | assumption)) (by repeat (first | (with_reducible exact Below.refl _ _) | (with_reducible assumption) | ((with_reducible refine Below.setCell ?_ ?_ _); rotate_left; · (first | exact Nat.le_refl _ | (simp; done) | (simp; omega) | omega)) | ((with_reducible refine Below.alloc ?_ ?_ _); rotate_left; · (first | exact Nat.le_refl _ | (simp; done) | (simp; omega) | omega)) | (with_reducible apply Below.drew) | (with_reducible apply below_drewN') | (refine Below.trans ?_ (Below.mono (by assumption) (by first | exact Nat.le_refl _ | (simp; done) | (simp; omega) | omega))) | exact Below.refl _ _ | assumption))
      case ca4R28 => (first | (simp [Act.put]; done) | (simp [Act.put, *]; done))
      try dsimp only
      refine wpW_branch [6] (by kernel_rfl) (by simp) ?_
      intro w3 hg3 hS3
      have b5 := (by first | exact Blk.gr b5 hg3 | exact Blk.gr b5.drew hg3 : Blk w3 N 46 (mkC P))
      obtain ⟨e0, e1, e2, e3, e4, e5, f5⟩ := blk6 b5
      have l5 := b5.lt
      refine each_cons ?_ (each_nil)
      · refine wpOp_go (by rfl) (Eq.refl _) (by go_simp; done) ?_
        intro K hK
        go_simp
        try simp only [Act.put]
        refine hK _ _ hS3 ?_
        clear hK K
        refine wpW_det (t' := ?ct9R29) 9 (by rfl) (by kernel_rfl) (NQ_free _) (by kernel_rfl) ?cw9R29 ?ch9R29 ?ca9R29 (Eq.refl _) ?cH9R29
        case cw9R29 => (go_simp; done)
        case ch9R29 =>
          intro ds w' hS K hK
          have hc := (ocell hS).1
          have hf := (ocell hS).2
          have hz := hS.size
          try simp at hz
          go_simp
          try go_bits
          first
            | exact hK _ hS (Gr.refl _)
            | (refine (refHull_any _ _ _ _ _).mono ?_; rintro e w1 ⟨rfl, hB1⟩; exact hK _ (only_below hS hB1 hS.size) hB1)
            | exact hK _ (by repeat (first | (with_reducible exact Below.refl _ _) | (with_reducible assumption) | ((with_reducible refine Below.setCell ?_ ?_ _); rotate_left; · (first | exact Nat.le_refl _ | (simp; done) | (simp; omega) | omega)) | ((with_reducible refine Below.alloc ?_ ?_ _); rotate_left; · (first | exact Nat.le_refl _ | (simp; done) | (simp; omega) | omega)) | (with_reducible apply Below.drew) | (with_reducible apply below_drewN') | (refine Below.trans ?_ (Below.mono (by assumption) (by first | exact Nat.le_refl _ | (simp; done) | (simp; omega) | omega))) | exact Below.refl _ _ | assumption)) (by repeat (first | (with_reducible exact Below.refl _ _) | (with_reducible assumption) | ((with_reducible refine Below.setCell ?_ ?_ _); rotate_left; · (first | exact Nat.le_refl _ | (simp; done) | (simp; omega) | omega)) | ((with_reducible refine Below.alloc ?_ ?_ _); rotate_left; · (first | exact Nat.le_refl _ | (simp; done) | (simp; omega) | omega)) | (with_reducible apply Below.drew) | (with_reducible apply below_drewN') | (refine Below.trans ?_ (Below.mono (by assumption) (by first | exact Nat.le_refl _ | (simp; done) | (simp; omega) | omega))) | exact Below.refl _ _ | assumption))
        case ca9R29 => (first | (simp [Act.put]; done) | (simp [Act.put, *]; done))
        try dsimp only
        clear e0 e1 e2 e3 e4 e5 f5 l5
        refine wpW_det (t' := ?ct15R30) 15 (by rfl) (by kernel_rfl) (NQ_free _) (by kernel_rfl) ?cw15R30 ?ch15R30 ?ca15R30 (Eq.refl _) ?cH15R30
        case cw15R30 => (go_simp; done)
        case ch15R30 =>
          intro ds w' hS K hK
          have hc := (ocell hS).1
          have hf := (ocell hS).2
          have hz := hS.size
          try simp at hz
          go_simp
          try go_bits
          first
            | exact hK _ hS (Gr.refl _)
            | exact hK _ (by repeat (first | (with_reducible exact Below.refl _ _) | (with_reducible assumption) | ((with_reducible refine Below.setCell ?_ ?_ _); rotate_left; · (first | exact Nat.le_refl _ | (simp; done) | (simp; omega) | omega)) | ((with_reducible refine Below.alloc ?_ ?_ _); rotate_left; · (first | exact Nat.le_refl _ | (simp; done) | (simp; omega) | omega)) | (with_reducible apply Below.drew) | (with_reducible apply below_drewN') | (refine Below.trans ?_ (Below.mono (by assumption) (by first | exact Nat.le_refl _ | (simp; done) | (simp; omega) | omega))) | exact Below.refl _ _ | assumption)) (by repeat (first | (with_reducible exact Below.refl _ _) | (with_reducible assumption) | ((with_reducible refine Below.setCell ?_ ?_ _); rotate_left; · (first | exact Nat.le_refl _ | (simp; done) | (simp; omega) | omega)) | ((with_reducible refine Below.alloc ?_ ?_ _); rotate_left; · (first | exact Nat.le_refl _ | (simp; done) | (simp; omega) | omega)) | (with_reducible apply Below.drew) | (with_reducible apply below_drewN') | (refine Below.trans ?_ (Below.mono (by assumption) (by first | exact Nat.le_refl _ | (simp; done) | (simp; omega) | omega))) | exact Below.refl _ _ | assumption))
        case ca15R30 => (first | (simp [Act.put]; done) | (simp [Act.put, *]; done))
        try dsimp only
        refine wpW_branch [16] (by kernel_rfl) (by simp) ?_
        intro v1 hg_v1 hS_v1
        have b5 := Blk.gr b5 hg_v1
        have f5 := b5.frozen
        obtain ⟨e0, e1, e2, e3, e4, e5, _⟩ := blk6 b5
        have l5 := b5.lt
        refine each_cons ?_ each_nil
        refine wpOp_go (by rfl) (Eq.refl _) (by go_simp; done) ?_
        intro K hK
        go_simp
        try simp only [Act.put]
        refine hK _ _ (only_set2' HRW.out (only_set2' HRW.out hS_v1 _ _) _ _) ?_
        replace b5 := Blk.put12 b5 (.int .i64 (min P.al q.al)) (.int .i64 (max P.ah q.ah))
        clear hK K e0 e1 e2 e3 e4 e5 f5 l5
        refine wpW_det (t' := ?ct17R31) 17 (by rfl) (by kernel_rfl) (NQ_free _) (by kernel_rfl) ?cw17R31 ?ch17R31 ?ca17R31 (Eq.refl _) ?cH17R31
        case cw17R31 => (go_simp; done)
        case ch17R31 =>
          intro ds w' hS K hK
          have hc := (ocell hS).1
          have hf := (ocell hS).2
          have hz := hS.size
          try simp at hz
          go_simp
          try go_bits
          first
            | exact hK _ hS (Gr.refl _)
            | exact hK _ (by repeat (first | (with_reducible exact Below.refl _ _) | (with_reducible assumption) | ((with_reducible refine Below.setCell ?_ ?_ _); rotate_left; · (first | exact Nat.le_refl _ | (simp; done) | (simp; omega) | omega)) | ((with_reducible refine Below.alloc ?_ ?_ _); rotate_left; · (first | exact Nat.le_refl _ | (simp; done) | (simp; omega) | omega)) | (with_reducible apply Below.drew) | (with_reducible apply below_drewN') | (refine Below.trans ?_ (Below.mono (by assumption) (by first | exact Nat.le_refl _ | (simp; done) | (simp; omega) | omega))) | exact Below.refl _ _ | assumption)) (by repeat (first | (with_reducible exact Below.refl _ _) | (with_reducible assumption) | ((with_reducible refine Below.setCell ?_ ?_ _); rotate_left; · (first | exact Nat.le_refl _ | (simp; done) | (simp; omega) | omega)) | ((with_reducible refine Below.alloc ?_ ?_ _); rotate_left; · (first | exact Nat.le_refl _ | (simp; done) | (simp; omega) | omega)) | (with_reducible apply Below.drew) | (with_reducible apply below_drewN') | (refine Below.trans ?_ (Below.mono (by assumption) (by first | exact Nat.le_refl _ | (simp; done) | (simp; omega) | omega))) | exact Below.refl _ _ | assumption))
        case ca17R31 => (first | (simp [Act.put]; done) | (simp [Act.put, *]; done))
        try dsimp only
        refine wpW_branch [18] (by kernel_rfl) (by simp) ?_
        intro v2 hg_v2 hS_v2
        have b5 := Blk.gr b5 hg_v2
        have f5 := b5.frozen
        obtain ⟨e0, e1, e2, e3, e4, e5, _⟩ := blk6 b5
        have l5 := b5.lt
        refine each_cons ?_ each_nil
        refine wpOp_go (by rfl) (Eq.refl _) (by go_simp; done) ?_
        intro K hK
        go_simp
        try simp only [Act.put]
        refine hK _ _ (only_set2' HRW.out (only_set2' HRW.out hS_v2 _ _) _ _) ?_
        replace b5 := Blk.put34 b5 (.int .i64 (min P.dl q.dl)) (.int .i64 (max P.dh q.dh))
        clear hK K e0 e1 e2 e3 e4 e5 f5 l5
        refine wpW_det (t' := ?ct19R32) 19 (by rfl) (by kernel_rfl) (NQ_free _) (by kernel_rfl) ?cw19R32 ?ch19R32 ?ca19R32 (Eq.refl _) ?cH19R32
        case cw19R32 => (go_simp; done)
        case ch19R32 =>
          intro ds w' hS K hK
          have hc := (ocell hS).1
          have hf := (ocell hS).2
          have hz := hS.size
          try simp at hz
          go_simp
          try go_bits
          first
            | exact hK _ hS (Gr.refl _)
            | exact hK _ (by repeat (first | (with_reducible exact Below.refl _ _) | (with_reducible assumption) | ((with_reducible refine Below.setCell ?_ ?_ _); rotate_left; · (first | exact Nat.le_refl _ | (simp; done) | (simp; omega) | omega)) | ((with_reducible refine Below.alloc ?_ ?_ _); rotate_left; · (first | exact Nat.le_refl _ | (simp; done) | (simp; omega) | omega)) | (with_reducible apply Below.drew) | (with_reducible apply below_drewN') | (refine Below.trans ?_ (Below.mono (by assumption) (by first | exact Nat.le_refl _ | (simp; done) | (simp; omega) | omega))) | exact Below.refl _ _ | assumption)) (by repeat (first | (with_reducible exact Below.refl _ _) | (with_reducible assumption) | ((with_reducible refine Below.setCell ?_ ?_ _); rotate_left; · (first | exact Nat.le_refl _ | (simp; done) | (simp; omega) | omega)) | ((with_reducible refine Below.alloc ?_ ?_ _); rotate_left; · (first | exact Nat.le_refl _ | (simp; done) | (simp; omega) | omega)) | (with_reducible apply Below.drew) | (with_reducible apply below_drewN') | (refine Below.trans ?_ (Below.mono (by assumption) (by first | exact Nat.le_refl _ | (simp; done) | (simp; omega) | omega))) | exact Below.refl _ _ | assumption))
        case ca19R32 => (first | (simp [Act.put]; done) | (simp [Act.put, *]; done))
        try dsimp only
        refine wpW_branch [20] (by kernel_rfl) (by simp) ?_
        intro v3 hg_v3 hS_v3
        have b5 := Blk.gr b5 hg_v3
        have f5 := b5.frozen
        obtain ⟨e0, e1, e2, e3, e4, e5, _⟩ := blk6 b5
        have l5 := b5.lt
        refine each_cons ?_ each_nil
        refine wpOp_go (by rfl) (Eq.refl _) (by go_simp; done) ?_
        intro K hK
        go_simp
        try simp only [Act.put]
        refine hK _ _ (only_set2' HRW.out hS_v3 _ _) ?_
        replace b5 := Blk.put5 b5 (.int .i64 (max P.lv q.lv))
        clear hK K e0 e1 e2 e3 e4 e5 f5 l5
        refine wpW_end (by kernel_rfl) ?_
        intro we hg hS
        unfold NQ
        dsimp only
        rw [HRW.out] at hS
        replace b5 := b5.gr hg
        exact H.out _ _ _ _ _ _ _ _ _ _ _ _ _ _ _ _ _ _ _ b5 hS
    · refine wpOp_go (by rfl) (Eq.refl _) (by go_simp; done) ?_
      intro K hK
      go_simp
      try simp only [Act.put]
      refine hK _ _ hS2 ?_
      clear hK K
      refine wpW_branch [1] (by kernel_rfl) (by simp) ?_
      intro w3 hg3 hS3
      have b5 := (by first | exact Blk.gr b5 hg3 | exact Blk.gr b5.drew hg3 : Blk w3 N 46 (mkC P))
      obtain ⟨e0, e1, e2, e3, e4, e5, f5⟩ := blk6 b5
      have l5 := b5.lt
      refine each_cons ?_ (each_nil)
      · refine wpOp_go (by rfl) (Eq.refl _) (by go_simp; done) ?_
        intro K hK
        go_simp
        try simp only [Act.put]
        refine hK _ _ hS3 ?_
        clear hK K
        refine wpW_det (t' := ?ct4R33) 4 (by rfl) (by kernel_rfl) (NQ_free _) (by kernel_rfl) ?cw4R33 ?ch4R33 ?ca4R33 (Eq.refl _) ?cH4R33
        case cw4R33 => (go_simp; done)
        case ch4R33 =>
          intro ds w' hS K hK
          have hc := (ocell hS).1
          have hf := (ocell hS).2
          have hz := hS.size
          try simp at hz
          go_simp
          try go_bits
          first
            | exact hK _ hS (Gr.refl _)
            | (refine (refHull_any _ _ _ _ _).mono ?_; rintro e w1 ⟨rfl, hB1⟩; exact hK _ (only_below hS hB1 hS.size) hB1)
            | exact hK _ (by repeat (first | (with_reducible exact Below.refl _ _) | (with_reducible assumption) | ((with_reducible refine Below.setCell ?_ ?_ _); rotate_left; · (first | exact Nat.le_refl _ | (simp; done) | (simp; omega) | omega)) | ((with_reducible refine Below.alloc ?_ ?_ _); rotate_left; · (first | exact Nat.le_refl _ | (simp; done) | (simp; omega) | omega)) | (with_reducible apply Below.drew) | (with_reducible apply below_drewN') | (refine Below.trans ?_ (Below.mono (by assumption) (by first | exact Nat.le_refl _ | (simp; done) | (simp; omega) | omega))) | exact Below.refl _ _ | assumption)) (by repeat (first | (with_reducible exact Below.refl _ _) | (with_reducible assumption) | ((with_reducible refine Below.setCell ?_ ?_ _); rotate_left; · (first | exact Nat.le_refl _ | (simp; done) | (simp; omega) | omega)) | ((with_reducible refine Below.alloc ?_ ?_ _); rotate_left; · (first | exact Nat.le_refl _ | (simp; done) | (simp; omega) | omega)) | (with_reducible apply Below.drew) | (with_reducible apply below_drewN') | (refine Below.trans ?_ (Below.mono (by assumption) (by first | exact Nat.le_refl _ | (simp; done) | (simp; omega) | omega))) | exact Below.refl _ _ | assumption))
        case ca4R33 => (first | (simp [Act.put]; done) | (simp [Act.put, *]; done))
        try dsimp only
        refine wpW_det (t' := ?ct9R34) 9 (by rfl) (by kernel_rfl) (NQ_free _) (by kernel_rfl) ?cw9R34 ?ch9R34 ?ca9R34 (Eq.refl _) ?cH9R34
        case cw9R34 => (go_simp; done)
        case ch9R34 =>
          intro ds w' hS K hK
          have hc := (ocell hS).1
          have hf := (ocell hS).2
          have hz := hS.size
          try simp at hz
          go_simp
          try go_bits
          first
            | exact hK _ hS (Gr.refl _)
            | (refine (refHull_any _ _ _ _ _).mono ?_; rintro e w1 ⟨rfl, hB1⟩; exact hK _ (only_below hS hB1 hS.size) hB1)
            | exact hK _ (by repeat (first | (with_reducible exact Below.refl _ _) | (with_reducible assumption) | ((with_reducible refine Below.setCell ?_ ?_ _); rotate_left; · (first | exact Nat.le_refl _ | (simp; done) | (simp; omega) | omega)) | ((with_reducible refine Below.alloc ?_ ?_ _); rotate_left; · (first | exact Nat.le_refl _ | (simp; done) | (simp; omega) | omega)) | (with_reducible apply Below.drew) | (with_reducible apply below_drewN') | (refine Below.trans ?_ (Below.mono (by assumption) (by first | exact Nat.le_refl _ | (simp; done) | (simp; omega) | omega))) | exact Below.refl _ _ | assumption)) (by repeat (first | (with_reducible exact Below.refl _ _) | (with_reducible assumption) | ((with_reducible refine Below.setCell ?_ ?_ _); rotate_left; · (first | exact Nat.le_refl _ | (simp; done) | (simp; omega) | omega)) | ((with_reducible refine Below.alloc ?_ ?_ _); rotate_left; · (first | exact Nat.le_refl _ | (simp; done) | (simp; omega) | omega)) | (with_reducible apply Below.drew) | (with_reducible apply below_drewN') | (refine Below.trans ?_ (Below.mono (by assumption) (by first | exact Nat.le_refl _ | (simp; done) | (simp; omega) | omega))) | exact Below.refl _ _ | assumption))
        case ca9R34 => (first | (simp [Act.put]; done) | (simp [Act.put, *]; done))
        try dsimp only
        clear e0 e1 e2 e3 e4 e5 f5 l5
        refine wpW_det (t' := ?ct15R35) 15 (by rfl) (by kernel_rfl) (NQ_free _) (by kernel_rfl) ?cw15R35 ?ch15R35 ?ca15R35 (Eq.refl _) ?cH15R35
        case cw15R35 => (go_simp; done)
        case ch15R35 =>
          intro ds w' hS K hK
          have hc := (ocell hS).1
          have hf := (ocell hS).2
          have hz := hS.size
          try simp at hz
          go_simp
          try go_bits
          first
            | exact hK _ hS (Gr.refl _)
            | exact hK _ (by repeat (first | (with_reducible exact Below.refl _ _) | (with_reducible assumption) | ((with_reducible refine Below.setCell ?_ ?_ _); rotate_left; · (first | exact Nat.le_refl _ | (simp; done) | (simp; omega) | omega)) | ((with_reducible refine Below.alloc ?_ ?_ _); rotate_left; · (first | exact Nat.le_refl _ | (simp; done) | (simp; omega) | omega)) | (with_reducible apply Below.drew) | (with_reducible apply below_drewN') | (refine Below.trans ?_ (Below.mono (by assumption) (by first | exact Nat.le_refl _ | (simp; done) | (simp; omega) | omega))) | exact Below.refl _ _ | assumption)) (by repeat (first | (with_reducible exact Below.refl _ _) | (with_reducible assumption) | ((with_reducible refine Below.setCell ?_ ?_ _); rotate_left; · (first | exact Nat.le_refl _ | (simp; done) | (simp; omega) | omega)) | ((with_reducible refine Below.alloc ?_ ?_ _); rotate_left; · (first | exact Nat.le_refl _ | (simp; done) | (simp; omega) | omega)) | (with_reducible apply Below.drew) | (with_reducible apply below_drewN') | (refine Below.trans ?_ (Below.mono (by assumption) (by first | exact Nat.le_refl _ | (simp; done) | (simp; omega) | omega))) | exact Below.refl _ _ | assumption))
        case ca15R35 => (first | (simp [Act.put]; done) | (simp [Act.put, *]; done))
        try dsimp only
        refine wpW_branch [16] (by kernel_rfl) (by simp) ?_
        intro v1 hg_v1 hS_v1
        have b5 := Blk.gr b5 hg_v1
        have f5 := b5.frozen
        obtain ⟨e0, e1, e2, e3, e4, e5, _⟩ := blk6 b5
        have l5 := b5.lt
        refine each_cons ?_ each_nil
        refine wpOp_go (by rfl) (Eq.refl _) (by go_simp; done) ?_
        intro K hK
        go_simp
        try simp only [Act.put]
        refine hK _ _ (only_set2' HRW.out (only_set2' HRW.out hS_v1 _ _) _ _) ?_
        replace b5 := Blk.put12 b5 (.int .i64 (min P.al q.al)) (.int .i64 (max P.ah q.ah))
        clear hK K e0 e1 e2 e3 e4 e5 f5 l5
        refine wpW_det (t' := ?ct17R36) 17 (by rfl) (by kernel_rfl) (NQ_free _) (by kernel_rfl) ?cw17R36 ?ch17R36 ?ca17R36 (Eq.refl _) ?cH17R36
        case cw17R36 => (go_simp; done)
        case ch17R36 =>
          intro ds w' hS K hK
          have hc := (ocell hS).1
          have hf := (ocell hS).2
          have hz := hS.size
          try simp at hz
          go_simp
          try go_bits
          first
            | exact hK _ hS (Gr.refl _)
            | exact hK _ (by repeat (first | (with_reducible exact Below.refl _ _) | (with_reducible assumption) | ((with_reducible refine Below.setCell ?_ ?_ _); rotate_left; · (first | exact Nat.le_refl _ | (simp; done) | (simp; omega) | omega)) | ((with_reducible refine Below.alloc ?_ ?_ _); rotate_left; · (first | exact Nat.le_refl _ | (simp; done) | (simp; omega) | omega)) | (with_reducible apply Below.drew) | (with_reducible apply below_drewN') | (refine Below.trans ?_ (Below.mono (by assumption) (by first | exact Nat.le_refl _ | (simp; done) | (simp; omega) | omega))) | exact Below.refl _ _ | assumption)) (by repeat (first | (with_reducible exact Below.refl _ _) | (with_reducible assumption) | ((with_reducible refine Below.setCell ?_ ?_ _); rotate_left; · (first | exact Nat.le_refl _ | (simp; done) | (simp; omega) | omega)) | ((with_reducible refine Below.alloc ?_ ?_ _); rotate_left; · (first | exact Nat.le_refl _ | (simp; done) | (simp; omega) | omega)) | (with_reducible apply Below.drew) | (with_reducible apply below_drewN') | (refine Below.trans ?_ (Below.mono (by assumption) (by first | exact Nat.le_refl _ | (simp; done) | (simp; omega) | omega))) | exact Below.refl _ _ | assumption))
        case ca17R36 => (first | (simp [Act.put]; done) | (simp [Act.put, *]; done))
        try dsimp only
        refine wpW_branch [18] (by kernel_rfl) (by simp) ?_
        intro v2 hg_v2 hS_v2
        have b5 := Blk.gr b5 hg_v2
        have f5 := b5.frozen
        obtain ⟨e0, e1, e2, e3, e4, e5, _⟩ := blk6 b5
        have l5 := b5.lt
        refine each_cons ?_ each_nil
        refine wpOp_go (by rfl) (Eq.refl _) (by go_simp; done) ?_
        intro K hK
        go_simp
        try simp only [Act.put]
        refine hK _ _ (only_set2' HRW.out (only_set2' HRW.out hS_v2 _ _) _ _) ?_
        replace b5 := Blk.put34 b5 (.int .i64 (min P.dl q.dl)) (.int .i64 (max P.dh q.dh))
        clear hK K e0 e1 e2 e3 e4 e5 f5 l5
        refine wpW_det (t' := ?ct19R37) 19 (by rfl) (by kernel_rfl) (NQ_free _) (by kernel_rfl) ?cw19R37 ?ch19R37 ?ca19R37 (Eq.refl _) ?cH19R37
        case cw19R37 => (go_simp; done)
        case ch19R37 =>
          intro ds w' hS K hK
          have hc := (ocell hS).1
          have hf := (ocell hS).2
          have hz := hS.size
          try simp at hz
          go_simp
          try go_bits
          first
            | exact hK _ hS (Gr.refl _)
            | exact hK _ (by repeat (first | (with_reducible exact Below.refl _ _) | (with_reducible assumption) | ((with_reducible refine Below.setCell ?_ ?_ _); rotate_left; · (first | exact Nat.le_refl _ | (simp; done) | (simp; omega) | omega)) | ((with_reducible refine Below.alloc ?_ ?_ _); rotate_left; · (first | exact Nat.le_refl _ | (simp; done) | (simp; omega) | omega)) | (with_reducible apply Below.drew) | (with_reducible apply below_drewN') | (refine Below.trans ?_ (Below.mono (by assumption) (by first | exact Nat.le_refl _ | (simp; done) | (simp; omega) | omega))) | exact Below.refl _ _ | assumption)) (by repeat (first | (with_reducible exact Below.refl _ _) | (with_reducible assumption) | ((with_reducible refine Below.setCell ?_ ?_ _); rotate_left; · (first | exact Nat.le_refl _ | (simp; done) | (simp; omega) | omega)) | ((with_reducible refine Below.alloc ?_ ?_ _); rotate_left; · (first | exact Nat.le_refl _ | (simp; done) | (simp; omega) | omega)) | (with_reducible apply Below.drew) | (with_reducible apply below_drewN') | (refine Below.trans ?_ (Below.mono (by assumption) (by first | exact Nat.le_refl _ | (simp; done) | (simp; omega) | omega))) | exact Below.refl _ _ | assumption))
        case ca19R37 => (first | (simp [Act.put]; done) | (simp [Act.put, *]; done))
        try dsimp only
        refine wpW_branch [20] (by kernel_rfl) (by simp) ?_
        intro v3 hg_v3 hS_v3
        have b5 := Blk.gr b5 hg_v3
        have f5 := b5.frozen
        obtain ⟨e0, e1, e2, e3, e4, e5, _⟩ := blk6 b5
        have l5 := b5.lt
        refine each_cons ?_ each_nil
        refine wpOp_go (by rfl) (Eq.refl _) (by go_simp; done) ?_
        intro K hK
        go_simp
        try simp only [Act.put]
        refine hK _ _ (only_set2' HRW.out hS_v3 _ _) ?_
        replace b5 := Blk.put5 b5 (.int .i64 (max P.lv q.lv))
        clear hK K e0 e1 e2 e3 e4 e5 f5 l5
        refine wpW_end (by kernel_rfl) ?_
        intro we hg hS
        unfold NQ
        dsimp only
        rw [HRW.out] at hS
        replace b5 := b5.gr hg
        exact H.out _ _ _ _ _ _ _ _ _ _ _ _ _ _ _ _ _ _ _ b5 hS

set_option maxRecDepth 100000 in
set_option maxHeartbeats 1000000 in
theorem refHullOf_any (l : List Mk) (A : Option Addr) (c B : Nat) (g : List Int) (gA : Option Addr) (gc C : Nat) (w : World) (hl : MkOk l A B w) (hB : B ≤ w.heap.size) (hg : Row w C 1 gA g.length (intsC g)) (hC : C ≤ w.heap.size) (hgl : g.length ≤ 1000000) (hpos : 0 < g.length) (hb : Hid (∀ i ∈ g, 0 ≤ i ∧ i < (l.length : Int))) :
    Calls Tryz.prog 20 #[.slice A l.length c, .slice gA g.length gc] w fun e w' => e = .returned (.agg (mkC (hullR l g))) ∧ Below w.heap.size w w' := by
  have hn := hl.len
  have hHE : hullK l g g.length = hullR l g := hullK_all (by intro e; rw [e] at hpos; simp at hpos)
  have HHE := Lib.hid hHE; clear hHE
  have b4 := Blk.new w 46 (mkC mk0)
  have hBB : Below w.heap.size w (w.alloc (.cells (mkC mk0) 46)) := (by repeat (first | (with_reducible exact Below.refl _ _) | (with_reducible assumption) | ((with_reducible refine Below.setCell ?_ ?_ _); rotate_left; · (first | exact Nat.le_refl _ | (simp; done) | (simp; omega) | omega)) | ((with_reducible refine Below.alloc ?_ ?_ _); rotate_left; · (first | exact Nat.le_refl _ | (simp; done) | (simp; omega) | omega)) | (with_reducible apply Below.drew) | (with_reducible apply below_drewN') | (refine Below.trans ?_ (Below.mono (by assumption) (by first | exact Nat.le_refl _ | (simp; done) | (simp; omega) | omega))) | exact Below.refl _ _ | assumption))
  go_enter Tryz.func20, Tryz.ntmps20
  go_upto_region 1 with fail
  obtain ⟨W, hW⟩ : ∃ W, w.alloc (.cells (mkC mk0) 46) = W := ⟨_, rfl⟩
  rw [hW] at b4 hBB
  try rw [hW]
  clear hW
  have hl' := hl.below hBB hB
  have hg' := hg.below hBB hC
  obtain ⟨x, y, hgA, hx, p0⟩ := intCell hg' hpos
  obtain ⟨t, ht, htl⟩ := idx_nat (hb.out _ (List.getElem_mem hpos))
  have hK1 := hullK_one hpos (l := l) (by omega)
  obtain ⟨u, v, hA, hu, c0, c1, c2, c3, c4, c5⟩ := mkCells hl'.row htl
  rw [ht] at p0
  simp only [ht, Int.toNat_natCast] at hK1
  obtain ⟨m, hm⟩ : ∃ m, l[t] = m := ⟨_, rfl⟩
  rw [hm] at c0 c1 c2 c3 c4 c5 hK1
  simp only [Nat.add_zero] at p0
  clear hm ht
  subst hA hgA
  have htI : (t : Int) < (l.length : Int) := by omega
  go_wp2
  have hlt5 : w.heap.size < W.heap.size := b4.lt
  have l_b4 := b4.lt
  obtain ⟨d0, d1, d2, d3, d4, d5, f4⟩ := blk6 b4
  have b5 := Blk.new W 46 (mkC m)
  replace b4 := b4.alloc (.cells (mkC m) 46 (0, 0))
  replace hBB := hBB.alloc (Below.size hBB) (.cells (mkC m) 46 (0, 0))
  clear l_b4 d0 d1 d2 d3 d4 d5 f4
  have l_b4 := b4.lt
  have l_b5 := b5.lt
  obtain ⟨d0, d1, d2, d3, d4, d5, f4⟩ := blk6 b4
  obtain ⟨e0, e1, e2, e3, e4, e5, f5⟩ := blk6 b5
  have hNw : w.heap.size < W.heap.size := hlt5
  generalize hNN : W.heap.size = N at *
  generalize (W.alloc (.cells (mkC m) 46)) = wx at *
  clear l_b4 d0 d1 d2 d3 d4 d5 f4 l_b5 e0 e1 e2 e3 e4 e5 f5
  clear c0 c1 c2 c3 c4 c5 p0 hl' hg'
  go_loopw [6] (fun i wr => ∃ k : Nat, 1 ≤ k ∧ k ≤ g.length ∧ i = .int .i64 k ∧ Blk wr w.heap.size 46 (mkC mk0) ∧ Blk wr N 46 (mkC (hullK l g k)) ∧ Below w.heap.size w wr) (fun i _ => g.length - (intOf i).toNat)
  case atStart => exact ⟨1, Nat.le_refl _, by omega, rfl, b4, by rw [hK1]; exact b5, hBB⟩
  case round =>
    clear b4 b5 hBB
    obtain ⟨k, hk1, hk, rfl, b4, b5, hBB⟩ := hrel
    have l_b4 := b4.lt
    have l_b5 := b5.lt
    obtain ⟨d0, d1, d2, d3, d4, d5, f4⟩ := blk6 b4
    obtain ⟨e0, e1, e2, e3, e4, e5, f5⟩ := blk6 b5
    by_cases hlt : k < g.length
    · obtain ⟨x', y', hgA', _, p0⟩ := intCell (hg.below hBB hC) hlt
      obtain ⟨rfl, rfl⟩ : x = x' ∧ y = y' := by injection hgA' with h; injection h with h1 h2 h3; exact ⟨h1, h2⟩
      obtain ⟨t', ht', htl'⟩ := idx_nat (hb.out _ (List.getElem_mem hlt))
      obtain ⟨u', v', hA', _, c0, c1, c2, c3, c4, c5⟩ := mkCells (hl.below hBB hB).row htl'
      obtain ⟨rfl, rfl⟩ : u = u' ∧ v = v' := by injection hA' with h; injection h with h1 h2 h3; exact ⟨h1, h2⟩
      have hPk := hullK_succ hlt (by omega) (l := l) (by omega)
      rw [ht'] at p0
      simp only [ht', Int.toNat_natCast] at hPk
      have htI' : (t' : Int) < (l.length : Int) := by omega
      generalize hullK l g k = P at *
      generalize l[t'] = q at *
      have hMN : wr.heap.size ≠ N := by have := b5.lt; omega
      go_upto_region 6 with fail
      have b7 := Blk.new wr 46 (mkC q)
      replace b4 := b4.alloc (.cells (mkC q) 46 (0, 0))
      replace b5 := b5.alloc (.cells (mkC q) 46 (0, 0))
      replace hBB := hBB.alloc (Below.size hBB) (.cells (mkC q) 46 (0, 0))
      clear l_b4 d0 d1 d2 d3 d4 d5 f4 l_b5 e0 e1 e2 e3 e4 e5 f5
      have l_b4 := b4.lt
      have l_b5 := b5.lt
      have l_b7 := b7.lt
      obtain ⟨d0, d1, d2, d3, d4, d5, f4⟩ := blk6 b4
      obtain ⟨e0, e1, e2, e3, e4, e5, f5⟩ := blk6 b5
      obtain ⟨g0, g1, g2, g3, g4, g5, f7⟩ := blk6 b7
      generalize (wr.alloc (.cells (mkC q) 46)) = wy at *
      clear c0 c1 c2 c3 c4 c5 p0
      refine hullReg6 P q b5 b7 hMN _ ?_
      intro t27 t28 t29 t30 t31 t32 t33 t34 t35 t36 t37 t38 t39 t40 t41 t42 t43 t44 w1 b5' hG
      try dsimp only
      have b4' := b4.grown hG (by simp; exact Nat.ne_of_lt hNw)
      have hBB' := below_only hBB hG (Below.size hBB) (Nat.le_of_lt hNw)
      go_wp2
      refine ⟨⟨k + 1, by omega, by omega, by go_num, b4', by rw [hPk]; exact b5', hBB'⟩, by simp [intOf]; omega⟩
    · obtain rfl : k = g.length := by omega
      go_wp2
      rw [HHE.out]
      have b9 := b4.set6 (.string (hullR l g).nm) (.int .i64 (hullR l g).al) (.int .i64 (hullR l g).ah) (.int .i64 (hullR l g).dl) (.int .i64 (hullR l g).dh) (.int .i64 (hullR l g).lv)
      obtain ⟨u0, u1, u2, u3, u4, u5, _⟩ := blk6 b9
      exact bodyPost_ret (v := .agg (mkC (hullR l g))) (by simp [results, Tryz.results20, go_sem, u0, u1, u2, u3, u4, u5]) rfl ⟨rfl, Below.set6 hBB (Nat.le_refl _)⟩
end Go.Proofs.YtclpljbllnhhbaaGreat
