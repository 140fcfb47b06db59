/- Contract: the reference's two ascending lists in one. -/
import Derived.Test.YtidgeagpgllkeaaGreatFfA
import Derived.Test.YtidgeagpgllkeaaGreatFgA
namespace Go.Proofs.YtidgeagpgllkeaaGreat
open Go.RowKit

def vlen : Value → Nat
  | .slice _ n _ => n
  | _ => 0
def tlA (g o c : Nat) : Option Addr := if c = 1 then some ⟨g, o, none⟩ else some ⟨g, o + 1, none⟩
theorem Row.tail {w : World} {B n c g o : Nat} {xs : List Value} (h : Row w B 1 (some ⟨g, o, none⟩) n xs) (hc : n ≤ c) : Row w B 1 (tlA g o c) (n - 1) (xs.drop 1) := by
  refine ⟨by rw [List.length_drop, h.1]; omega, fun hn => ?_⟩
  obtain ⟨g', o', e, hg, hx⟩ := h.2 (by omega)
  injection e with e; injection e with e1 e2 e3
  subst e1 e2
  refine ⟨g, o + 1, ?_, hg, fun j u hj => ?_⟩
  · unfold tlA; rw [if_neg (by omega)]
  · rw [List.getElem?_drop] at hj
    have := hx _ u hj
    rwa [show o + 1 + j = o + (1 + j) by omega]
theorem mergedV_lt {x y : Int} {a b : List Int} (h : x < y) : mergedV (x :: a) (y :: b) = x :: mergedV a (y :: b) := by rw [mergedV, if_pos h]
theorem mergedV_ge {x y : Int} {a b : List Int} (h : ¬ x < y) : mergedV (x :: a) (y :: b) = y :: mergedV (x :: a) b := by rw [mergedV, if_neg h]
theorem mergedV_length (a b : List Int) : (mergedV a b).length = a.length + b.length := by have := (mergedV_perm _ a b (Nat.le_refl _)).length_eq; simpa using this

set_option maxRecDepth 100000 in
set_option maxHeartbeats 4000000 in
/-- A number is taken (region 4). -/
theorem takeReg4 (N g o n c k : Nat) (z : Int) (u : Value) (xs : List Value) (w : World) (d0 : w.cell? ⟨g, o, none⟩ = some (.int .i64 z)) (hg : g < N) (hN : N ≤ w.heap.size) (hown : w.ownsRow N 3 1 u k xs) (hk : k ≤ 1000) (_hc : n + 1 ≤ c) {t1 t2 t3 t4 t6 t7 t8 t9 t10 t11 t12 t13 t14 t15 t16 t17 t18 t19 t20 t21 t22 t23 t24 t25 t26 t27 t28 t29 t30 t31 t32 t33 t34 t35 t36 t37 t38 t39 t40 t41 t42 t43 t44 t45 t46 t47 : Value} {ds : List Deferred} (Q : Exit → Act → World → Prop)
    (h : ∀ (t31 t32 t33 t34 t35 t36 t37 t38 : Value) (v : Value) (w' : World), w'.ownsRow N 3 1 v (k + 1) (xs ++ [.int .i64 z]) → Below N w w' → Q .normal ⟨#[.slice (tlA g o c) n (c - 1), t1, t2, t3, t4, v, t6, t7, t8, t9, t10, t11, t12, t13, t14, t15, t16, t17, t18, t19, t20, t21, t22, t23, t24, t25, t26, t27, t28, t29, t30, t31, t32, t33, t34, t35, t36, t37, t38, t39, t40, t41, t42, t43, t44, t45, t46, t47], ds⟩ w') :
    (regOf Tryz.f155 4).wp Tryz.prog Q ⟨#[.slice (some ⟨g, o, none⟩) (n + 1) c, t1, t2, t3, t4, u, t6, t7, t8, t9, t10, t11, t12, t13, t14, t15, t16, t17, t18, t19, t20, t21, t22, t23, t24, t25, t26, t27, t28, t29, t30, t31, t32, t33, t34, t35, t36, t37, t38, t39, t40, t41, t42, t43, t44, t45, t46, t47], ds⟩ w := by
  have H := Lib.hid h; clear h
  obtain ⟨i0, hi, hz0, hz1, hz2⟩ := info_parts infoInt
  have h1I : (1 : Int) ≤ (n : Int) + 1 := by omega
  have m1 : some g ≠ u.ownBlock := fun e => by have := (hown.lt g e.symm).1; omega
  have hgw : g < w.heap.size := by omega
  have hT : (if c = 1 then some (⟨g, o, none⟩ : Addr) else some ⟨g, o + 1, none⟩) = tlA g o c := rfl
  conv in (regOf _ _) => whnf
  obtain ⟨row, hrow⟩ : ∃ r : Option Nat, u.ownBlock = r := ⟨_, rfl⟩
  rw [hrow] at m1
  have HRW := Lib.hid hrow; clear hrow
  have HLT : Hid (∀ q, u.ownBlock = some q → N ≤ q) := Lib.hid (fun q e => (hown.lt q e).1)
  refine wp_region_w (fun w' => World.grownBy _ w' row) (by kernel_rfl) (only_drew (World.grownBy.refl _ _)) ?_
  refine wpW_det (t' := ?ct0R49) 0 (by rfl) (by kernel_rfl) (NQ_free _) (by kernel_rfl) ?cw0R49 ?ch0R49 ?ca0R49 (Eq.refl _) ?cH0R49
  case cw0R49 => (go_simp; done)
  case ch0R49 =>
    intro ds w' hS K hK
    have hc := (ocell hS).1
    have hf := (ocell hS).2
    have hz := hS.size
    try simp at hz
    go_simp
    try go_bits
    first
      | exact hK _ hS (Gr.refl _)
      | fail
  case ca0R49 => (first | (simp [Act.put]; done) | (simp [Act.put, *]; done))
  try dsimp only
  refine wpW_det (t' := ?ct1R49) 1 (by rfl) (by kernel_rfl) (NQ_free _) (by kernel_rfl) ?cw1R49 ?ch1R49 ?ca1R49 (Eq.refl _) ?cH1R49
  case cw1R49 => (go_simp; done)
  case ch1R49 =>
    intro ds w' hS K hK
    have hc := (ocell hS).1
    have hf := (ocell hS).2
    have hz := hS.size
    try simp at hz
    go_simp
    try go_bits
    first
      | exact hK _ hS (Gr.refl _)
      | fail
  case ca1R49 => (first | (simp [Act.put]; done) | (simp [Act.put, *]; done))
  try dsimp only
  refine wpW_det (t' := ?ct2R49) 2 (by rfl) (by kernel_rfl) (NQ_free _) (by kernel_rfl) ?cw2R49 ?ch2R49 ?ca2R49 (Eq.refl _) ?cH2R49
  case cw2R49 => (go_simp; done)
  case ch2R49 =>
    intro ds w' hS K hK
    have hc := (ocell hS).1
    have hf := (ocell hS).2
    have hz := hS.size
    try simp at hz
    go_simp
    try go_bits
    first
      | exact hK _ hS (Gr.refl _)
      | fail
  case ca2R49 => (first | (simp [Act.put]; done) | (simp [Act.put, *]; done))
  try dsimp only
  refine wpW_det (t' := ?ct3R49) 3 (by rfl) (by kernel_rfl) (NQ_free _) (by kernel_rfl) ?cw3R49 ?ch3R49 ?ca3R49 (Eq.refl _) ?cH3R49
  case cw3R49 => (go_simp; done)
  case ch3R49 =>
    intro ds w' hS K hK
    have hc := (ocell hS).1
    have hf := (ocell hS).2
    have hz := hS.size
    try simp at hz
    go_simp
    try go_bits
    first
      | exact hK _ hS (Gr.refl _)
      | fail
  case ca3R49 => (first | (simp [Act.put]; done) | (simp [Act.put, *]; done))
  try dsimp only
  refine wpW_det (t' := ?ct6R49) 6 (by rfl) (by kernel_rfl) (NQ_free _) (by kernel_rfl) ?cw6R49 ?ch6R49 ?ca6R49 (Eq.refl _) ?cH6R49
  case cw6R49 => (go_simp; done)
  case ch6R49 =>
    intro ds w' hS K hK
    have hc := (ocell hS).1
    have hf := (ocell hS).2
    have hz := hS.size
    try simp at hz
    go_simp
    try go_bits
    first
      | exact hK _ hS (Gr.refl _)
      | fail
  case ca6R49 => (first | (simp [Act.put]; done) | (simp [Act.put, *]; done))
  try dsimp only
  refine wpW_det (t' := ?ct7R49) 7 (by rfl) (by kernel_rfl) (NQ_free _) (by kernel_rfl) ?cw7R49 ?ch7R49 ?ca7R49 (Eq.refl _) ?cH7R49
  case cw7R49 => (go_simp; done)
  case ch7R49 =>
    intro ds w' hS K hK
    have hc := (ocell hS).1
    have hf := (ocell hS).2
    have hz := hS.size
    try simp at hz
    go_simp
    try go_bits
    first
      | exact hK _ hS (Gr.refl _)
      | fail
  case ca7R49 => (first | (simp [Act.put]; done) | (simp [Act.put, *]; done))
  try dsimp only
  refine wpW_branch [4] (by kernel_rfl) (by simp) ?_
  intro v1 hg_v1 hS_v1
  have hown1 := own_below hown.drew hg_v1
  refine each_cons ?_ each_nil
  refine wpOp_go (by rfl) (Eq.refl _) (by go_simp; done) ?_
  intro K hK
  go_simp
  try simp only [Act.put]
  have hown2 := hown1.alloc (.cells #[.int .i64 z] 3)
  have hb1 := Blk.new v1 3 #[.int .i64 z]
  refine hK _ _ (only_alloc hS_v1 _) ?_
  clear hK K
  refine wpW_branch [5] (by kernel_rfl) (by simp) ?_
  intro v2 hg2 hS2
  have hown3 := own_below hown2 hg2
  have hb2 := Blk.gr hb1 hg2
  have hzz := hS2.size
  refine each_cons ?_ each_nil
  refine wpOp_go (by rfl) (Eq.refl _) (by go_simp; done) ?_
  intro K hK
  refine wp_append_own _ (.tmp 31) (.tmp 35) 37 rfl N 3 i0 _ 1 8 Tryz.underlying37 hi hz0 hz1 hz2 rfl (by decide) u k xs rfl hown3 ⟨v1.heap.size, 0, none⟩ 1 1 [.int .i64 z] rfl rfl ?hc (by simp [Value.oneCell']) (by unfold maxLen; omega) (by omega) (by omega) ?_
  case hc =>
    intro j q hj
    match j, hj with
    | 0, hj => simp at hj; subst hj; exact hb2.cell 0
    | j + 1, hj => simp at hj
  intro v' wa hown' hgrow _
  rw [HRW.out] at hgrow
  simp only [Act.put, List.setIfInBounds_toArray]
  have hS3 := only_trans hS2 hgrow
  refine hK _ _ hS3 ?_
  clear hK K hown hown1 hown2 hown3 hb1 hb2 hS_v1 hg_v1 hg2
  refine wpW_det (t' := ?ct8R50) 8 (by rfl) (by kernel_rfl) (NQ_free _) (by kernel_rfl) ?cw8R50 ?ch8R50 ?ca8R50 (Eq.refl _) ?cH8R50
  case cw8R50 => (go_simp; done)
  case ch8R50 =>
    intro ds w' hS K hK
    have hc := (ocell hS).1
    have hf := (ocell hS).2
    have hz := hS.size
    try simp at hz
    go_simp
    try go_bits
    first
      | exact hK _ hS (Gr.refl _)
      | exact hK _ (by repeat (first | (with_reducible exact Below.refl _ _) | (with_reducible assumption) | ((with_reducible refine Below.setCell ?_ ?_ _); rotate_left; · (first | exact Nat.le_refl _ | (simp; done) | (simp; omega) | omega)) | ((with_reducible refine Below.alloc ?_ ?_ _); rotate_left; · (first | exact Nat.le_refl _ | (simp; done) | (simp; omega) | omega)) | (with_reducible apply Below.drew) | (with_reducible apply below_drewN') | (refine Below.trans ?_ (Below.mono (by assumption) (by first | exact Nat.le_refl _ | (simp; done) | (simp; omega) | omega))) | exact Below.refl _ _ | assumption)) (by repeat (first | (with_reducible exact Below.refl _ _) | (with_reducible assumption) | ((with_reducible refine Below.setCell ?_ ?_ _); rotate_left; · (first | exact Nat.le_refl _ | (simp; done) | (simp; omega) | omega)) | ((with_reducible refine Below.alloc ?_ ?_ _); rotate_left; · (first | exact Nat.le_refl _ | (simp; done) | (simp; omega) | omega)) | (with_reducible apply Below.drew) | (with_reducible apply below_drewN') | (refine Below.trans ?_ (Below.mono (by assumption) (by first | exact Nat.le_refl _ | (simp; done) | (simp; omega) | omega))) | exact Below.refl _ _ | assumption))
  case ca8R50 => (first | (simp [Act.put]; done) | (simp [Act.put, *]; done))
  try dsimp only
  refine wpW_det (t' := ?ct9R50) 9 (by rfl) (by kernel_rfl) (NQ_free _) (by kernel_rfl) ?cw9R50 ?ch9R50 ?ca9R50 (Eq.refl _) ?cH9R50
  case cw9R50 => (go_simp; done)
  case ch9R50 =>
    intro ds w' hS K hK
    have hc := (ocell hS).1
    have hf := (ocell hS).2
    have hz := hS.size
    try simp at hz
    go_simp
    try go_bits
    first
      | exact hK _ hS (Gr.refl _)
      | exact hK _ (by repeat (first | (with_reducible exact Below.refl _ _) | (with_reducible assumption) | ((with_reducible refine Below.setCell ?_ ?_ _); rotate_left; · (first | exact Nat.le_refl _ | (simp; done) | (simp; omega) | omega)) | ((with_reducible refine Below.alloc ?_ ?_ _); rotate_left; · (first | exact Nat.le_refl _ | (simp; done) | (simp; omega) | omega)) | (with_reducible apply Below.drew) | (with_reducible apply below_drewN') | (refine Below.trans ?_ (Below.mono (by assumption) (by first | exact Nat.le_refl _ | (simp; done) | (simp; omega) | omega))) | exact Below.refl _ _ | assumption)) (by repeat (first | (with_reducible exact Below.refl _ _) | (with_reducible assumption) | ((with_reducible refine Below.setCell ?_ ?_ _); rotate_left; · (first | exact Nat.le_refl _ | (simp; done) | (simp; omega) | omega)) | ((with_reducible refine Below.alloc ?_ ?_ _); rotate_left; · (first | exact Nat.le_refl _ | (simp; done) | (simp; omega) | omega)) | (with_reducible apply Below.drew) | (with_reducible apply below_drewN') | (refine Below.trans ?_ (Below.mono (by assumption) (by first | exact Nat.le_refl _ | (simp; done) | (simp; omega) | omega))) | exact Below.refl _ _ | assumption))
  case ca9R50 => (first | (simp [Act.put]; done) | (simp [Act.put, *]; done))
  try dsimp only
  refine wpW_end (by kernel_rfl) ?_
  intro we hg hS
  unfold NQ
  dsimp only
  exact H.out _ _ _ _ _ _ _ _ v' we (own_below hown' hg) ((Below.refl N w).grown hS hN (fun q e => HLT.out q (HRW.out.trans e)))

set_option maxRecDepth 100000 in
set_option maxHeartbeats 4000000 in
/-- A number is taken (region 5). -/
theorem takeReg5 (N g o n c k : Nat) (z : Int) (u : Value) (xs : List Value) (w : World) (d0 : w.cell? ⟨g, o, none⟩ = some (.int .i64 z)) (hg : g < N) (hN : N ≤ w.heap.size) (hown : w.ownsRow N 3 1 u k xs) (hk : k ≤ 1000) (_hc : n + 1 ≤ c) {t0 t2 t3 t4 t6 t7 t8 t9 t10 t11 t12 t13 t14 t15 t16 t17 t18 t19 t20 t21 t22 t23 t24 t25 t26 t27 t28 t29 t30 t31 t32 t33 t34 t35 t36 t37 t38 t39 t40 t41 t42 t43 t44 t45 t46 t47 : Value} {ds : List Deferred} (Q : Exit → Act → World → Prop)
    (h : ∀ (t39 t40 t41 t42 t43 t44 t45 t46 : Value) (v : Value) (w' : World), w'.ownsRow N 3 1 v (k + 1) (xs ++ [.int .i64 z]) → Below N w w' → Q .normal ⟨#[t0, .slice (tlA g o c) n (c - 1), t2, t3, t4, v, t6, t7, t8, t9, t10, t11, t12, t13, t14, t15, t16, t17, t18, t19, t20, t21, t22, t23, t24, t25, t26, t27, t28, t29, t30, t31, t32, t33, t34, t35, t36, t37, t38, t39, t40, t41, t42, t43, t44, t45, t46, t47], ds⟩ w') :
    (regOf Tryz.f155 5).wp Tryz.prog Q ⟨#[t0, .slice (some ⟨g, o, none⟩) (n + 1) c, t2, t3, t4, u, t6, t7, t8, t9, t10, t11, t12, t13, t14, t15, t16, t17, t18, t19, t20, t21, t22, t23, t24, t25, t26, t27, t28, t29, t30, t31, t32, t33, t34, t35, t36, t37, t38, t39, t40, t41, t42, t43, t44, t45, t46, t47], ds⟩ w := by
  have H := Lib.hid h; clear h
  obtain ⟨i0, hi, hz0, hz1, hz2⟩ := info_parts infoInt
  have h1I : (1 : Int) ≤ (n : Int) + 1 := by omega
  have m1 : some g ≠ u.ownBlock := fun e => by have := (hown.lt g e.symm).1; omega
  have hgw : g < w.heap.size := by omega
  have hT : (if c = 1 then some (⟨g, o, none⟩ : Addr) else some ⟨g, o + 1, none⟩) = tlA g o c := rfl
  conv in (regOf _ _) => whnf
  obtain ⟨row, hrow⟩ : ∃ r : Option Nat, u.ownBlock = r := ⟨_, rfl⟩
  rw [hrow] at m1
  have HRW := Lib.hid hrow; clear hrow
  have HLT : Hid (∀ q, u.ownBlock = some q → N ≤ q) := Lib.hid (fun q e => (hown.lt q e).1)
  refine wp_region_w (fun w' => World.grownBy _ w' row) (by kernel_rfl) (only_drew (World.grownBy.refl _ _)) ?_
  refine wpW_det (t' := ?ct0R51) 0 (by rfl) (by kernel_rfl) (NQ_free _) (by kernel_rfl) ?cw0R51 ?ch0R51 ?ca0R51 (Eq.refl _) ?cH0R51
  case cw0R51 => (go_simp; done)
  case ch0R51 =>
    intro ds w' hS K hK
    have hc := (ocell hS).1
    have hf := (ocell hS).2
    have hz := hS.size
    try simp at hz
    go_simp
    try go_bits
    first
      | exact hK _ hS (Gr.refl _)
      | fail
  case ca0R51 => (first | (simp [Act.put]; done) | (simp [Act.put, *]; done))
  try dsimp only
  refine wpW_det (t' := ?ct1R51) 1 (by rfl) (by kernel_rfl) (NQ_free _) (by kernel_rfl) ?cw1R51 ?ch1R51 ?ca1R51 (Eq.refl _) ?cH1R51
  case cw1R51 => (go_simp; done)
  case ch1R51 =>
    intro ds w' hS K hK
    have hc := (ocell hS).1
    have hf := (ocell hS).2
    have hz := hS.size
    try simp at hz
    go_simp
    try go_bits
    first
      | exact hK _ hS (Gr.refl _)
      | fail
  case ca1R51 => (first | (simp [Act.put]; done) | (simp [Act.put, *]; done))
  try dsimp only
  refine wpW_det (t' := ?ct2R51) 2 (by rfl) (by kernel_rfl) (NQ_free _) (by kernel_rfl) ?cw2R51 ?ch2R51 ?ca2R51 (Eq.refl _) ?cH2R51
  case cw2R51 => (go_simp; done)
  case ch2R51 =>
    intro ds w' hS K hK
    have hc := (ocell hS).1
    have hf := (ocell hS).2
    have hz := hS.size
    try simp at hz
    go_simp
    try go_bits
    first
      | exact hK _ hS (Gr.refl _)
      | fail
  case ca2R51 => (first | (simp [Act.put]; done) | (simp [Act.put, *]; done))
  try dsimp only
  refine wpW_det (t' := ?ct3R51) 3 (by rfl) (by kernel_rfl) (NQ_free _) (by kernel_rfl) ?cw3R51 ?ch3R51 ?ca3R51 (Eq.refl _) ?cH3R51
  case cw3R51 => (go_simp; done)
  case ch3R51 =>
    intro ds w' hS K hK
    have hc := (ocell hS).1
    have hf := (ocell hS).2
    have hz := hS.size
    try simp at hz
    go_simp
    try go_bits
    first
      | exact hK _ hS (Gr.refl _)
      | fail
  case ca3R51 => (first | (simp [Act.put]; done) | (simp [Act.put, *]; done))
  try dsimp only
  refine wpW_det (t' := ?ct6R51) 6 (by rfl) (by kernel_rfl) (NQ_free _) (by kernel_rfl) ?cw6R51 ?ch6R51 ?ca6R51 (Eq.refl _) ?cH6R51
  case cw6R51 => (go_simp; done)
  case ch6R51 =>
    intro ds w' hS K hK
    have hc := (ocell hS).1
    have hf := (ocell hS).2
    have hz := hS.size
    try simp at hz
    go_simp
    try go_bits
    first
      | exact hK _ hS (Gr.refl _)
      | fail
  case ca6R51 => (first | (simp [Act.put]; done) | (simp [Act.put, *]; done))
  try dsimp only
  refine wpW_det (t' := ?ct7R51) 7 (by rfl) (by kernel_rfl) (NQ_free _) (by kernel_rfl) ?cw7R51 ?ch7R51 ?ca7R51 (Eq.refl _) ?cH7R51
  case cw7R51 => (go_simp; done)
  case ch7R51 =>
    intro ds w' hS K hK
    have hc := (ocell hS).1
    have hf := (ocell hS).2
    have hz := hS.size
    try simp at hz
    go_simp
    try go_bits
    first
      | exact hK _ hS (Gr.refl _)
      | fail
  case ca7R51 => (first | (simp [Act.put]; done) | (simp [Act.put, *]; done))
  try dsimp only
  refine wpW_branch [4] (by kernel_rfl) (by simp) ?_
  intro v1 hg_v1 hS_v1
  have hown1 := own_below hown.drew hg_v1
  refine each_cons ?_ each_nil
  refine wpOp_go (by rfl) (Eq.refl _) (by go_simp; done) ?_
  intro K hK
  go_simp
  try simp only [Act.put]
  have hown2 := hown1.alloc (.cells #[.int .i64 z] 3)
  have hb1 := Blk.new v1 3 #[.int .i64 z]
  refine hK _ _ (only_alloc hS_v1 _) ?_
  clear hK K
  refine wpW_branch [5] (by kernel_rfl) (by simp) ?_
  intro v2 hg2 hS2
  have hown3 := own_below hown2 hg2
  have hb2 := Blk.gr hb1 hg2
  have hzz := hS2.size
  refine each_cons ?_ each_nil
  refine wpOp_go (by rfl) (Eq.refl _) (by go_simp; done) ?_
  intro K hK
  refine wp_append_own _ (.tmp 39) (.tmp 43) 37 rfl N 3 i0 _ 1 8 Tryz.underlying37 hi hz0 hz1 hz2 rfl (by decide) u k xs rfl hown3 ⟨v1.heap.size, 0, none⟩ 1 1 [.int .i64 z] rfl rfl ?hc (by simp [Value.oneCell']) (by unfold maxLen; omega) (by omega) (by omega) ?_
  case hc =>
    intro j q hj
    match j, hj with
    | 0, hj => simp at hj; subst hj; exact hb2.cell 0
    | j + 1, hj => simp at hj
  intro v' wa hown' hgrow _
  rw [HRW.out] at hgrow
  simp only [Act.put, List.setIfInBounds_toArray]
  have hS3 := only_trans hS2 hgrow
  refine hK _ _ hS3 ?_
  clear hK K hown hown1 hown2 hown3 hb1 hb2 hS_v1 hg_v1 hg2
  refine wpW_det (t' := ?ct8R52) 8 (by rfl) (by kernel_rfl) (NQ_free _) (by kernel_rfl) ?cw8R52 ?ch8R52 ?ca8R52 (Eq.refl _) ?cH8R52
  case cw8R52 => (go_simp; done)
  case ch8R52 =>
    intro ds w' hS K hK
    have hc := (ocell hS).1
    have hf := (ocell hS).2
    have hz := hS.size
    try simp at hz
    go_simp
    try go_bits
    first
      | exact hK _ hS (Gr.refl _)
      | exact hK _ (by repeat (first | (with_reducible exact Below.refl _ _) | (with_reducible assumption) | ((with_reducible refine Below.setCell ?_ ?_ _); rotate_left; · (first | exact Nat.le_refl _ | (simp; done) | (simp; omega) | omega)) | ((with_reducible refine Below.alloc ?_ ?_ _); rotate_left; · (first | exact Nat.le_refl _ | (simp; done) | (simp; omega) | omega)) | (with_reducible apply Below.drew) | (with_reducible apply below_drewN') | (refine Below.trans ?_ (Below.mono (by assumption) (by first | exact Nat.le_refl _ | (simp; done) | (simp; omega) | omega))) | exact Below.refl _ _ | assumption)) (by repeat (first | (with_reducible exact Below.refl _ _) | (with_reducible assumption) | ((with_reducible refine Below.setCell ?_ ?_ _); rotate_left; · (first | exact Nat.le_refl _ | (simp; done) | (simp; omega) | omega)) | ((with_reducible refine Below.alloc ?_ ?_ _); rotate_left; · (first | exact Nat.le_refl _ | (simp; done) | (simp; omega) | omega)) | (with_reducible apply Below.drew) | (with_reducible apply below_drewN') | (refine Below.trans ?_ (Below.mono (by assumption) (by first | exact Nat.le_refl _ | (simp; done) | (simp; omega) | omega))) | exact Below.refl _ _ | assumption))
  case ca8R52 => (first | (simp [Act.put]; done) | (simp [Act.put, *]; done))
  try dsimp only
  refine wpW_det (t' := ?ct9R52) 9 (by rfl) (by kernel_rfl) (NQ_free _) (by kernel_rfl) ?cw9R52 ?ch9R52 ?ca9R52 (Eq.refl _) ?cH9R52
  case cw9R52 => (go_simp; done)
  case ch9R52 =>
    intro ds w' hS K hK
    have hc := (ocell hS).1
    have hf := (ocell hS).2
    have hz := hS.size
    try simp at hz
    go_simp
    try go_bits
    first
      | exact hK _ hS (Gr.refl _)
      | exact hK _ (by repeat (first | (with_reducible exact Below.refl _ _) | (with_reducible assumption) | ((with_reducible refine Below.setCell ?_ ?_ _); rotate_left; · (first | exact Nat.le_refl _ | (simp; done) | (simp; omega) | omega)) | ((with_reducible refine Below.alloc ?_ ?_ _); rotate_left; · (first | exact Nat.le_refl _ | (simp; done) | (simp; omega) | omega)) | (with_reducible apply Below.drew) | (with_reducible apply below_drewN') | (refine Below.trans ?_ (Below.mono (by assumption) (by first | exact Nat.le_refl _ | (simp; done) | (simp; omega) | omega))) | exact Below.refl _ _ | assumption)) (by repeat (first | (with_reducible exact Below.refl _ _) | (with_reducible assumption) | ((with_reducible refine Below.setCell ?_ ?_ _); rotate_left; · (first | exact Nat.le_refl _ | (simp; done) | (simp; omega) | omega)) | ((with_reducible refine Below.alloc ?_ ?_ _); rotate_left; · (first | exact Nat.le_refl _ | (simp; done) | (simp; omega) | omega)) | (with_reducible apply Below.drew) | (with_reducible apply below_drewN') | (refine Below.trans ?_ (Below.mono (by assumption) (by first | exact Nat.le_refl _ | (simp; done) | (simp; omega) | omega))) | exact Below.refl _ _ | assumption))
  case ca9R52 => (first | (simp [Act.put]; done) | (simp [Act.put, *]; done))
  try dsimp only
  refine wpW_end (by kernel_rfl) ?_
  intro we hg hS
  unfold NQ
  dsimp only
  exact H.out _ _ _ _ _ _ _ _ v' we (own_below hown' hg) ((Below.refl N w).grown hS hN (fun q e => HLT.out q (HRW.out.trans e)))

set_option maxRecDepth 100000 in
set_option maxHeartbeats 4000000 in
theorem merged_any (a b : List Int) (A A' : Option Addr) (c c' B : Nat) (w : World) (hA : Row w B 1 A a.length (intsC a)) (hA' : Row w B 1 A' b.length (intsC b)) (hB : B ≤ w.heap.size) (hc : a.length ≤ c) (hc' : b.length ≤ c') (hl : a.length + b.length ≤ 1000) :
    Calls Tryz.prog 155 #[.slice A a.length c, .slice A' b.length c'] w fun e w' => ∃ v, e = .returned v ∧ w'.ownsRow w.heap.size 3 1 v (a.length + b.length) (intsC (mergedV a b)) ∧ Below w.heap.size w w' := by
  go_enter Tryz.func155, Tryz.ntmps155
  go_wp2
  go_loopw [0, 1, 5] (fun s0 s1 s5 wr => ∃ (pre ra rb : List Int) (A1 : Option Addr) (c1 : Nat) (A2 : Option Addr) (c2 : Nat) (v : Value), s0 = .slice A1 ra.length c1 ∧ s1 = .slice A2 rb.length c2 ∧ s5 = v ∧ Row wr B 1 A1 ra.length (intsC ra) ∧ Row wr B 1 A2 rb.length (intsC rb) ∧ ra.length ≤ c1 ∧ rb.length ≤ c2 ∧
    wr.ownsRow w.heap.size 3 1 v pre.length (intsC pre) ∧ Hid (pre ++ mergedV ra rb = mergedV a b) ∧ pre.length + ra.length + rb.length = a.length + b.length ∧ Below w.heap.size w wr) (fun s0 s1 _ _ => vlen s0 + vlen s1)
  case atStart => exact ⟨[], a, b, A, c, A', c', _, rfl, rfl, rfl, hA, hA', hc, hc', World.ownsRow_nil _ _ _ _, Lib.hid rfl, by simp, Below.refl _ _⟩
  case round =>
    obtain ⟨pre, ra, rb, A1, c1, A2, c2, v, rfl, rfl, rfl, h1, h2, hc1, hc2, hown, HM, hlen, hBB⟩ := hrel
    cases ra with
    | nil => cases rb with
      | nil =>
        have HE : Hid (intsC pre = intsC (mergedV a b)) := Lib.hid (by rw [← HM.out]; unfold mergedV; simp)
        have hpl : pre.length = a.length + b.length := by simpa using hlen
        go_wp2
        go_ret
        refine ⟨_, rfl, ?_, hBB⟩
        rw [← hpl, ← HE.out]; exact hown
      | cons y rb =>
        have HN : Hid ((pre ++ [y]) ++ mergedV [] rb = mergedV a b) := Lib.hid (by rw [← HM.out, List.append_assoc]; congr 1; simp [mergedV])
        obtain ⟨g, o, hg1, hg, d0⟩ := intCell h2 (k := 0) (by simp)
        have hT := Row.tail (hg1 ▸ h2) hc2
        simp only [List.getElem_cons_zero, Nat.add_zero, List.length_cons, Nat.add_sub_cancel, intsC, List.map_cons, List.drop_succ_cons, List.drop_zero] at d0 hT
        subst hg1
        simp only [List.length_cons, List.length_nil] at hc1 hc2 hlen ⊢
        go_wp2_with fail
        go_quiet (fail)
        go_upto_region 5 with fail
        replace hown := (show (wr.drewN nq).ownsRow w.heap.size 3 1 u5 pre.length (intsC pre) from hown)
        replace hBB := below_drewN' hBB nq
        replace h1 := h1.drewN nq
        replace h2 := h2.drewN nq
        replace hT := hT.drewN nq
        replace d0 := (show (wr.drewN nq).cell? ⟨g, o, none⟩ = some (.int .i64 y) from d0)
        generalize wr.drewN nq = wz at *
        have hzw := Below.size hBB
        refine takeReg5 w.heap.size g o rb.length c2 pre.length y u5 (intsC pre) wz d0 (by omega) hzw hown (by omega) (by omega) _ ?_
        intro t39 t40 t41 t42 t43 t44 t45 t46 v w' hown' hB'
        try dsimp only
        have hBn := hBB.trans hB'
        have hB2 := hB'
        try go_wp2
        exact ⟨⟨pre ++ [y], [], rb, _, _, _, _, v, rfl, rfl, rfl, h1.below hB' hB, hT.below hB' hB, by first | (simp only [List.length_nil]; omega) | omega, by first | (simp only [List.length_cons, List.length_nil]; omega) | omega, by simpa [intsC] using hown', HN, by simp only [List.length_append, List.length_cons, List.length_nil]; omega, hBn⟩, by simp [vlen]⟩
    | cons x ra => cases rb with
      | nil =>
        have HN : Hid ((pre ++ [x]) ++ mergedV ra [] = mergedV a b) := Lib.hid (by rw [← HM.out, List.append_assoc]; congr 1; cases ra <;> simp [mergedV])
        obtain ⟨g, o, hg1, hg, d0⟩ := intCell h1 (k := 0) (by simp)
        have hT := Row.tail (hg1 ▸ h1) hc1
        simp only [List.getElem_cons_zero, Nat.add_zero, List.length_cons, Nat.add_sub_cancel, intsC, List.map_cons, List.drop_succ_cons, List.drop_zero] at d0 hT
        subst hg1
        simp only [List.length_cons, List.length_nil] at hc1 hc2 hlen ⊢
        go_wp2_with fail
        go_quiet (fail)
        go_upto_region 4 with fail
        replace hown := (show (wr.drewN nq).ownsRow w.heap.size 3 1 u5 pre.length (intsC pre) from hown)
        replace hBB := below_drewN' hBB nq
        replace h1 := h1.drewN nq
        replace h2 := h2.drewN nq
        replace hT := hT.drewN nq
        replace d0 := (show (wr.drewN nq).cell? ⟨g, o, none⟩ = some (.int .i64 x) from d0)
        generalize wr.drewN nq = wz at *
        have hzw := Below.size hBB
        refine takeReg4 w.heap.size g o ra.length c1 pre.length x u5 (intsC pre) wz d0 (by omega) hzw hown (by omega) (by omega) _ ?_
        intro t31 t32 t33 t34 t35 t36 t37 t38 v w' hown' hB'
        try dsimp only
        have hBn := hBB.trans hB'
        have hB2 := hB'
        try go_wp2
        exact ⟨⟨pre ++ [x], ra, [], _, _, _, _, v, rfl, rfl, rfl, hT.below hB' hB, h2.below hB' hB, by first | (simp only [List.length_cons, List.length_nil]; omega) | omega, by first | (simp only [List.length_nil]; omega) | omega, by simpa [intsC] using hown', HN, by simp only [List.length_append, List.length_cons, List.length_nil]; omega, hBn⟩, by simp [vlen]⟩
      | cons y rb =>
        obtain ⟨gy, oy, hgy, hgyB, dy⟩ := intCell h2 (k := 0) (by simp)
        obtain ⟨gx, ox, hgx, hgxB, dx⟩ := intCell h1 (k := 0) (by simp)
        simp only [List.getElem_cons_zero, Nat.add_zero] at dx dy
        subst hgx hgy
        have hzz := Below.size hBB
        have hgy2 : gy < wr.heap.size := by omega
        have hgx2 : gx < wr.heap.size := by omega
        have hre : ((rb.length : Int) + 1 == 0) = false := by simp; omega
        by_cases hxy : x < y
        · have HN : Hid ((pre ++ [x]) ++ mergedV ra (y :: rb) = mergedV a b) := Lib.hid (by rw [← HM.out, mergedV_lt hxy]; simp)
          obtain ⟨g, o, hg1, hg, d0⟩ := intCell h1 (k := 0) (by simp)
          have hT := Row.tail (hg1 ▸ h1) hc1
          simp only [List.getElem_cons_zero, Nat.add_zero, List.length_cons, Nat.add_sub_cancel, intsC, List.map_cons, List.drop_succ_cons, List.drop_zero] at d0 hT
          obtain ⟨rfl, rfl⟩ : g = gx ∧ o = ox := by injection hg1 with e; injection e with e1 e2 e3; exact ⟨e1.symm, e2.symm⟩
          simp only [List.length_cons] at hc1 hc2 hlen ⊢
          go_wp2_with fail
          go_quiet (fail)
          go_upto_region 4 with fail
          replace hown := (show (wr.drewN nq).ownsRow w.heap.size 3 1 u5 pre.length (intsC pre) from hown)
          replace hBB := below_drewN' hBB nq
          replace h1 := h1.drewN nq
          replace h2 := h2.drewN nq
          replace hT := hT.drewN nq
          replace d0 := (show (wr.drewN nq).cell? ⟨g, o, none⟩ = some (.int .i64 x) from d0)
          generalize wr.drewN nq = wz at *
          have hzw := Below.size hBB
          refine takeReg4 w.heap.size g o ra.length c1 pre.length x u5 (intsC pre) wz d0 (by omega) hzw hown (by omega) (by omega) _ ?_
          intro t31 t32 t33 t34 t35 t36 t37 t38 v w' hown' hB'
          try dsimp only
          have hBn := hBB.trans hB'
          have hB2 := hB'
          try go_wp2
          exact ⟨⟨pre ++ [x], ra, (y :: rb), _, _, _, _, v, rfl, rfl, rfl, hT.below hB' hB, h2.below hB' hB, by first | (simp only [List.length_cons, List.length_nil]; omega) | omega, by first | (simp only [List.length_cons]; omega) | omega, by simpa [intsC] using hown', HN, by simp only [List.length_append, List.length_cons, List.length_nil]; omega, hBn⟩, by simp [vlen]⟩
        · have HN : Hid ((pre ++ [y]) ++ mergedV (x :: ra) rb = mergedV a b) := Lib.hid (by rw [← HM.out, mergedV_ge hxy]; simp)
          obtain ⟨g, o, hg1, hg, d0⟩ := intCell h2 (k := 0) (by simp)
          have hT := Row.tail (hg1 ▸ h2) hc2
          simp only [List.getElem_cons_zero, Nat.add_zero, List.length_cons, Nat.add_sub_cancel, intsC, List.map_cons, List.drop_succ_cons, List.drop_zero] at d0 hT
          obtain ⟨rfl, rfl⟩ : g = gy ∧ o = oy := by injection hg1 with e; injection e with e1 e2 e3; exact ⟨e1.symm, e2.symm⟩
          simp only [List.length_cons] at hc1 hc2 hlen ⊢
          go_wp2_with fail
          go_quiet (fail)
          go_upto_region 5 with fail
          replace hown := (show (wr.drewN nq).ownsRow w.heap.size 3 1 u5 pre.length (intsC pre) from hown)
          replace hBB := below_drewN' hBB nq
          replace h1 := h1.drewN nq
          replace h2 := h2.drewN nq
          replace hT := hT.drewN nq
          replace d0 := (show (wr.drewN nq).cell? ⟨g, o, none⟩ = some (.int .i64 y) from d0)
          generalize wr.drewN nq = wz at *
          have hzw := Below.size hBB
          refine takeReg5 w.heap.size g o rb.length c2 pre.length y u5 (intsC pre) wz d0 (by omega) hzw hown (by omega) (by omega) _ ?_
          intro t39 t40 t41 t42 t43 t44 t45 t46 v w' hown' hB'
          try dsimp only
          have hBn := hBB.trans hB'
          have hB2 := hB'
          try go_wp2
          exact ⟨⟨pre ++ [y], (x :: ra), rb, _, _, _, _, v, rfl, rfl, rfl, h1.below hB' hB, hT.below hB' hB, by first | (simp only [List.length_cons]; omega) | omega, by first | (simp only [List.length_cons, List.length_nil]; omega) | omega, by simpa [intsC] using hown', HN, by simp only [List.length_append, List.length_cons, List.length_nil]; omega, hBn⟩, by simp [vlen]⟩
end Go.Proofs.YtidgeagpgllkeaaGreat
