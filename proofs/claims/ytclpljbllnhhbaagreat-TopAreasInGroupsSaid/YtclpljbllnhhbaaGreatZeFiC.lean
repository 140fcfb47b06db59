/- Contract: the span of an area's cells along one axis. -/
import Derived.Test.YtclpljbllnhhbaaGreatZeFiB
import Derived.Test.YtclpljbllnhhbaaGreatZeFfD
namespace Go.Proofs.YtclpljbllnhhbaaGreat
open Go.RowKit

def axC (a : Nat) (p : Int × Int) : Int := if a = 0 then p.1 else p.2
/-- The least and the greatest of the first k cells along an axis. -/
def spanP (a : Nat) (l : List (Int × Int)) (k : Nat) : Int × Int := (l.take k).foldl (fun s c => (min s.1 (axC a c), max s.2 (axC a c))) (axC a (l[0]?.getD (0, 0)), axC a (l[0]?.getD (0, 0)))
theorem spanP_zero {a : Nat} {l : List (Int × Int)} (h : 0 < l.length) : spanP a l 0 = (axC a l[0], axC a l[0]) := by simp [spanP, h]
theorem spanP_one {a : Nat} {l : List (Int × Int)} (h : 0 < l.length) : spanP a l 1 = (axC a l[0], axC a l[0]) := by
  cases l with
  | nil => simp at h
  | cons x t => simp [spanP]
theorem spanP_succ {a : Nat} {l : List (Int × Int)} {k : Nat} (h : k < l.length) : spanP a l (k + 1) = (min (spanP a l k).1 (axC a l[k]), max (spanP a l k).2 (axC a l[k])) := by
  unfold spanP
  rw [List.take_succ_eq_append_getElem h, List.foldl_append]; rfl
theorem inC_ax {c : Int × Int} (h : inC c = true) (a : Nat) : -200000 ≤ axC a c ∧ axC a c ≤ 200000 := by
  simp [inC, wi] at h
  unfold axC
  split <;> omega
theorem spanP_bd {l : List (Int × Int)} (hp : 0 < l.length) (h : ∀ c ∈ l, inC c = true) (a : Nat) : ∀ k, k ≤ l.length → -200000 ≤ (spanP a l k).1 ∧ (spanP a l k).1 ≤ 200000 ∧ -200000 ≤ (spanP a l k).2 ∧ (spanP a l k).2 ≤ 200000
  | 0, _ => by
    have := inC_ax (h l[0] (List.getElem_mem hp)) a
    rw [spanP_zero hp]; omega
  | k + 1, hk => by
    have ih := spanP_bd hp h a k (by omega)
    have := inC_ax (h l[k] (List.getElem_mem (by omega))) a
    rw [spanP_succ (by omega)]; dsimp only; omega
theorem mul_span {x st : Int} (h1 : -200001 ≤ x) (h2 : x ≤ 200001) (hs : 1 ≤ st ∧ st ≤ 10000) : -2000010000 ≤ x * st ∧ x * st ≤ 2000010000 := by
  have a := Int.mul_le_mul_of_nonneg_right h2 (show 0 ≤ st by omega)
  have b := Int.mul_le_mul_of_nonneg_right h1 (show 0 ≤ st by omega)
  omega
theorem cellAx {w : World} {B : Nat} {A : Option Addr} {l : List (Int × Int)} (h : Row w B 2 A l.length (cellsC l)) {k : Nat} (hk : k < l.length) {a : Nat} (ha : a < 2) {g o : Nat} (hA : A = some ⟨g, o, none⟩) :
    w.cell? ⟨g, o + k * 2 + a, none⟩ = some (.int .i64 (axC a l[k])) := by
  obtain ⟨g', o', hA', _, c0, c1⟩ := cellPair h hk
  obtain ⟨rfl, rfl⟩ : g = g' ∧ o = o' := by rw [hA] at hA'; cases hA'; exact ⟨rfl, rfl⟩
  match a, ha with
  | 0, _ => exact c0
  | 1, _ => exact c1
theorem axCell {w : World} {g t : Nat} {p : Int × Int} (h : Blk w g t #[.int .i64 p.1, .int .i64 p.2]) {a : Nat} (ha : a < 2) : w.cell? ⟨g, a, none⟩ = some (.int .i64 (axC a p)) := by
  match a, ha with
  | 0, _ => exact h.cell 0
  | 1, _ => exact h.cell 1

set_option maxRecDepth 100000 in
set_option maxHeartbeats 4000000 in
/-- A cell is taken into the span (region 5). -/
theorem spanReg5 {w : World} {N M : Nat} (a : Nat) (ha : a < 2) (s p : Int × Int) (b6 : Blk w N 44 #[.int .i64 s.1, .int .i64 s.2]) (b8 : Blk w M 39 #[.int .i64 p.1, .int .i64 p.2]) (hne : M ≠ N) {t1 t2 t3 t4 t5 t7 t9 t10 t11 t12 t13 t14 t15 t16 t17 t18 t19 t20 t21 t22 t23 t24 t25 t26 t27 t28 t29 t30 t31 t32 t33 t34 t35 t36 t37 t38 t39 t40 t41 t42 t43 t44 t45 t46 t47 t48 : Value} {ds : List Deferred} (Q : Exit → Act → World → Prop)
    (h : ∀ (t29 t30 t31 t32 t33 t34 t35 t36 t37 : Value) (w' : World), Blk w' N 44 #[.int .i64 (min s.1 (axC a p)), .int .i64 (max s.2 (axC a p))] → w.grownBy w' (some N) → Q .normal ⟨#[.int .i64 (a : Int), t1, t2, t3, t4, t5, .pointer (some ⟨N, 0, none⟩), t7, .pointer (some ⟨M, 0, none⟩), t9, t10, t11, t12, t13, t14, t15, t16, t17, t18, t19, t20, t21, t22, t23, t24, t25, t26, t27, t28, t29, t30, t31, t32, t33, t34, t35, t36, t37, t38, t39, t40, t41, t42, t43, t44, t45, t46, t47, t48], ds⟩ w') :
    (regOf Tryz.f29 5).wp Tryz.prog Q ⟨#[.int .i64 (a : Int), t1, t2, t3, t4, t5, .pointer (some ⟨N, 0, none⟩), t7, .pointer (some ⟨M, 0, none⟩), t9, t10, t11, t12, t13, t14, t15, t16, t17, t18, t19, t20, t21, t22, t23, t24, t25, t26, t27, t28, t29, t30, t31, t32, t33, t34, t35, t36, t37, t38, t39, t40, t41, t42, t43, t44, t45, t46, t47, t48], ds⟩ w := by
  have H := Lib.hid h; clear h
  have g0 := axCell b8 ha
  have l8 := b8.lt
  have l6 := b6.lt
  have hai : (a : Int) < 2 := by omega
  have g1 : w.cell? ⟨M, 0 + a, none⟩ = some (.int .i64 (axC a p)) := by rw [Nat.zero_add]; exact g0
  conv in (regOf _ _) => whnf
  obtain ⟨row, hrow⟩ : ∃ r : Option Nat, r = some N := ⟨_, rfl⟩
  have m1 : some M ≠ row := by rw [hrow]; intro e; exact hne (Option.some.inj e)
  have HRW := Lib.hid hrow; clear hrow
  clear b8
  refine wp_region_w (fun w' => World.grownBy _ w' row) (by kernel_rfl) (only_drew (World.grownBy.refl _ _)) ?_
  refine wpW_det (t' := ?ct1R59) 1 (by rfl) (by kernel_rfl) (NQ_free _) (by kernel_rfl) ?cw1R59 ?ch1R59 ?ca1R59 (Eq.refl _) ?cH1R59
  case cw1R59 => (go_simp; done)
  case ch1R59 =>
    intro ds w' hS K hK
    have hc := (ocell hS).1
    have hf := (ocell hS).2
    have hz := hS.size
    try simp at hz
    go_simp
    try go_bits
    first
      | exact hK _ hS (Gr.refl _)
      | fail
  case ca1R59 => (first | (simp [Act.put]; done) | (simp [Act.put, *]; done))
  try dsimp only
  refine wpW_det (t' := ?ct2R59) 2 (by rfl) (by kernel_rfl) (NQ_free _) (by kernel_rfl) ?cw2R59 ?ch2R59 ?ca2R59 (Eq.refl _) ?cH2R59
  case cw2R59 => (go_simp; done)
  case ch2R59 =>
    intro ds w' hS K hK
    have hc := (ocell hS).1
    have hf := (ocell hS).2
    have hz := hS.size
    try simp at hz
    go_simp
    try go_bits
    first
      | exact hK _ hS (Gr.refl _)
      | fail
  case ca2R59 => (first | (simp [Act.put]; done) | (simp [Act.put, *]; done))
  try dsimp only
  refine wpW_det (t' := ?ct3R59) 3 (by rfl) (by kernel_rfl) (NQ_free _) (by kernel_rfl) ?cw3R59 ?ch3R59 ?ca3R59 (Eq.refl _) ?cH3R59
  case cw3R59 => (go_simp; done)
  case ch3R59 =>
    intro ds w' hS K hK
    have hc := (ocell hS).1
    have hf := (ocell hS).2
    have hz := hS.size
    try simp at hz
    go_simp
    try go_bits
    first
      | exact hK _ hS (Gr.refl _)
      | fail
  case ca3R59 => (first | (simp [Act.put]; done) | (simp [Act.put, *]; done))
  try dsimp only
  refine wpW_det (t' := ?ct4R59) 4 (by rfl) (by kernel_rfl) (NQ_free _) (by kernel_rfl) ?cw4R59 ?ch4R59 ?ca4R59 (Eq.refl _) ?cH4R59
  case cw4R59 => (go_simp; done)
  case ch4R59 =>
    intro ds w' hS K hK
    have hc := (ocell hS).1
    have hf := (ocell hS).2
    have hz := hS.size
    try simp at hz
    go_simp
    try go_bits
    first
      | exact hK _ hS (Gr.refl _)
      | fail
  case ca4R59 => (first | (simp [Act.put]; done) | (simp [Act.put, *]; done))
  try dsimp only
  refine wpW_det (t' := ?ct5R59) 5 (by rfl) (by kernel_rfl) (NQ_free _) (by kernel_rfl) ?cw5R59 ?ch5R59 ?ca5R59 (Eq.refl _) ?cH5R59
  case cw5R59 => (go_simp; done)
  case ch5R59 =>
    intro ds w' hS K hK
    have hc := (ocell hS).1
    have hf := (ocell hS).2
    have hz := hS.size
    try simp at hz
    go_simp
    try go_bits
    first
      | exact hK _ hS (Gr.refl _)
      | fail
  case ca5R59 => (first | (simp [Act.put]; done) | (simp [Act.put, *]; done))
  try dsimp only
  refine wpW_det (t' := ?ct6R59) 6 (by rfl) (by kernel_rfl) (NQ_free _) (by kernel_rfl) ?cw6R59 ?ch6R59 ?ca6R59 (Eq.refl _) ?cH6R59
  case cw6R59 => (go_simp; done)
  case ch6R59 =>
    intro ds w' hS K hK
    have hc := (ocell hS).1
    have hf := (ocell hS).2
    have hz := hS.size
    try simp at hz
    go_simp
    try go_bits
    first
      | exact hK _ hS (Gr.refl _)
      | fail
  case ca6R59 => (first | (simp [Act.put]; done) | (simp [Act.put, *]; done))
  try dsimp only
  refine wpW_det (t' := ?ct7R59) 7 (by rfl) (by kernel_rfl) (NQ_free _) (by kernel_rfl) ?cw7R59 ?ch7R59 ?ca7R59 (Eq.refl _) ?cH7R59
  case cw7R59 => (go_simp; done)
  case ch7R59 =>
    intro ds w' hS K hK
    have hc := (ocell hS).1
    have hf := (ocell hS).2
    have hz := hS.size
    try simp at hz
    go_simp
    try go_bits
    first
      | exact hK _ hS (Gr.refl _)
      | fail
  case ca7R59 => (first | (simp [Act.put]; done) | (simp [Act.put, *]; done))
  try dsimp only
  clear g0 g1 l8 m1
  refine wpW_branch [0] (by kernel_rfl) (by simp) ?_
  intro w1 hg1 hS1
  have b6 := (by first | exact Blk.gr b6 hg1 | exact Blk.gr b6.drew hg1 : Blk w1 N 44 #[.int .i64 s.1, .int .i64 s.2])
  obtain ⟨e0, e1, f6⟩ := blk2c b6
  have l6 := b6.lt
  refine each_cons ?_ (each_nil)
  · refine wpOp_go (by rfl) (Eq.refl _) (by go_simp; done) ?_
    intro K hK
    go_simp
    try simp only [Act.put]
    refine hK _ _ hS1 ?_
    clear hK K
    clear e0 e1 f6 l6
    refine wpW_det (t' := ?ct8R60) 8 (by rfl) (by kernel_rfl) (NQ_free _) (by kernel_rfl) ?cw8R60 ?ch8R60 ?ca8R60 (Eq.refl _) ?cH8R60
    case cw8R60 => (go_simp; done)
    case ch8R60 =>
      intro ds w' hS K hK
      have hc := (ocell hS).1
      have hf := (ocell hS).2
      have hz := hS.size
      try simp at hz
      go_simp
      try go_bits
      first
        | exact hK _ hS (Gr.refl _)
        | (refine (over_any _ _ _ _ _).mono ?_; rintro e w1 ⟨rfl, hB1⟩; exact hK _ (only_below hS hB1 hS.size) hB1)
        | exact hK _ (by repeat (first | (with_reducible exact Below.refl _ _) | (with_reducible assumption) | ((with_reducible refine Below.setCell ?_ ?_ _); rotate_left; · (first | exact Nat.le_refl _ | (simp; done) | (simp; omega) | omega)) | ((with_reducible refine Below.alloc ?_ ?_ _); rotate_left; · (first | exact Nat.le_refl _ | (simp; done) | (simp; omega) | omega)) | (with_reducible apply Below.drew) | (with_reducible apply below_drewN') | (refine Below.trans ?_ (Below.mono (by assumption) (by first | exact Nat.le_refl _ | (simp; done) | (simp; omega) | omega))) | exact Below.refl _ _ | assumption)) (by repeat (first | (with_reducible exact Below.refl _ _) | (with_reducible assumption) | ((with_reducible refine Below.setCell ?_ ?_ _); rotate_left; · (first | exact Nat.le_refl _ | (simp; done) | (simp; omega) | omega)) | ((with_reducible refine Below.alloc ?_ ?_ _); rotate_left; · (first | exact Nat.le_refl _ | (simp; done) | (simp; omega) | omega)) | (with_reducible apply Below.drew) | (with_reducible apply below_drewN') | (refine Below.trans ?_ (Below.mono (by assumption) (by first | exact Nat.le_refl _ | (simp; done) | (simp; omega) | omega))) | exact Below.refl _ _ | assumption))
    case ca8R60 => (first | (simp [Act.put]; done) | (simp [Act.put, *]; done))
    try dsimp only
    refine wpW_branch [9] (by kernel_rfl) (by simp) ?_
    intro v1 hg_v1 hS_v1
    have b6 := Blk.gr b6 hg_v1
    have f6 := b6.frozen
    obtain ⟨e0, e1, _⟩ := blk2c b6
    have l6 := b6.lt
    refine each_cons ?_ each_nil
    refine wpOp_go (by rfl) (Eq.refl _) (by go_simp; done) ?_
    intro K hK
    go_simp
    try simp only [Act.put]
    refine hK _ _ (only_set2' HRW.out (only_set2' HRW.out hS_v1 _ _) _ _) ?_
    replace b6 := Blk.set2 b6 (.int .i64 (min s.1 (axC a p))) (.int .i64 (max s.2 (axC a p)))
    clear hK K e0 e1 f6 l6
    refine wpW_end (by kernel_rfl) ?_
    intro we hg hS
    unfold NQ
    dsimp only
    rw [HRW.out] at hS
    replace b6 := b6.gr hg
    exact H.out _ _ _ _ _ _ _ _ _ we b6 hS

set_option maxRecDepth 100000 in
set_option maxHeartbeats 1000000 in
theorem markSpan_any (l : List (Int × Int)) (A : Option Addr) (c B a : Nat) (ha : a < 2) (st pr pc lv : Int) (q : Nat) (w : World) (bq : Blk w q 42 #[.slice A l.length c, .int .i64 pr, .int .i64 pc, .int .i64 lv])
    (hR : Row w B 2 A l.length (cellsC l)) (hB : B ≤ w.heap.size) (hp : 0 < l.length) (hl : l.length ≤ 4096) (hin : Hid (∀ c ∈ l, inC c = true)) (hst : 1 ≤ st ∧ st ≤ 10000) :
    Calls Tryz.prog 29 #[.int .i64 (a : Int), .int .i64 st, .pointer (some ⟨q, 0, none⟩)] w fun e w' => e = .returned (.agg #[.int .i64 ((spanP a l l.length).1 * st), .int .i64 (((spanP a l l.length).2 + 1) * st)]) ∧ Below w.heap.size w w' := by
  have hai : (a : Int) < 2 := by omega
  have b5 := Blk.new w 44 #[.int .i64 0, .int .i64 0]
  have hBB : Below w.heap.size w (w.alloc (.cells #[.int .i64 0, .int .i64 0] 44)) := (by repeat (first | (with_reducible exact Below.refl _ _) | (with_reducible assumption) | ((with_reducible refine Below.setCell ?_ ?_ _); rotate_left; · (first | exact Nat.le_refl _ | (simp; done) | (simp; omega) | omega)) | ((with_reducible refine Below.alloc ?_ ?_ _); rotate_left; · (first | exact Nat.le_refl _ | (simp; done) | (simp; omega) | omega)) | (with_reducible apply Below.drew) | (with_reducible apply below_drewN') | (refine Below.trans ?_ (Below.mono (by assumption) (by first | exact Nat.le_refl _ | (simp; done) | (simp; omega) | omega))) | exact Below.refl _ _ | assumption))
  replace bq := bq.alloc (.cells #[.int .i64 0, .int .i64 0] 44)
  go_enter Tryz.func29, Tryz.ntmps29
  go_upto_region 1 with fail
  obtain ⟨W, hW⟩ : ∃ W, w.alloc (.cells #[.int .i64 0, .int .i64 0] 44) = W := ⟨_, rfl⟩
  rw [hW] at b5 bq hBB ⊢
  clear hW
  have hRW := hR.below hBB hB
  obtain ⟨g, o, hA, hg, _, _⟩ := cellPair hRW hp
  have ca := cellAx hRW hp ha hA
  have hgW : g < W.heap.size := by have := Below.size hBB; omega
  have hP0 := spanP_zero (a := a) hp
  obtain ⟨m, hm⟩ : ∃ m, axC a l[0] = m := ⟨_, rfl⟩
  rw [hm] at ca hP0
  simp only [Nat.zero_mul, Nat.add_zero] at ca
  clear hm hRW
  have hAo := Lib.hid hA
  subst hA
  obtain ⟨x0, x1, x2, x3, _⟩ := blk4 bq
  have lq := bq.lt
  have l5 := b5.lt
  refine wp_region_w (Gr _) (by kernel_rfl) (Below.refl _ _).drew ?_
  refine wpW_det (t' := ?ct0R61) 0 (by rfl) (by kernel_rfl) (NQ_free _) (by kernel_rfl) ?cw0R61 ?ch0R61 ?ca0R61 (Eq.refl _) ?cH0R61
  case cw0R61 => (go_simp; done)
  case ch0R61 =>
    intro ds w' hS K hK
    have hc := (bcell hS).1
    have hf := (bcell hS).2
    have hz := hS.size
    try simp at hz
    go_simp
    try go_bits
    first
      | exact hK _ hS (Gr.refl _)
      | exact hK _ (by repeat (first | (with_reducible exact Below.refl _ _) | (with_reducible assumption) | ((with_reducible refine Below.setCell ?_ ?_ _); rotate_left; · (first | exact Nat.le_refl _ | (simp; done) | (simp; omega) | omega)) | ((with_reducible refine Below.alloc ?_ ?_ _); rotate_left; · (first | exact Nat.le_refl _ | (simp; done) | (simp; omega) | omega)) | (with_reducible apply Below.drew) | (with_reducible apply below_drewN') | (refine Below.trans ?_ (Below.mono (by assumption) (by first | exact Nat.le_refl _ | (simp; done) | (simp; omega) | omega))) | exact Below.refl _ _ | assumption)) (by repeat (first | (with_reducible exact Below.refl _ _) | (with_reducible assumption) | ((with_reducible refine Below.setCell ?_ ?_ _); rotate_left; · (first | exact Nat.le_refl _ | (simp; done) | (simp; omega) | omega)) | ((with_reducible refine Below.alloc ?_ ?_ _); rotate_left; · (first | exact Nat.le_refl _ | (simp; done) | (simp; omega) | omega)) | (with_reducible apply Below.drew) | (with_reducible apply below_drewN') | (refine Below.trans ?_ (Below.mono (by assumption) (by first | exact Nat.le_refl _ | (simp; done) | (simp; omega) | omega))) | exact Below.refl _ _ | assumption))
  case ca0R61 => (first | (simp [Act.put]; done) | (simp [Act.put, *]; done))
  try dsimp only
  refine wpW_det (t' := ?ct1R61) 1 (by rfl) (by kernel_rfl) (NQ_free _) (by kernel_rfl) ?cw1R61 ?ch1R61 ?ca1R61 (Eq.refl _) ?cH1R61
  case cw1R61 => (go_simp; done)
  case ch1R61 =>
    intro ds w' hS K hK
    have hc := (bcell hS).1
    have hf := (bcell hS).2
    have hz := hS.size
    try simp at hz
    go_simp
    try go_bits
    first
      | exact hK _ hS (Gr.refl _)
      | exact hK _ (by repeat (first | (with_reducible exact Below.refl _ _) | (with_reducible assumption) | ((with_reducible refine Below.setCell ?_ ?_ _); rotate_left; · (first | exact Nat.le_refl _ | (simp; done) | (simp; omega) | omega)) | ((with_reducible refine Below.alloc ?_ ?_ _); rotate_left; · (first | exact Nat.le_refl _ | (simp; done) | (simp; omega) | omega)) | (with_reducible apply Below.drew) | (with_reducible apply below_drewN') | (refine Below.trans ?_ (Below.mono (by assumption) (by first | exact Nat.le_refl _ | (simp; done) | (simp; omega) | omega))) | exact Below.refl _ _ | assumption)) (by repeat (first | (with_reducible exact Below.refl _ _) | (with_reducible assumption) | ((with_reducible refine Below.setCell ?_ ?_ _); rotate_left; · (first | exact Nat.le_refl _ | (simp; done) | (simp; omega) | omega)) | ((with_reducible refine Below.alloc ?_ ?_ _); rotate_left; · (first | exact Nat.le_refl _ | (simp; done) | (simp; omega) | omega)) | (with_reducible apply Below.drew) | (with_reducible apply below_drewN') | (refine Below.trans ?_ (Below.mono (by assumption) (by first | exact Nat.le_refl _ | (simp; done) | (simp; omega) | omega))) | exact Below.refl _ _ | assumption))
  case ca1R61 => (first | (simp [Act.put]; done) | (simp [Act.put, *]; done))
  try dsimp only
  refine wpW_det (t' := ?ct2R61) 2 (by rfl) (by kernel_rfl) (NQ_free _) (by kernel_rfl) ?cw2R61 ?ch2R61 ?ca2R61 (Eq.refl _) ?cH2R61
  case cw2R61 => (go_simp; done)
  case ch2R61 =>
    intro ds w' hS K hK
    have hc := (bcell hS).1
    have hf := (bcell hS).2
    have hz := hS.size
    try simp at hz
    go_simp
    try go_bits
    first
      | exact hK _ hS (Gr.refl _)
      | exact hK _ (by repeat (first | (with_reducible exact Below.refl _ _) | (with_reducible assumption) | ((with_reducible refine Below.setCell ?_ ?_ _); rotate_left; · (first | exact Nat.le_refl _ | (simp; done) | (simp; omega) | omega)) | ((with_reducible refine Below.alloc ?_ ?_ _); rotate_left; · (first | exact Nat.le_refl _ | (simp; done) | (simp; omega) | omega)) | (with_reducible apply Below.drew) | (with_reducible apply below_drewN') | (refine Below.trans ?_ (Below.mono (by assumption) (by first | exact Nat.le_refl _ | (simp; done) | (simp; omega) | omega))) | exact Below.refl _ _ | assumption)) (by repeat (first | (with_reducible exact Below.refl _ _) | (with_reducible assumption) | ((with_reducible refine Below.setCell ?_ ?_ _); rotate_left; · (first | exact Nat.le_refl _ | (simp; done) | (simp; omega) | omega)) | ((with_reducible refine Below.alloc ?_ ?_ _); rotate_left; · (first | exact Nat.le_refl _ | (simp; done) | (simp; omega) | omega)) | (with_reducible apply Below.drew) | (with_reducible apply below_drewN') | (refine Below.trans ?_ (Below.mono (by assumption) (by first | exact Nat.le_refl _ | (simp; done) | (simp; omega) | omega))) | exact Below.refl _ _ | assumption))
  case ca2R61 => (first | (simp [Act.put]; done) | (simp [Act.put, *]; done))
  try dsimp only
  refine wpW_det (t' := ?ct3R61) 3 (by rfl) (by kernel_rfl) (NQ_free _) (by kernel_rfl) ?cw3R61 ?ch3R61 ?ca3R61 (Eq.refl _) ?cH3R61
  case cw3R61 => (go_simp; done)
  case ch3R61 =>
    intro ds w' hS K hK
    have hc := (bcell hS).1
    have hf := (bcell hS).2
    have hz := hS.size
    try simp at hz
    go_simp
    try go_bits
    first
      | exact hK _ hS (Gr.refl _)
      | exact hK _ (by repeat (first | (with_reducible exact Below.refl _ _) | (with_reducible assumption) | ((with_reducible refine Below.setCell ?_ ?_ _); rotate_left; · (first | exact Nat.le_refl _ | (simp; done) | (simp; omega) | omega)) | ((with_reducible refine Below.alloc ?_ ?_ _); rotate_left; · (first | exact Nat.le_refl _ | (simp; done) | (simp; omega) | omega)) | (with_reducible apply Below.drew) | (with_reducible apply below_drewN') | (refine Below.trans ?_ (Below.mono (by assumption) (by first | exact Nat.le_refl _ | (simp; done) | (simp; omega) | omega))) | exact Below.refl _ _ | assumption)) (by repeat (first | (with_reducible exact Below.refl _ _) | (with_reducible assumption) | ((with_reducible refine Below.setCell ?_ ?_ _); rotate_left; · (first | exact Nat.le_refl _ | (simp; done) | (simp; omega) | omega)) | ((with_reducible refine Below.alloc ?_ ?_ _); rotate_left; · (first | exact Nat.le_refl _ | (simp; done) | (simp; omega) | omega)) | (with_reducible apply Below.drew) | (with_reducible apply below_drewN') | (refine Below.trans ?_ (Below.mono (by assumption) (by first | exact Nat.le_refl _ | (simp; done) | (simp; omega) | omega))) | exact Below.refl _ _ | assumption))
  case ca3R61 => (first | (simp [Act.put]; done) | (simp [Act.put, *]; done))
  try dsimp only
  refine wpW_det (t' := ?ct4R61) 4 (by rfl) (by kernel_rfl) (NQ_free _) (by kernel_rfl) ?cw4R61 ?ch4R61 ?ca4R61 (Eq.refl _) ?cH4R61
  case cw4R61 => (go_simp; done)
  case ch4R61 =>
    intro ds w' hS K hK
    have hc := (bcell hS).1
    have hf := (bcell hS).2
    have hz := hS.size
    try simp at hz
    go_simp
    try go_bits
    first
      | exact hK _ hS (Gr.refl _)
      | exact hK _ (by repeat (first | (with_reducible exact Below.refl _ _) | (with_reducible assumption) | ((with_reducible refine Below.setCell ?_ ?_ _); rotate_left; · (first | exact Nat.le_refl _ | (simp; done) | (simp; omega) | omega)) | ((with_reducible refine Below.alloc ?_ ?_ _); rotate_left; · (first | exact Nat.le_refl _ | (simp; done) | (simp; omega) | omega)) | (with_reducible apply Below.drew) | (with_reducible apply below_drewN') | (refine Below.trans ?_ (Below.mono (by assumption) (by first | exact Nat.le_refl _ | (simp; done) | (simp; omega) | omega))) | exact Below.refl _ _ | assumption)) (by repeat (first | (with_reducible exact Below.refl _ _) | (with_reducible assumption) | ((with_reducible refine Below.setCell ?_ ?_ _); rotate_left; · (first | exact Nat.le_refl _ | (simp; done) | (simp; omega) | omega)) | ((with_reducible refine Below.alloc ?_ ?_ _); rotate_left; · (first | exact Nat.le_refl _ | (simp; done) | (simp; omega) | omega)) | (with_reducible apply Below.drew) | (with_reducible apply below_drewN') | (refine Below.trans ?_ (Below.mono (by assumption) (by first | exact Nat.le_refl _ | (simp; done) | (simp; omega) | omega))) | exact Below.refl _ _ | assumption))
  case ca4R61 => (first | (simp [Act.put]; done) | (simp [Act.put, *]; done))
  try dsimp only
  refine wpW_det (t' := ?ct5R61) 5 (by rfl) (by kernel_rfl) (NQ_free _) (by kernel_rfl) ?cw5R61 ?ch5R61 ?ca5R61 (Eq.refl _) ?cH5R61
  case cw5R61 => (go_simp; done)
  case ch5R61 =>
    intro ds w' hS K hK
    have hc := (bcell hS).1
    have hf := (bcell hS).2
    have hz := hS.size
    try simp at hz
    go_simp
    try go_bits
    first
      | exact hK _ hS (Gr.refl _)
      | exact hK _ (by repeat (first | (with_reducible exact Below.refl _ _) | (with_reducible assumption) | ((with_reducible refine Below.setCell ?_ ?_ _); rotate_left; · (first | exact Nat.le_refl _ | (simp; done) | (simp; omega) | omega)) | ((with_reducible refine Below.alloc ?_ ?_ _); rotate_left; · (first | exact Nat.le_refl _ | (simp; done) | (simp; omega) | omega)) | (with_reducible apply Below.drew) | (with_reducible apply below_drewN') | (refine Below.trans ?_ (Below.mono (by assumption) (by first | exact Nat.le_refl _ | (simp; done) | (simp; omega) | omega))) | exact Below.refl _ _ | assumption)) (by repeat (first | (with_reducible exact Below.refl _ _) | (with_reducible assumption) | ((with_reducible refine Below.setCell ?_ ?_ _); rotate_left; · (first | exact Nat.le_refl _ | (simp; done) | (simp; omega) | omega)) | ((with_reducible refine Below.alloc ?_ ?_ _); rotate_left; · (first | exact Nat.le_refl _ | (simp; done) | (simp; omega) | omega)) | (with_reducible apply Below.drew) | (with_reducible apply below_drewN') | (refine Below.trans ?_ (Below.mono (by assumption) (by first | exact Nat.le_refl _ | (simp; done) | (simp; omega) | omega))) | exact Below.refl _ _ | assumption))
  case ca5R61 => (first | (simp [Act.put]; done) | (simp [Act.put, *]; done))
  try dsimp only
  refine wpW_det (t' := ?ct6R61) 6 (by rfl) (by kernel_rfl) (NQ_free _) (by kernel_rfl) ?cw6R61 ?ch6R61 ?ca6R61 (Eq.refl _) ?cH6R61
  case cw6R61 => (go_simp; done)
  case ch6R61 =>
    intro ds w' hS K hK
    have hc := (bcell hS).1
    have hf := (bcell hS).2
    have hz := hS.size
    try simp at hz
    go_simp
    try go_bits
    first
      | exact hK _ hS (Gr.refl _)
      | exact hK _ (by repeat (first | (with_reducible exact Below.refl _ _) | (with_reducible assumption) | ((with_reducible refine Below.setCell ?_ ?_ _); rotate_left; · (first | exact Nat.le_refl _ | (simp; done) | (simp; omega) | omega)) | ((with_reducible refine Below.alloc ?_ ?_ _); rotate_left; · (first | exact Nat.le_refl _ | (simp; done) | (simp; omega) | omega)) | (with_reducible apply Below.drew) | (with_reducible apply below_drewN') | (refine Below.trans ?_ (Below.mono (by assumption) (by first | exact Nat.le_refl _ | (simp; done) | (simp; omega) | omega))) | exact Below.refl _ _ | assumption)) (by repeat (first | (with_reducible exact Below.refl _ _) | (with_reducible assumption) | ((with_reducible refine Below.setCell ?_ ?_ _); rotate_left; · (first | exact Nat.le_refl _ | (simp; done) | (simp; omega) | omega)) | ((with_reducible refine Below.alloc ?_ ?_ _); rotate_left; · (first | exact Nat.le_refl _ | (simp; done) | (simp; omega) | omega)) | (with_reducible apply Below.drew) | (with_reducible apply below_drewN') | (refine Below.trans ?_ (Below.mono (by assumption) (by first | exact Nat.le_refl _ | (simp; done) | (simp; omega) | omega))) | exact Below.refl _ _ | assumption))
  case ca6R61 => (first | (simp [Act.put]; done) | (simp [Act.put, *]; done))
  try dsimp only
  refine wpW_det (t' := ?ct7R61) 7 (by rfl) (by kernel_rfl) (NQ_free _) (by kernel_rfl) ?cw7R61 ?ch7R61 ?ca7R61 (Eq.refl _) ?cH7R61
  case cw7R61 => (go_simp; done)
  case ch7R61 =>
    intro ds w' hS K hK
    have hc := (bcell hS).1
    have hf := (bcell hS).2
    have hz := hS.size
    try simp at hz
    go_simp
    try go_bits
    first
      | exact hK _ hS (Gr.refl _)
      | exact hK _ (by repeat (first | (with_reducible exact Below.refl _ _) | (with_reducible assumption) | ((with_reducible refine Below.setCell ?_ ?_ _); rotate_left; · (first | exact Nat.le_refl _ | (simp; done) | (simp; omega) | omega)) | ((with_reducible refine Below.alloc ?_ ?_ _); rotate_left; · (first | exact Nat.le_refl _ | (simp; done) | (simp; omega) | omega)) | (with_reducible apply Below.drew) | (with_reducible apply below_drewN') | (refine Below.trans ?_ (Below.mono (by assumption) (by first | exact Nat.le_refl _ | (simp; done) | (simp; omega) | omega))) | exact Below.refl _ _ | assumption)) (by repeat (first | (with_reducible exact Below.refl _ _) | (with_reducible assumption) | ((with_reducible refine Below.setCell ?_ ?_ _); rotate_left; · (first | exact Nat.le_refl _ | (simp; done) | (simp; omega) | omega)) | ((with_reducible refine Below.alloc ?_ ?_ _); rotate_left; · (first | exact Nat.le_refl _ | (simp; done) | (simp; omega) | omega)) | (with_reducible apply Below.drew) | (with_reducible apply below_drewN') | (refine Below.trans ?_ (Below.mono (by assumption) (by first | exact Nat.le_refl _ | (simp; done) | (simp; omega) | omega))) | exact Below.refl _ _ | assumption))
  case ca7R61 => (first | (simp [Act.put]; done) | (simp [Act.put, *]; done))
  try dsimp only
  refine wpW_det (t' := ?ct8R61) 8 (by rfl) (by kernel_rfl) (NQ_free _) (by kernel_rfl) ?cw8R61 ?ch8R61 ?ca8R61 (Eq.refl _) ?cH8R61
  case cw8R61 => (go_simp; done)
  case ch8R61 =>
    intro ds w' hS K hK
    have hc := (bcell hS).1
    have hf := (bcell hS).2
    have hz := hS.size
    try simp at hz
    go_simp
    try go_bits
    first
      | exact hK _ hS (Gr.refl _)
      | exact hK _ (by repeat (first | (with_reducible exact Below.refl _ _) | (with_reducible assumption) | ((with_reducible refine Below.setCell ?_ ?_ _); rotate_left; · (first | exact Nat.le_refl _ | (simp; done) | (simp; omega) | omega)) | ((with_reducible refine Below.alloc ?_ ?_ _); rotate_left; · (first | exact Nat.le_refl _ | (simp; done) | (simp; omega) | omega)) | (with_reducible apply Below.drew) | (with_reducible apply below_drewN') | (refine Below.trans ?_ (Below.mono (by assumption) (by first | exact Nat.le_refl _ | (simp; done) | (simp; omega) | omega))) | exact Below.refl _ _ | assumption)) (by repeat (first | (with_reducible exact Below.refl _ _) | (with_reducible assumption) | ((with_reducible refine Below.setCell ?_ ?_ _); rotate_left; · (first | exact Nat.le_refl _ | (simp; done) | (simp; omega) | omega)) | ((with_reducible refine Below.alloc ?_ ?_ _); rotate_left; · (first | exact Nat.le_refl _ | (simp; done) | (simp; omega) | omega)) | (with_reducible apply Below.drew) | (with_reducible apply below_drewN') | (refine Below.trans ?_ (Below.mono (by assumption) (by first | exact Nat.le_refl _ | (simp; done) | (simp; omega) | omega))) | exact Below.refl _ _ | assumption))
  case ca8R61 => (first | (simp [Act.put]; done) | (simp [Act.put, *]; done))
  try dsimp only
  refine wpW_det (t' := ?ct9R61) 9 (by rfl) (by kernel_rfl) (NQ_free _) (by kernel_rfl) ?cw9R61 ?ch9R61 ?ca9R61 (Eq.refl _) ?cH9R61
  case cw9R61 => (go_simp; done)
  case ch9R61 =>
    intro ds w' hS K hK
    have hc := (bcell hS).1
    have hf := (bcell hS).2
    have hz := hS.size
    try simp at hz
    go_simp
    try go_bits
    first
      | exact hK _ hS (Gr.refl _)
      | exact hK _ (by repeat (first | (with_reducible exact Below.refl _ _) | (with_reducible assumption) | ((with_reducible refine Below.setCell ?_ ?_ _); rotate_left; · (first | exact Nat.le_refl _ | (simp; done) | (simp; omega) | omega)) | ((with_reducible refine Below.alloc ?_ ?_ _); rotate_left; · (first | exact Nat.le_refl _ | (simp; done) | (simp; omega) | omega)) | (with_reducible apply Below.drew) | (with_reducible apply below_drewN') | (refine Below.trans ?_ (Below.mono (by assumption) (by first | exact Nat.le_refl _ | (simp; done) | (simp; omega) | omega))) | exact Below.refl _ _ | assumption)) (by repeat (first | (with_reducible exact Below.refl _ _) | (with_reducible assumption) | ((with_reducible refine Below.setCell ?_ ?_ _); rotate_left; · (first | exact Nat.le_refl _ | (simp; done) | (simp; omega) | omega)) | ((with_reducible refine Below.alloc ?_ ?_ _); rotate_left; · (first | exact Nat.le_refl _ | (simp; done) | (simp; omega) | omega)) | (with_reducible apply Below.drew) | (with_reducible apply below_drewN') | (refine Below.trans ?_ (Below.mono (by assumption) (by first | exact Nat.le_refl _ | (simp; done) | (simp; omega) | omega))) | exact Below.refl _ _ | assumption))
  case ca9R61 => (first | (simp [Act.put]; done) | (simp [Act.put, *]; done))
  try dsimp only
  refine wpW_det (t' := ?ct10R61) 10 (by rfl) (by kernel_rfl) (NQ_free _) (by kernel_rfl) ?cw10R61 ?ch10R61 ?ca10R61 (Eq.refl _) ?cH10R61
  case cw10R61 => (go_simp; done)
  case ch10R61 =>
    intro ds w' hS K hK
    have hc := (bcell hS).1
    have hf := (bcell hS).2
    have hz := hS.size
    try simp at hz
    go_simp
    try go_bits
    first
      | exact hK _ hS (Gr.refl _)
      | exact hK _ (by repeat (first | (with_reducible exact Below.refl _ _) | (with_reducible assumption) | ((with_reducible refine Below.setCell ?_ ?_ _); rotate_left; · (first | exact Nat.le_refl _ | (simp; done) | (simp; omega) | omega)) | ((with_reducible refine Below.alloc ?_ ?_ _); rotate_left; · (first | exact Nat.le_refl _ | (simp; done) | (simp; omega) | omega)) | (with_reducible apply Below.drew) | (with_reducible apply below_drewN') | (refine Below.trans ?_ (Below.mono (by assumption) (by first | exact Nat.le_refl _ | (simp; done) | (simp; omega) | omega))) | exact Below.refl _ _ | assumption)) (by repeat (first | (with_reducible exact Below.refl _ _) | (with_reducible assumption) | ((with_reducible refine Below.setCell ?_ ?_ _); rotate_left; · (first | exact Nat.le_refl _ | (simp; done) | (simp; omega) | omega)) | ((with_reducible refine Below.alloc ?_ ?_ _); rotate_left; · (first | exact Nat.le_refl _ | (simp; done) | (simp; omega) | omega)) | (with_reducible apply Below.drew) | (with_reducible apply below_drewN') | (refine Below.trans ?_ (Below.mono (by assumption) (by first | exact Nat.le_refl _ | (simp; done) | (simp; omega) | omega))) | exact Below.refl _ _ | assumption))
  case ca10R61 => (first | (simp [Act.put]; done) | (simp [Act.put, *]; done))
  try dsimp only
  refine wpW_det (t' := ?ct11R61) 11 (by rfl) (by kernel_rfl) (NQ_free _) (by kernel_rfl) ?cw11R61 ?ch11R61 ?ca11R61 (Eq.refl _) ?cH11R61
  case cw11R61 => (go_simp; done)
  case ch11R61 =>
    intro ds w' hS K hK
    have hc := (bcell hS).1
    have hf := (bcell hS).2
    have hz := hS.size
    try simp at hz
    go_simp
    try go_bits
    first
      | exact hK _ hS (Gr.refl _)
      | exact hK _ (by repeat (first | (with_reducible exact Below.refl _ _) | (with_reducible assumption) | ((with_reducible refine Below.setCell ?_ ?_ _); rotate_left; · (first | exact Nat.le_refl _ | (simp; done) | (simp; omega) | omega)) | ((with_reducible refine Below.alloc ?_ ?_ _); rotate_left; · (first | exact Nat.le_refl _ | (simp; done) | (simp; omega) | omega)) | (with_reducible apply Below.drew) | (with_reducible apply below_drewN') | (refine Below.trans ?_ (Below.mono (by assumption) (by first | exact Nat.le_refl _ | (simp; done) | (simp; omega) | omega))) | exact Below.refl _ _ | assumption)) (by repeat (first | (with_reducible exact Below.refl _ _) | (with_reducible assumption) | ((with_reducible refine Below.setCell ?_ ?_ _); rotate_left; · (first | exact Nat.le_refl _ | (simp; done) | (simp; omega) | omega)) | ((with_reducible refine Below.alloc ?_ ?_ _); rotate_left; · (first | exact Nat.le_refl _ | (simp; done) | (simp; omega) | omega)) | (with_reducible apply Below.drew) | (with_reducible apply below_drewN') | (refine Below.trans ?_ (Below.mono (by assumption) (by first | exact Nat.le_refl _ | (simp; done) | (simp; omega) | omega))) | exact Below.refl _ _ | assumption))
  case ca11R61 => (first | (simp [Act.put]; done) | (simp [Act.put, *]; done))
  try dsimp only
  refine wpW_det (t' := ?ct12R61) 12 (by rfl) (by kernel_rfl) (NQ_free _) (by kernel_rfl) ?cw12R61 ?ch12R61 ?ca12R61 (Eq.refl _) ?cH12R61
  case cw12R61 => (go_simp; done)
  case ch12R61 =>
    intro ds w' hS K hK
    have hc := (bcell hS).1
    have hf := (bcell hS).2
    have hz := hS.size
    try simp at hz
    go_simp
    try go_bits
    first
      | exact hK _ hS (Gr.refl _)
      | exact hK _ (by repeat (first | (with_reducible exact Below.refl _ _) | (with_reducible assumption) | ((with_reducible refine Below.setCell ?_ ?_ _); rotate_left; · (first | exact Nat.le_refl _ | (simp; done) | (simp; omega) | omega)) | ((with_reducible refine Below.alloc ?_ ?_ _); rotate_left; · (first | exact Nat.le_refl _ | (simp; done) | (simp; omega) | omega)) | (with_reducible apply Below.drew) | (with_reducible apply below_drewN') | (refine Below.trans ?_ (Below.mono (by assumption) (by first | exact Nat.le_refl _ | (simp; done) | (simp; omega) | omega))) | exact Below.refl _ _ | assumption)) (by repeat (first | (with_reducible exact Below.refl _ _) | (with_reducible assumption) | ((with_reducible refine Below.setCell ?_ ?_ _); rotate_left; · (first | exact Nat.le_refl _ | (simp; done) | (simp; omega) | omega)) | ((with_reducible refine Below.alloc ?_ ?_ _); rotate_left; · (first | exact Nat.le_refl _ | (simp; done) | (simp; omega) | omega)) | (with_reducible apply Below.drew) | (with_reducible apply below_drewN') | (refine Below.trans ?_ (Below.mono (by assumption) (by first | exact Nat.le_refl _ | (simp; done) | (simp; omega) | omega))) | exact Below.refl _ _ | assumption))
  case ca12R61 => (first | (simp [Act.put]; done) | (simp [Act.put, *]; done))
  try dsimp only
  refine wpW_branch [13] (by kernel_rfl) (by simp) ?_
  intro w1 hg1 hS1
  have hc1 := (bcell hg1).1
  have hf1 := (bcell hg1).2
  have hz1 := hg1.size
  try simp at hz1
  refine each_cons ?_ (each_nil)
  · refine wpOp_go (by rfl) (Eq.refl _) (by go_simp; done) ?_
    intro K hK
    go_simp
    try simp only [Act.put]
    refine hK _ _ (by repeat (first | (with_reducible exact Below.refl _ _) | (with_reducible assumption) | ((with_reducible refine Below.setCell ?_ ?_ _); rotate_left; · (first | exact Nat.le_refl _ | (simp; done) | (simp; omega) | omega)) | ((with_reducible refine Below.alloc ?_ ?_ _); rotate_left; · (first | exact Nat.le_refl _ | (simp; done) | (simp; omega) | omega)) | (with_reducible apply Below.drew) | (with_reducible apply below_drewN') | (refine Below.trans ?_ (Below.mono (by assumption) (by first | exact Nat.le_refl _ | (simp; done) | (simp; omega) | omega))) | exact Below.refl _ _ | assumption)) ?_
    clear hK K
    refine wpW_branch [14] (by kernel_rfl) (by simp) ?_
    intro w2 hg2 hS2
    have hc2 := (bcell hg2).1
    have hf2 := (bcell hg2).2
    have hz2 := hg2.size
    try simp at hz2
    have hl1_2 : w1.heap.size ≤ w2.heap.size := by omega
    try have hm1_2 : w1.heap.size < w2.heap.size := by omega
    refine each_cons ?_ (each_nil)
    · refine wpOp_go (by rfl) (Eq.refl _) (by go_simp; done) ?_
      intro K hK
      go_simp
      try simp only [Act.put]
      refine hK _ _ (by repeat (first | (with_reducible exact Below.refl _ _) | (with_reducible assumption) | ((with_reducible refine Below.setCell ?_ ?_ _); rotate_left; · (first | exact Nat.le_refl _ | (simp; done) | (simp; omega) | omega)) | ((with_reducible refine Below.alloc ?_ ?_ _); rotate_left; · (first | exact Nat.le_refl _ | (simp; done) | (simp; omega) | omega)) | (with_reducible apply Below.drew) | (with_reducible apply below_drewN') | (refine Below.trans ?_ (Below.mono (by assumption) (by first | exact Nat.le_refl _ | (simp; done) | (simp; omega) | omega))) | exact Below.refl _ _ | assumption)) ?_
      clear hK K
      refine wpW_end (by kernel_rfl) ?_
      intro w3 hg3 hS3
      have hc3 := (bcell hg3).1
      have hf3 := (bcell hg3).2
      have hz3 := hg3.size
      try simp at hz3
      have hl1_3 : w1.heap.size ≤ w3.heap.size := by omega
      try have hm1_3 : w1.heap.size < w3.heap.size := by omega
      have hl2_3 : w2.heap.size ≤ w3.heap.size := by omega
      try have hm2_3 : w2.heap.size < w3.heap.size := by omega
      unfold NQ
      dsimp only
      have b6 := Blk.gr ((Blk.gr (Blk.new w1 44 #[.int .i64 0, .int .i64 0]) hg2).set2 (.int .i64 m) (.int .i64 m)) hg3
      replace b5 := b5.gr hS3
      have hzW := Below.size hBB
      have hz1 := Below.size hS1
      have n56 : w.heap.size < w1.heap.size := by have := Below.size hS1; omega
      replace hBB := hBB.trans (hS3.mono hzW)
      generalize hN : w1.heap.size = N at *
      replace bq := bq.gr hS3
      clear hg1 hS1 hc1 hf1 hz1 hg2 hS2 hc2 hf2 hz2 hg3 hS3 hc3 hf3 hz3 hl1_2 hm1_2 hl1_3 hm1_3 hl2_3 x0 x1 x2 x3 lq ca hN hzW
      obtain ⟨x0, x1, x2, x3, _⟩ := blk4 bq
      go_wp2
      go_loopw [25] (fun i wr => ∃ k : Nat, k ≤ l.length ∧ i = .int .i64 k ∧ Blk wr w.heap.size 44 #[.int .i64 0, .int .i64 0] ∧ Blk wr N 44 #[.int .i64 (spanP a l k).1, .int .i64 (spanP a l k).2] ∧ Below w.heap.size w wr) (fun i _ => l.length - (intOf i).toNat)
      case atStart => exact ⟨0, Nat.zero_le _, rfl, b5, by rw [hP0]; exact b6, hBB⟩
      case round =>
        clear b5 b6 hBB bq x0 x1 x2 x3
        obtain ⟨k, hk, rfl, b5, b6, hBB⟩ := hrel
        by_cases hlt : k < l.length
        · obtain ⟨g', o', hA', hg', c0, c1⟩ := cellPair (hR.below hBB hB) hlt
          obtain ⟨rfl, rfl⟩ : g = g' ∧ o = o' := by injection hA' with h; injection h with h1 h2 h3; exact ⟨h1, h2⟩
          have hPk := spanP_succ (a := a) hlt
          generalize spanP a l k = P at *
          generalize l[k] = p at *
          have hzz := Below.size hBB
          go_upto_region 5 with fail
          have b8 := Blk.new wr 39 #[.int .i64 p.1, .int .i64 p.2]
          have b6' := b6.alloc (.cells #[.int .i64 p.1, .int .i64 p.2] 39)
          have l6 := b6.lt
          have b5' := b5.alloc (.cells #[.int .i64 p.1, .int .i64 p.2] 39)
          have hBB' := hBB.alloc hzz (.cells #[.int .i64 p.1, .int .i64 p.2] 39)
          refine spanReg5 a ha P p b6' b8 (by omega) _ ?_
          intro t29 t30 t31 t32 t33 t34 t35 t36 t37 wz bz hBz
          try dsimp only
          have b5z := b5'.grown hBz (fun e => by have := Option.some.inj e; omega)
          have hBBz := below_only hBB' hBz (Below.size hBB') (Nat.le_of_lt n56)
          clear b5' b6' b8 hBB' hBB b5 b6 c0 c1 hBz
          go_wp2
          refine ⟨⟨k + 1, by omega, by go_num, b5z, by rw [hPk]; exact bz, hBBz⟩, by simp [intOf]; omega⟩
        · obtain rfl : k = l.length := by omega
          obtain ⟨d1, d2, d3, d4⟩ := spanP_bd hp hin.out a l.length (Nat.le_refl _)
          obtain ⟨P, hP⟩ : ∃ P, spanP a l l.length = P := ⟨_, rfl⟩
          rw [hP] at d1 d2 d3 d4 b6
          have HP := Lib.hid hP; clear hP hP0
          have m1 := mul_span (show -200001 ≤ P.1 by omega) (show P.1 ≤ 200001 by omega) hst
          have m2 := mul_span (show -200001 ≤ P.2 + 1 by omega) (show P.2 + 1 ≤ 200001 by omega) hst
          obtain ⟨y0, y1, fy⟩ := blk2c b6
          have l6 := b6.lt
          obtain ⟨z0, z1, fz⟩ := blk2c b5
          have l5 := b5.lt
          go_wp2
          have b9 := b5.set2 (.int .i64 (P.1 * st)) (.int .i64 ((P.2 + 1) * st))
          obtain ⟨u0, u1, _⟩ := blk2c b9
          exact bodyPost_ret (v := .agg #[.int .i64 (P.1 * st), .int .i64 ((P.2 + 1) * st)]) (by simp [results, Tryz.results29, go_sem, u0, u1]) rfl ⟨by rw [HP.out], (hBB.setCell (Nat.le_refl _) _).setCell (Nat.le_refl _) _⟩
end Go.Proofs.YtclpljbllnhhbaaGreat
