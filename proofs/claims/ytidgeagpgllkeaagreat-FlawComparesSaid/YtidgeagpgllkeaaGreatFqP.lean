/- Contracts: a fraction in lowest terms, the agreement. -/
import Derived.Test.YtidgeagpgllkeaaGreatZdFqB
import Derived.Test.YtidgeagpgllkeaaGreatFqO
namespace Go.Proofs.YtidgeagpgllkeaaGreat
open Go.RowKit Go.Shelf

set_option maxRecDepth 100000 in
set_option maxHeartbeats 4000000 in
theorem lowReg4 {W : World} {z B : Nat} {a b g x y : Int} {u v : Value} (hB : B ≤ z) (bz : Blk W z 45 #[u, v]) (hne : ¬ g = 0) (d1 : Int.tdiv a g = x) (d2 : Int.tdiv b g = y) (e1 : 0 ≤ x ∧ x ≤ 1000000) (e2 : 0 ≤ y ∧ y ≤ 1000000) {t2 t3 t6 t7 t8 t9 t10 t11 t12 t13 t14 t15 t16 t17 t18 t19 : Value} {ds : List Deferred} (Q : Exit → Act → World → Prop)
    (h : ∀ (t13 t14 t15 t16 t17 t18 t19 : Value) (w' : World), Blk w' z 45 #[.int .i64 x, .int .i64 y] → Below B W w' → Q .normal ⟨#[.int .i64 a, .int .i64 b, t2, t3, .pointer (some ⟨z, 0, none⟩), .int .i64 g, t6, t7, t8, t9, t10, t11, t12, t13, t14, t15, t16, t17, t18, t19], ds⟩ w') :
    (regOf Tryz.f141 4).wp Tryz.prog Q ⟨#[.int .i64 a, .int .i64 b, t2, t3, .pointer (some ⟨z, 0, none⟩), .int .i64 g, t6, t7, t8, t9, t10, t11, t12, t13, t14, t15, t16, t17, t18, t19], ds⟩ W := by
  have H := Lib.hid h; clear h
  have bz := bz.drew
  have hBW : B ≤ W.heap.size := Nat.le_trans hB (Nat.le_of_lt bz.lt)
  have hB2 : Below B W W.drew := (Below.refl _ _).drew
  conv in (regOf _ _) => whnf
  refine wp_region_w (fun w' => (∃ u v, Blk w' z 45 #[u, v]) ∧ Below B W w') (by kernel_rfl) (⟨⟨u, v, bz⟩, hB2⟩) ?_
  refine wpW_det (t' := ?ct0R1) 0 (by rfl) (by kernel_rfl) (NQ_free _) (by kernel_rfl) ?cw0R1 ?ch0R1 ?ca0R1 (Eq.refl _) ?cH0R1
  case cw0R1 => (go_simp; done)
  case ch0R1 =>
    intro ds w' hS K hK
    skip
    go_simp
    try go_bits
    exact hK _ hS (Gr.refl _)
  case ca0R1 => (first | (simp [Act.put]; done) | (simp [Act.put, *]; done))
  try dsimp only
  refine wpW_det (t' := ?ct1R1) 1 (by rfl) (by kernel_rfl) (NQ_free _) (by kernel_rfl) ?cw1R1 ?ch1R1 ?ca1R1 (Eq.refl _) ?cH1R1
  case cw1R1 => (go_simp; done)
  case ch1R1 =>
    intro ds w' hS K hK
    skip
    go_simp
    try go_bits
    exact hK _ hS (Gr.refl _)
  case ca1R1 => (first | (simp [Act.put]; done) | (simp [Act.put, *]; done))
  try dsimp only
  refine wpW_det (t' := ?ct2R1) 2 (by rfl) (by kernel_rfl) (NQ_free _) (by kernel_rfl) ?cw2R1 ?ch2R1 ?ca2R1 (Eq.refl _) ?cH2R1
  case cw2R1 => (go_simp; done)
  case ch2R1 =>
    intro ds w' hS K hK
    skip
    go_simp
    try go_bits
    exact hK _ hS (Gr.refl _)
  case ca2R1 => (first | (simp [Act.put]; done) | (simp [Act.put, *]; done))
  try dsimp only
  refine wpW_det (t' := ?ct3R1) 3 (by rfl) (by kernel_rfl) (NQ_free _) (by kernel_rfl) ?cw3R1 ?ch3R1 ?ca3R1 (Eq.refl _) ?cH3R1
  case cw3R1 => (go_simp; done)
  case ch3R1 =>
    intro ds w' hS K hK
    skip
    go_simp
    try go_bits
    exact hK _ hS (Gr.refl _)
  case ca3R1 => (first | (simp [Act.put]; done) | (simp [Act.put, *]; done))
  try dsimp only
  refine wpW_det (t' := ?ct4R1) 4 (by rfl) (by kernel_rfl) (NQ_free _) (by kernel_rfl) ?cw4R1 ?ch4R1 ?ca4R1 (Eq.refl _) ?cH4R1
  case cw4R1 => (go_simp; done)
  case ch4R1 =>
    intro ds w' hS K hK
    skip
    go_simp
    try go_bits
    exact hK _ hS (Gr.refl _)
  case ca4R1 => (first | (simp [Act.put]; done) | (simp [Act.put, *]; done))
  try dsimp only
  refine wpW_det (t' := ?ct5R1) 5 (by rfl) (by kernel_rfl) (NQ_free _) (by kernel_rfl) ?cw5R1 ?ch5R1 ?ca5R1 (Eq.refl _) ?cH5R1
  case cw5R1 => (go_simp; done)
  case ch5R1 =>
    intro ds w' hS K hK
    skip
    go_simp
    try go_bits
    exact hK _ hS (Gr.refl _)
  case ca5R1 => (first | (simp [Act.put]; done) | (simp [Act.put, *]; done))
  try dsimp only
  refine wpW_det (t' := ?ct6R1) 6 (by rfl) (by kernel_rfl) (NQ_free _) (by kernel_rfl) ?cw6R1 ?ch6R1 ?ca6R1 (Eq.refl _) ?cH6R1
  case cw6R1 => (go_simp; done)
  case ch6R1 =>
    intro ds w' hS K hK
    skip
    go_simp
    try go_bits
    exact hK _ hS (Gr.refl _)
  case ca6R1 => (first | (simp [Act.put]; done) | (simp [Act.put, *]; done))
  try dsimp only
  refine wpW_branch [7] (by kernel_rfl) (by simp) ?_
  intro w1 hg1 hS1
  have bz := bz.gr hg1
  have hB2 := hB2.trans (hg1.mono (Nat.le_trans hBW (Below.size hB2)))
  obtain ⟨c0, c1, cf⟩ := blk2c bz
  have lz := bz.lt
  refine each_cons ?_ (each_nil)
  · refine wpOp_go (by rfl) (Eq.refl _) (by go_simp; done) ?_
    intro K hK
    go_simp
    try simp only [Act.put]
    have bz := bz.set2 (.int .i64 x) (.int .i64 y)
    have hB2 := (hB2.setCell (p := ⟨z, 0, none⟩) hB (.int .i64 x)).setCell (p := ⟨z, 1, none⟩) hB (.int .i64 y)
    refine hK _ _ ⟨⟨_, _, bz⟩, hB2⟩ ?_
    clear hK K c0 c1 cf lz
    refine wpW_end (by kernel_rfl) ?_
    intro we hg hS
    unfold NQ
    dsimp only
    exact H.out _ _ _ _ _ _ _ we (bz.gr hg) (hB2.trans (hg.mono (Nat.le_trans hBW (Below.size hB2))))

set_option maxRecDepth 100000 in
set_option maxHeartbeats 4000000 in
theorem agReg10 {W : World} {z B : Nat} {a b g x y : Int} {u v : Value} (hB : B ≤ z) (bz : Blk W z 45 #[u, v]) (hne : ¬ g = 0) (d1 : Int.tdiv a g = x) (d2 : Int.tdiv b g = y) (e1 : 0 ≤ x ∧ x ≤ 1000000) (e2 : 0 ≤ y ∧ y ≤ 1000000) {t0 t1 t2 t3 t4 t5 t7 t8 t9 t13 t14 t15 t16 t17 t18 t19 t20 t21 t22 t23 t24 t25 t26 t27 t28 t29 t30 t31 t32 t33 t34 t35 t36 t37 t38 t39 t40 t41 t42 t43 t44 t45 t46 t47 t48 t49 t50 t51 t52 t53 t54 t55 : Value} {ds : List Deferred} (Q : Exit → Act → World → Prop)
    (h : ∀ (t49 t50 t51 t52 t53 t54 t55 : Value) (w' : World), Blk w' z 45 #[.int .i64 x, .int .i64 y] → Below B W w' → Q .normal ⟨#[t0, t1, t2, t3, t4, t5, .pointer (some ⟨z, 0, none⟩), .int .i64 0, t8, t9, .int .i64 a, .int .i64 b, .int .i64 g, t13, t14, t15, t16, t17, t18, t19, t20, t21, t22, t23, t24, t25, t26, t27, t28, t29, t30, t31, t32, t33, t34, t35, t36, t37, t38, t39, t40, t41, t42, t43, t44, t45, t46, t47, t48, t49, t50, t51, t52, t53, t54, t55], ds⟩ w') :
    (regOf Tryz.f80 10).wp Tryz.prog Q ⟨#[t0, t1, t2, t3, t4, t5, .pointer (some ⟨z, 0, none⟩), t7, t8, t9, .int .i64 a, .int .i64 b, .int .i64 g, t13, t14, t15, t16, t17, t18, t19, t20, t21, t22, t23, t24, t25, t26, t27, t28, t29, t30, t31, t32, t33, t34, t35, t36, t37, t38, t39, t40, t41, t42, t43, t44, t45, t46, t47, t48, t49, t50, t51, t52, t53, t54, t55], ds⟩ W := by
  have H := Lib.hid h; clear h
  have bz := bz.drew
  have hBW : B ≤ W.heap.size := Nat.le_trans hB (Nat.le_of_lt bz.lt)
  have hB2 : Below B W W.drew := (Below.refl _ _).drew
  conv in (regOf _ _) => whnf
  refine wp_region_w (fun w' => (∃ u v, Blk w' z 45 #[u, v]) ∧ Below B W w') (by kernel_rfl) (⟨⟨u, v, bz⟩, hB2⟩) ?_
  refine wpW_det (t' := ?ct0R2) 0 (by rfl) (by kernel_rfl) (NQ_free _) (by kernel_rfl) ?cw0R2 ?ch0R2 ?ca0R2 (Eq.refl _) ?cH0R2
  case cw0R2 => (go_simp; done)
  case ch0R2 =>
    intro ds w' hS K hK
    skip
    go_simp
    try go_bits
    exact hK _ hS (Gr.refl _)
  case ca0R2 => (first | (simp [Act.put]; done) | (simp [Act.put, *]; done))
  try dsimp only
  refine wpW_det (t' := ?ct1R2) 1 (by rfl) (by kernel_rfl) (NQ_free _) (by kernel_rfl) ?cw1R2 ?ch1R2 ?ca1R2 (Eq.refl _) ?cH1R2
  case cw1R2 => (go_simp; done)
  case ch1R2 =>
    intro ds w' hS K hK
    skip
    go_simp
    try go_bits
    exact hK _ hS (Gr.refl _)
  case ca1R2 => (first | (simp [Act.put]; done) | (simp [Act.put, *]; done))
  try dsimp only
  refine wpW_det (t' := ?ct2R2) 2 (by rfl) (by kernel_rfl) (NQ_free _) (by kernel_rfl) ?cw2R2 ?ch2R2 ?ca2R2 (Eq.refl _) ?cH2R2
  case cw2R2 => (go_simp; done)
  case ch2R2 =>
    intro ds w' hS K hK
    skip
    go_simp
    try go_bits
    exact hK _ hS (Gr.refl _)
  case ca2R2 => (first | (simp [Act.put]; done) | (simp [Act.put, *]; done))
  try dsimp only
  refine wpW_det (t' := ?ct3R2) 3 (by rfl) (by kernel_rfl) (NQ_free _) (by kernel_rfl) ?cw3R2 ?ch3R2 ?ca3R2 (Eq.refl _) ?cH3R2
  case cw3R2 => (go_simp; done)
  case ch3R2 =>
    intro ds w' hS K hK
    skip
    go_simp
    try go_bits
    exact hK _ hS (Gr.refl _)
  case ca3R2 => (first | (simp [Act.put]; done) | (simp [Act.put, *]; done))
  try dsimp only
  refine wpW_det (t' := ?ct4R2) 4 (by rfl) (by kernel_rfl) (NQ_free _) (by kernel_rfl) ?cw4R2 ?ch4R2 ?ca4R2 (Eq.refl _) ?cH4R2
  case cw4R2 => (go_simp; done)
  case ch4R2 =>
    intro ds w' hS K hK
    skip
    go_simp
    try go_bits
    exact hK _ hS (Gr.refl _)
  case ca4R2 => (first | (simp [Act.put]; done) | (simp [Act.put, *]; done))
  try dsimp only
  refine wpW_det (t' := ?ct5R2) 5 (by rfl) (by kernel_rfl) (NQ_free _) (by kernel_rfl) ?cw5R2 ?ch5R2 ?ca5R2 (Eq.refl _) ?cH5R2
  case cw5R2 => (go_simp; done)
  case ch5R2 =>
    intro ds w' hS K hK
    skip
    go_simp
    try go_bits
    exact hK _ hS (Gr.refl _)
  case ca5R2 => (first | (simp [Act.put]; done) | (simp [Act.put, *]; done))
  try dsimp only
  refine wpW_det (t' := ?ct6R2) 6 (by rfl) (by kernel_rfl) (NQ_free _) (by kernel_rfl) ?cw6R2 ?ch6R2 ?ca6R2 (Eq.refl _) ?cH6R2
  case cw6R2 => (go_simp; done)
  case ch6R2 =>
    intro ds w' hS K hK
    skip
    go_simp
    try go_bits
    exact hK _ hS (Gr.refl _)
  case ca6R2 => (first | (simp [Act.put]; done) | (simp [Act.put, *]; done))
  try dsimp only
  refine wpW_branch [7] (by kernel_rfl) (by simp) ?_
  intro w1 hg1 hS1
  have bz := bz.gr hg1
  have hB2 := hB2.trans (hg1.mono (Nat.le_trans hBW (Below.size hB2)))
  obtain ⟨c0, c1, cf⟩ := blk2c bz
  have lz := bz.lt
  refine each_cons ?_ (each_nil)
  · refine wpOp_go (by rfl) (Eq.refl _) (by go_simp; done) ?_
    intro K hK
    go_simp
    try simp only [Act.put]
    have bz := bz.set2 (.int .i64 x) (.int .i64 y)
    have hB2 := (hB2.setCell (p := ⟨z, 0, none⟩) hB (.int .i64 x)).setCell (p := ⟨z, 1, none⟩) hB (.int .i64 y)
    refine hK _ _ ⟨⟨_, _, bz⟩, hB2⟩ ?_
    clear hK K c0 c1 cf lz
    refine wpW_branch [8] (by kernel_rfl) (by simp) ?_
    intro w2 hg2 hS2
    have bz := bz.gr hg2
    have hB2 := hB2.trans (hg2.mono (Nat.le_trans hBW (Below.size hB2)))
    obtain ⟨c0, c1, cf⟩ := blk2c bz
    have lz := bz.lt
    refine each_cons ?_ (each_nil)
    · refine wpOp_go (by rfl) (Eq.refl _) (by go_simp; done) ?_
      intro K hK
      go_simp
      try simp only [Act.put]
      refine hK _ _ ⟨⟨_, _, bz⟩, hB2⟩ ?_
      clear hK K
      refine wpW_end (by kernel_rfl) ?_
      intro we hg hS
      unfold NQ
      dsimp only
      exact H.out _ _ _ _ _ _ _ we (bz.gr hg) (hB2.trans (hg.mono (Nat.le_trans hBW (Below.size hB2))))

set_option maxRecDepth 100000 in
set_option maxHeartbeats 8000000 in
/-- A fraction in lowest terms: numerator and denominator are not negative here. -/
theorem refLowest_any (a b : Nat) (ha : a ≤ 1000000) (hb : 0 < b) (hb1 : b ≤ 1000000) (w : World) :
    Calls Tryz.prog 141 #[.int .i64 a, .int .i64 b] w fun e w' => e = .returned (frV a b) ∧ Below w.heap.size w w' := by
  unfold frV
  have hg0 : 0 < Nat.gcd a b := Nat.gcd_pos_of_pos_right a hb
  have hga : Nat.gcd a b ≤ b := Nat.gcd_le_right a hb
  have hgc : Int.gcd (a : Int) (b : Int) = Nat.gcd a b := rfl
  obtain ⟨g, hg⟩ : ∃ g, Nat.gcd a b = g := ⟨_, rfl⟩
  rw [hg] at hg0 hga hgc ⊢
  have HG := Lib.hid hg
  clear hg
  have hne : ¬ ((g : Int) = 0) := by omega
  have d1 : Int.tdiv (a : Int) (g : Int) = ((a / g : Nat) : Int) := by rw [Int.tdiv_eq_ediv_of_nonneg (by omega)]; rfl
  have d2 : Int.tdiv (b : Int) (g : Int) = ((b / g : Nat) : Int) := by rw [Int.tdiv_eq_ediv_of_nonneg (by omega)]; rfl
  have e1 : a / g ≤ a := Nat.div_le_self _ _
  have e2 : b / g ≤ b := Nat.div_le_self _ _
  generalize a / g = x at *
  generalize b / g = y at *
  have bz := Blk.new w 45 #[.int .i64 0, .int .i64 0]
  have hgA : Gr w (w.alloc (.cells #[.int .i64 0, .int .i64 0] 45)) := (Below.refl _ _).alloc (Nat.le_refl _) _
  go_enter Tryz.func141, Tryz.ntmps141
  go_wp2_with fail
  obtain ⟨W, hW⟩ : ∃ W, w.alloc (.cells #[.int .i64 0, .int .i64 0] 45) = W := ⟨_, rfl⟩
  rw [hW] at bz hgA ⊢
  clear hW
  refine (gcd_any _ _ (by omega) (by omega) (by omega) _).mono ?_
  rw [hgc]
  rintro e w1 ⟨rfl, hB1⟩
  have b1 := bz.gr hB1
  have hB2 := Below.trans hgA (hB1.mono (Below.size hgA))
  clear bz hgA hB1
  have hbn : ¬ ((b : Int) < 0) := by omega
  go_upto_region 4 with fail
  refine lowReg4 (B := w.heap.size) (Nat.le_refl _) b1 hne d1 d2 (by omega) (by omega) _ ?_
  intro t13 t14 t15 t16 t17 t18 t19 w2 b2 hB3
  have hB4 := hB2.trans hB3
  obtain ⟨c0, c1, cf⟩ := blk2c b2
  have lz := b2.lt
  go_wp2
  exact bodyPost_ret (v := .agg #[.int .i64 x, .int .i64 y]) (by simp [results, Tryz.results141, go_sem, c0, c1]) rfl ⟨rfl, hB4⟩

set_option maxRecDepth 100000 in
set_option maxHeartbeats 8000000 in
theorem agreement_bad (l0 l1 : List Mk) (A0 A1 : Option Addr) (c0 c1 B : Nat) (slack : Int) (w : World) (h0 : MkOk l0 A0 B w) (h1 : MkOk l1 A1 B w) (hc0 : l0.length ≤ c0) (hc1 : l1.length ≤ c1) (hB : B ≤ w.heap.size) (he : openE l0 l1 slack ≠ 0) :
    Calls Tryz.prog 80 #[.slice A0 l0.length c0, .slice A1 l1.length c1, .int .i64 slack] w fun e w' => e = .returned (.tuple #[.agg #[.int .i64 0, .int .i64 0], .int .i64 (openE l0 l1 slack)]) ∧ Below w.heap.size w w' := by
  have bC := Blk.new w 45 #[.int .i64 0, .int .i64 0]
  have hgA : Gr w (w.alloc (.cells #[.int .i64 0, .int .i64 0] 45)) := (Below.refl _ _).alloc (Nat.le_refl _) _
  have HE := Lib.hid he
  go_enter Tryz.func80, Tryz.ntmps80
  go_wp2_with fail
  obtain ⟨W, hW⟩ : ∃ W, w.alloc (.cells #[.int .i64 0, .int .i64 0] 45) = W := ⟨_, rfl⟩
  rw [hW] at bC hgA ⊢
  clear hW
  refine (openLists_bad l0 l1 A0 A1 c0 c1 B slack W (h0.below hgA hB) (h1.below hgA hB) hc0 hc1 (Nat.le_trans hB (Below.size hgA)) HE.out).mono ?_
  rintro e w1 ⟨rfl, hB1⟩
  obtain ⟨E, hE⟩ : ∃ E, openE l0 l1 slack = E := ⟨_, rfl⟩
  rw [hE] at he ⊢
  have HE2 := Lib.hid hE
  have hne : (E != 0) = true := by simpa using he
  have b1 := bC.gr hB1
  have hB2 := Below.trans hgA (hB1.mono (Below.size hgA))
  obtain ⟨d0, d1, df⟩ := blk2c b1
  have ld := b1.lt
  clear bC hgA hB1 hE HE
  go_wp2
  obtain ⟨u0, u1, _⟩ := blk2c (b1.set2 (.int .i64 0) (.int .i64 0))
  exact bodyPost_ret (v := .tuple #[.agg #[.int .i64 0, .int .i64 0], .int .i64 E]) (by simp [results, Tryz.results80, go_sem, u0, u1]) rfl ⟨by rw [HE2.out], (hB2.setCell (Nat.le_refl _) _).setCell (Nat.le_refl _) _⟩

set_option maxRecDepth 100000 in
set_option maxHeartbeats 8000000 in
theorem agreement_ok (l0 l1 : List Mk) (A0 A1 : Option Addr) (c0 c1 B : Nat) (slack : Int) (w : World) (h0 : MkOk l0 A0 B w) (h1 : MkOk l1 A1 B w) (hc0 : l0.length ≤ c0) (hc1 : l1.length ≤ c1) (hB : B ≤ w.heap.size) (hn0 : l0.length ≤ 1000) (hn1 : l1.length ≤ 1000) (he : openE l0 l1 slack = 0) :
    Calls Tryz.prog 80 #[.slice A0 l0.length c0, .slice A1 l1.length c1, .int .i64 slack] w fun e w' => e = .returned (.tuple #[agV l0 l1 slack, .int .i64 (agE l0 l1)]) ∧ Below w.heap.size w w' := by
  have bC := Blk.new w 45 #[.int .i64 0, .int .i64 0]
  have hgA : Gr w (w.alloc (.cells #[.int .i64 0, .int .i64 0] 45)) := (Below.refl _ _).alloc (Nat.le_refl _) _
  have HE := Lib.hid he
  clear he
  obtain ⟨HS0, HS1⟩ := open_small HE.out
  go_enter Tryz.func80, Tryz.ntmps80
  go_wp2_with fail
  obtain ⟨W, hW⟩ : ∃ W, w.alloc (.cells #[.int .i64 0, .int .i64 0] 45) = W := ⟨_, rfl⟩
  have hsz : W.heap.size = w.heap.size + 1 := by rw [← hW]; simp
  rw [hW] at bC hgA ⊢
  clear hW
  have m0 := h0.below hgA hB
  have m1 := h1.below hgA hB
  have hBW : B ≤ W.heap.size := by omega
  have lC := bC.lt
  refine (openLists_ok l0 l1 A0 A1 c0 c1 B slack W m0 m1 hc0 hc1 hBW hn0 hn1 HE.out).mono ?_
  rintro e w1 ⟨q, p0, p1, rfl, M⟩
  by_cases hz : l0.length + l1.length = 0
  case pos =>
    have z0 : l0.length = 0 := by omega
    have z1 : l1.length = 0 := by omega
    have hV : agV l0 l1 slack = .agg #[.int .i64 0, .int .i64 0] := by unfold agV; rw [if_pos hz]
    have hA : agE l0 l1 = 11 := by unfold agE; rw [if_pos hz]
    have b1 := bC.below M.r0.below lC
    have hB2 := Below.trans hgA (M.r0.below.mono (show w.heap.size ≤ W.heap.size by omega))
    have HVA := Lib.hid (And.intro hV hA)
    rw [z0, z1]
    clear hV hA bC hgA M m0 m1 h0 h1 HS0 HS1 HE
    obtain ⟨d0, d1, df⟩ := blk2c b1
    have ld := b1.lt
    go_wp2
    obtain ⟨u0, u1, _⟩ := blk2c (b1.set2 (.int .i64 0) (.int .i64 0))
    exact bodyPost_ret (v := .tuple #[.agg #[.int .i64 0, .int .i64 0], .int .i64 11]) (by simp [results, Tryz.results80, go_sem, u0, u1]) rfl ⟨by rw [HVA.out.1, HVA.out.2], (hB2.setCell (Nat.le_refl _) _).setCell (Nat.le_refl _) _⟩
  case neg =>
    have hA : agE l0 l1 = 0 := by unfold agE; rw [if_neg hz]
    have HV : Hid (agV l0 l1 slack = frV (PV l0 l1 slack).length (l0.length + l1.length - (PV l0 l1 slack).length)) := Lib.hid (by unfold agV; rw [if_neg hz])
    have hz' : ¬ ((l0.length : Int) + (l1.length : Int) = 0) := by omega
    have HA := Lib.hid hA
    clear hA
    go_wp2_with fail
    refine (solve_any W q p0 p1 B l0 l1 A0 A1 c0 c1 slack m0.row m1.row hBW HS0 HS1 hn0 hn1 _ M).mono ?_
    rintro e w2 ⟨⟨v, rfl⟩, T, F, M2, hT, hF⟩
    clear M
    have HTF := Lib.hid (And.intro hT hF)
    clear hT hF
    go_wp2_with fail
    refine (pairs_any W q p0 p1 _ _ _ _ slack T F _ M2 hn0).mono ?_
    rintro e w3 ⟨vP, rfl, hP, hB3⟩
    have hPV : pairsV l0.length (ofL T) = PV l0 l1 slack := by unfold PV; rw [HTF.out.1]
    rw [hPV] at hP
    obtain ⟨AP, cP, rfl⟩ := own_slice hP
    have M3 := M2.gr hB3
    have b3 := bC.below M3.r0.below lC
    have hB4 := Below.trans hgA (M3.r0.below.mono (show w.heap.size ≤ W.heap.size by omega))
    have n0 := PV_le0 l0 l1 slack
    have n1 := PV_le1 l0 l1 slack
    clear hP hPV M2 M3 HTF hB3 bC hgA m0 m1 h0 h1 HS0 HS1 HE
    obtain ⟨n, hn⟩ : ∃ n, (PV l0 l1 slack).length = n := ⟨_, rfl⟩
    rw [hn] at n0 n1 HV ⊢
    clear hn
    obtain ⟨m, hm⟩ : ∃ m, l0.length + l1.length - n = m := ⟨_, rfl⟩
    have hmi : (l0.length : Int) + (l1.length : Int) - (n : Int) = (m : Int) := by omega
    have hm0 : 0 < m := by omega
    have hm1 : m ≤ 2000 := by omega
    rw [hm] at HV
    have hg0 : 0 < Nat.gcd n m := Nat.gcd_pos_of_pos_right n hm0
    have hga : Nat.gcd n m ≤ m := Nat.gcd_le_right n hm0
    have hgc : Int.gcd (n : Int) (m : Int) = Nat.gcd n m := rfl
    obtain ⟨g, hg⟩ : ∃ g, Nat.gcd n m = g := ⟨_, rfl⟩
    have HF : Hid (agV l0 l1 slack = .agg #[.int .i64 ((n / g : Nat) : Int), .int .i64 ((m / g : Nat) : Int)]) := Lib.hid (by rw [HV.out]; unfold frV; rw [hg])
    rw [hg] at hg0 hga hgc
    clear hg hm HV
    have hne : ¬ ((g : Int) = 0) := by omega
    have d1 : Int.tdiv (n : Int) (g : Int) = ((n / g : Nat) : Int) := by rw [Int.tdiv_eq_ediv_of_nonneg (by omega)]; rfl
    have d2 : Int.tdiv (m : Int) (g : Int) = ((m / g : Nat) : Int) := by rw [Int.tdiv_eq_ediv_of_nonneg (by omega)]; rfl
    have e1 : n / g ≤ n := Nat.div_le_self _ _
    have e2 : m / g ≤ m := Nat.div_le_self _ _
    generalize n / g = x at *
    generalize m / g = y at *
    go_wp2_with fail
    refine (divisor_any _ _ (by omega) (by omega) (by omega) _).mono ?_
    rw [hgc]
    rintro e w4 ⟨rfl, hB5⟩
    have b4 := b3.gr hB5
    have hB6 := hB4.trans (hB5.mono (Below.size hB4))
    clear b3 hB4 hB5
    go_upto_region 10 with fail
    refine agReg10 (B := w.heap.size) (Nat.le_refl _) b4 hne d1 d2 (by omega) (by omega) _ ?_
    intro t49 t50 t51 t52 t53 t54 t55 w5 b5 hB7
    have hB8 := hB6.trans hB7
    obtain ⟨x0, x1, xf⟩ := blk2c b5
    have lz := b5.lt
    go_wp2
    exact bodyPost_ret (v := .tuple #[.agg #[.int .i64 x, .int .i64 y], .int .i64 0]) (by simp [results, Tryz.results80, go_sem, x0, x1]) rfl ⟨by rw [HF.out, HA.out], hB8⟩

set_option maxRecDepth 100000 in
set_option maxHeartbeats 8000000 in
theorem refAgreement_any (l0 l1 : List Mk) (A0 A1 : Option Addr) (c0 c1 B : Nat) (slack : Int) (w : World) (h0 : MkOk l0 A0 B w) (h1 : MkOk l1 A1 B w) (hB : B ≤ w.heap.size) (HS0 : Hid (∀ m ∈ l0, MkS m)) (HS1 : Hid (∀ m ∈ l1, MkS m)) (hn0 : l0.length ≤ 1000) (hn1 : l1.length ≤ 1000) :
    Calls Tryz.prog 81 #[.slice A0 l0.length c0, .slice A1 l1.length c1, .int .i64 slack] w fun e w' => e = .returned (.tuple #[agV l0 l1 slack, .int .i64 (agE l0 l1)]) ∧ Below w.heap.size w w' := by
  have bC := Blk.new w 45 #[.int .i64 0, .int .i64 0]
  have hgA : Gr w (w.alloc (.cells #[.int .i64 0, .int .i64 0] 45)) := (Below.refl _ _).alloc (Nat.le_refl _) _
  have lC := bC.lt
  obtain ⟨d0, d1, df⟩ := blk2c bC
  by_cases hz : l0.length + l1.length = 0
  case pos =>
    have z0 : l0.length = 0 := by omega
    have z1 : l1.length = 0 := by omega
    have hV : agV l0 l1 slack = .agg #[.int .i64 0, .int .i64 0] := by unfold agV; rw [if_pos hz]
    have hA : agE l0 l1 = 11 := by unfold agE; rw [if_pos hz]
    rw [hV, hA]
    rw [z0, z1]
    clear hV hA h0 h1 HS0 HS1
    go_enter Tryz.func81, Tryz.ntmps81
    go_wp2
    exact bodyPost_ret (v := .tuple #[.agg #[.int .i64 0, .int .i64 0], .int .i64 11]) (by simp [results, Tryz.results81, go_sem, d0, d1]) rfl ⟨rfl, hgA⟩
  case neg =>
    have hA : agE l0 l1 = 0 := by unfold agE; rw [if_neg hz]
    have HV : Hid (agV l0 l1 slack = frV (PV l0 l1 slack).length (l0.length + l1.length - (PV l0 l1 slack).length)) := Lib.hid (by unfold agV; rw [if_neg hz])
    have hz' : ¬ ((l0.length : Int) + (l1.length : Int) = 0) := by omega
    have HPL := Lib.hid (PV_len l0 l1 slack)
    rw [hA]
    clear hA
    go_enter Tryz.func81, Tryz.ntmps81
    go_wp2_with fail
    obtain ⟨W, hW⟩ : ∃ W, w.alloc (.cells #[.int .i64 0, .int .i64 0] 45) = W := ⟨_, rfl⟩
    rw [hW] at bC hgA d0 d1 df lC ⊢
    clear hW
    have hzW := Below.size hgA
    refine (refMost_any l0 l1 A0 A1 c0 c1 B slack W (h0.row.below hgA hB) (h1.row.below hgA hB) (by omega) HS0 HS1 hn0 hn1).mono ?_
    rintro e w1 ⟨rfl, hB1⟩
    rw [← HPL.out]
    have b1 := bC.gr hB1
    have hB2 := Below.trans hgA (hB1.mono hzW)
    have n0 := PV_le0 l0 l1 slack
    have n1 := PV_le1 l0 l1 slack
    clear bC hgA hB1 d0 d1 df h0 h1 HS0 HS1 HPL
    obtain ⟨n, hn⟩ : ∃ n, (PV l0 l1 slack).length = n := ⟨_, rfl⟩
    rw [hn] at n0 n1 HV ⊢
    clear hn
    obtain ⟨m, hm⟩ : ∃ m, l0.length + l1.length - n = m := ⟨_, rfl⟩
    have hmi : (l0.length : Int) + (l1.length : Int) - (n : Int) = (m : Int) := by omega
    have hm0 : 0 < m := by omega
    have hm1 : m ≤ 2000 := by omega
    rw [hm] at HV
    clear hm
    obtain ⟨x, y, hxy⟩ : ∃ x y : Int, frV n m = .agg #[.int .i64 x, .int .i64 y] := ⟨_, _, rfl⟩
    go_wp2_with fail
    refine (refLowest_any n m (by omega) hm0 (by omega) _).mono ?_
    rintro e w2 ⟨rfl, hB3⟩
    rw [hxy]
    have HXY := Lib.hid hxy
    clear hxy
    have b2 := b1.gr hB3
    have hB4 := hB2.trans (hB3.mono (Below.size hB2))
    clear b1 hB2 hB3
    obtain ⟨d0, d1, df⟩ := blk2c b2
    have ld := b2.lt
    go_wp2
    obtain ⟨u0, u1, _⟩ := blk2c (b2.set2 (.int .i64 x) (.int .i64 y))
    exact bodyPost_ret (v := .tuple #[.agg #[.int .i64 x, .int .i64 y], .int .i64 0]) (by simp [results, Tryz.results81, go_sem, u0, u1]) rfl ⟨by rw [HV.out, HXY.out], (hB4.setCell (Nat.le_refl _) _).setCell (Nat.le_refl _) _⟩
end Go.Proofs.YtidgeagpgllkeaaGreat
