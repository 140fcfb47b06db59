/- Contract: ref.MarkOf. -/
import Derived.Test.YtidgeagpgllkeaaGreatFiD
import Derived.Test.YtidgeagpgllkeaaGreatFfB
namespace Go.Proofs.YtidgeagpgllkeaaGreat
open Go.RowKit

def spanZ (a : Nat) (l : List (Int × Int)) (k : Nat) : Int × Int := if k = 0 then (0, 0) else spanP a l k
theorem spanZ_one {a : Nat} {l : List (Int × Int)} (h : 0 < l.length) : spanZ a l 1 = (axC a l[0], axC a l[0]) := by unfold spanZ; rw [if_neg (by omega), spanP_one h]
theorem spanZ_succ {a : Nat} {l : List (Int × Int)} {k : Nat} (hk : k ≠ 0) (h : k < l.length) : spanZ a l (k + 1) = (min (spanZ a l k).1 (axC a l[k]), max (spanZ a l k).2 (axC a l[k])) := by
  unfold spanZ; rw [if_neg (by omega), if_neg hk, spanP_succ h]
theorem Blk.far2q {g p : Nat} {b : World} {t : TypeId} {cs : Array Value} (h : Blk b g t cs) (hp : g ≠ p) (u0 u1 : Value) : Blk ((b.setCell ⟨p, 0, none⟩ u0).setCell ⟨p, 1, none⟩ u1) g t cs := (h.far (p := ⟨p, 0, none⟩) hp u0).far (p := ⟨p, 1, none⟩) hp u1
set_option maxRecDepth 100000 in
set_option maxHeartbeats 4000000 in
/-- The first cell begins both spans (region 16). -/
theorem markReg16 {w : World} {N O M : Nat} (p s r : Int × Int) (b9 : Blk w N 48 #[.int .i64 s.1, .int .i64 s.2]) (b10 : Blk w O 48 #[.int .i64 r.1, .int .i64 r.2]) (b12 : Blk w M 25 #[.int .i64 p.1, .int .i64 p.2]) (h9 : N < O) (h10 : O < M) {t0 t1 t2 t3 t4 t5 t6 t7 t8 t11 t13 t14 t15 t16 t17 t18 t19 t20 t21 t22 t23 t24 t25 t26 t27 t28 t29 t30 t31 t32 t33 t34 t35 t36 t37 t38 t39 t40 t41 t42 t43 t44 t45 t46 t47 t48 t49 t50 t51 t52 t53 t54 t55 t56 t57 t58 t59 t60 t61 t62 t63 t64 t65 t66 t67 t68 t69 t70 t71 t72 t73 t74 t75 t76 t77 t78 t79 t80 t81 t82 t83 t84 t85 t86 t87 t88 t89 t90 t91 t92 t93 t94 t95 t96 t97 t98 t99 t100 t101 t102 t103 t104 t105 t106 t107 t108 t109 t110 t111 t112 t113 t114 t115 t116 t117 t118 t119 t120 t121 t122 t123 t124 t125 t126 t127 t128 t129 t130 t131 t132 t133 t134 t135 t136 t137 t138 t139 : Value} {ds : List Deferred} (Q : Exit → Act → World → Prop)
    (h : ∀ (t67 t68 t69 t70 t71 t72 t73 t74 t75 t76 : Value) (w' : World), Blk w' N 48 #[.int .i64 p.1, .int .i64 p.1] → Blk w' O 48 #[.int .i64 p.2, .int .i64 p.2] → Blk w' M 25 #[.int .i64 p.1, .int .i64 p.2] → Below N w w' → Q .normal ⟨#[t0, t1, t2, t3, t4, t5, t6, t7, t8, .pointer (some ⟨N, 0, none⟩), .pointer (some ⟨O, 0, none⟩), t11, .pointer (some ⟨M, 0, none⟩), t13, t14, t15, t16, t17, t18, t19, t20, t21, t22, t23, t24, t25, t26, t27, t28, t29, t30, t31, t32, t33, t34, t35, t36, t37, t38, t39, t40, t41, t42, t43, t44, t45, t46, t47, t48, t49, t50, t51, t52, t53, t54, t55, t56, t57, t58, t59, t60, t61, t62, t63, t64, t65, t66, t67, t68, t69, t70, t71, t72, t73, t74, t75, t76, t77, t78, t79, t80, t81, t82, t83, t84, t85, t86, t87, t88, t89, t90, t91, t92, t93, t94, t95, t96, t97, t98, t99, t100, t101, t102, t103, t104, t105, t106, t107, t108, t109, t110, t111, t112, t113, t114, t115, t116, t117, t118, t119, t120, t121, t122, t123, t124, t125, t126, t127, t128, t129, t130, t131, t132, t133, t134, t135, t136, t137, t138, t139], ds⟩ w') :
    (regOf Tryz.f72 16).wp Tryz.prog Q ⟨#[t0, t1, t2, t3, t4, t5, t6, t7, t8, .pointer (some ⟨N, 0, none⟩), .pointer (some ⟨O, 0, none⟩), t11, .pointer (some ⟨M, 0, none⟩), t13, t14, t15, t16, t17, t18, t19, t20, t21, t22, t23, t24, t25, t26, t27, t28, t29, t30, t31, t32, t33, t34, t35, t36, t37, t38, t39, t40, t41, t42, t43, t44, t45, t46, t47, t48, t49, t50, t51, t52, t53, t54, t55, t56, t57, t58, t59, t60, t61, t62, t63, t64, t65, t66, t67, t68, t69, t70, t71, t72, t73, t74, t75, t76, t77, t78, t79, t80, t81, t82, t83, t84, t85, t86, t87, t88, t89, t90, t91, t92, t93, t94, t95, t96, t97, t98, t99, t100, t101, t102, t103, t104, t105, t106, t107, t108, t109, t110, t111, t112, t113, t114, t115, t116, t117, t118, t119, t120, t121, t122, t123, t124, t125, t126, t127, t128, t129, t130, t131, t132, t133, t134, t135, t136, t137, t138, t139], ds⟩ w := by
  have H := Lib.hid h; clear h
  obtain ⟨g0, g1, _⟩ := blk2c b12
  conv in (regOf _ _) => whnf
  refine wp_region_w (fun w' => Below N w w' ∧ Blk w' M 25 #[.int .i64 p.1, .int .i64 p.2]) (by kernel_rfl) ⟨(Below.refl _ _).drew, b12.drew⟩ ?_
  refine wpW_det (t' := ?ct0S) 0 (by rfl) (by kernel_rfl) (NQ_free _) (by kernel_rfl) ?cw0S ?ch0S ?ca0S (Eq.refl _) ?cH0S
  case cw0S => (go_simp; done)
  case ch0S =>
    intro ds w' hS K hK
    obtain ⟨hc0, hc1, _⟩ := blk2c hS.2
    go_simp
    try go_bits
    exact hK _ hS (Gr.refl _)
  case ca0S => (first | (simp [Act.put]; done) | (simp [Act.put, *]; done))
  try dsimp only
  refine wpW_det (t' := ?ct1S) 1 (by rfl) (by kernel_rfl) (NQ_free _) (by kernel_rfl) ?cw1S ?ch1S ?ca1S (Eq.refl _) ?cH1S
  case cw1S => (go_simp; done)
  case ch1S =>
    intro ds w' hS K hK
    obtain ⟨hc0, hc1, _⟩ := blk2c hS.2
    go_simp
    try go_bits
    exact hK _ hS (Gr.refl _)
  case ca1S => (first | (simp [Act.put]; done) | (simp [Act.put, *]; done))
  try dsimp only
  refine wpW_det (t' := ?ct2S) 2 (by rfl) (by kernel_rfl) (NQ_free _) (by kernel_rfl) ?cw2S ?ch2S ?ca2S (Eq.refl _) ?cH2S
  case cw2S => (go_simp; done)
  case ch2S =>
    intro ds w' hS K hK
    obtain ⟨hc0, hc1, _⟩ := blk2c hS.2
    go_simp
    try go_bits
    exact hK _ hS (Gr.refl _)
  case ca2S => (first | (simp [Act.put]; done) | (simp [Act.put, *]; done))
  try dsimp only
  refine wpW_det (t' := ?ct3S) 3 (by rfl) (by kernel_rfl) (NQ_free _) (by kernel_rfl) ?cw3S ?ch3S ?ca3S (Eq.refl _) ?cH3S
  case cw3S => (go_simp; done)
  case ch3S =>
    intro ds w' hS K hK
    obtain ⟨hc0, hc1, _⟩ := blk2c hS.2
    go_simp
    try go_bits
    exact hK _ hS (Gr.refl _)
  case ca3S => (first | (simp [Act.put]; done) | (simp [Act.put, *]; done))
  try dsimp only
  refine wpW_det (t' := ?ct4S) 4 (by rfl) (by kernel_rfl) (NQ_free _) (by kernel_rfl) ?cw4S ?ch4S ?ca4S (Eq.refl _) ?cH4S
  case cw4S => (go_simp; done)
  case ch4S =>
    intro ds w' hS K hK
    obtain ⟨hc0, hc1, _⟩ := blk2c hS.2
    go_simp
    try go_bits
    exact hK _ hS (Gr.refl _)
  case ca4S => (first | (simp [Act.put]; done) | (simp [Act.put, *]; done))
  try dsimp only
  refine wpW_det (t' := ?ct5S) 5 (by rfl) (by kernel_rfl) (NQ_free _) (by kernel_rfl) ?cw5S ?ch5S ?ca5S (Eq.refl _) ?cH5S
  case cw5S => (go_simp; done)
  case ch5S =>
    intro ds w' hS K hK
    obtain ⟨hc0, hc1, _⟩ := blk2c hS.2
    go_simp
    try go_bits
    exact hK _ hS (Gr.refl _)
  case ca5S => (first | (simp [Act.put]; done) | (simp [Act.put, *]; done))
  try dsimp only
  refine wpW_det (t' := ?ct6S) 6 (by rfl) (by kernel_rfl) (NQ_free _) (by kernel_rfl) ?cw6S ?ch6S ?ca6S (Eq.refl _) ?cH6S
  case cw6S => (go_simp; done)
  case ch6S =>
    intro ds w' hS K hK
    obtain ⟨hc0, hc1, _⟩ := blk2c hS.2
    go_simp
    try go_bits
    exact hK _ hS (Gr.refl _)
  case ca6S => (first | (simp [Act.put]; done) | (simp [Act.put, *]; done))
  try dsimp only
  refine wpW_det (t' := ?ct7S) 7 (by rfl) (by kernel_rfl) (NQ_free _) (by kernel_rfl) ?cw7S ?ch7S ?ca7S (Eq.refl _) ?cH7S
  case cw7S => (go_simp; done)
  case ch7S =>
    intro ds w' hS K hK
    obtain ⟨hc0, hc1, _⟩ := blk2c hS.2
    go_simp
    try go_bits
    exact hK _ hS (Gr.refl _)
  case ca7S => (first | (simp [Act.put]; done) | (simp [Act.put, *]; done))
  try dsimp only
  refine wpW_det (t' := ?ct8S) 8 (by rfl) (by kernel_rfl) (NQ_free _) (by kernel_rfl) ?cw8S ?ch8S ?ca8S (Eq.refl _) ?cH8S
  case cw8S => (go_simp; done)
  case ch8S =>
    intro ds w' hS K hK
    obtain ⟨hc0, hc1, _⟩ := blk2c hS.2
    go_simp
    try go_bits
    exact hK _ hS (Gr.refl _)
  case ca8S => (first | (simp [Act.put]; done) | (simp [Act.put, *]; done))
  try dsimp only
  refine wpW_det (t' := ?ct9S) 9 (by rfl) (by kernel_rfl) (NQ_free _) (by kernel_rfl) ?cw9S ?ch9S ?ca9S (Eq.refl _) ?cH9S
  case cw9S => (go_simp; done)
  case ch9S =>
    intro ds w' hS K hK
    obtain ⟨hc0, hc1, _⟩ := blk2c hS.2
    go_simp
    try go_bits
    exact hK _ hS (Gr.refl _)
  case ca9S => (first | (simp [Act.put]; done) | (simp [Act.put, *]; done))
  try dsimp only
  clear g0 g1 b12
  refine wpW_branch [10] (by kernel_rfl) (by simp) ?_
  intro w1 hg1 hS1
  first | replace b9 := Blk.gr b9 hg1 | replace b9 := Blk.gr b9.drew hg1
  first | replace b10 := Blk.gr b10 hg1 | replace b10 := Blk.gr b10.drew hg1
  try have e9 := blk2c (b9 : Blk _ _ _ _)
  try obtain ⟨e90, e91, f9⟩ := e9
  try have e10 := blk2c b10
  try obtain ⟨e100, e101, f10⟩ := e10
  have l9 := b9.lt
  have l10 := b10.lt
  refine each_cons ?_ (each_nil)
  · refine wpOp_go (by rfl) (Eq.refl _) (by go_simp; done) ?_
    intro K hK
    go_simp
    try simp only [Act.put]
    refine hK _ _ ⟨(hS1.1.setCell (Nat.le_refl _) _).setCell (Nat.le_refl _) _, hS1.2.far2q (p := N) (by omega) _ _⟩ ?_
    have b9 := b9.set2 (.int .i64 p.1) (.int .i64 p.1)
    have b10 := b10.far2q (p := N) (by omega) (.int .i64 p.1) (.int .i64 p.1)
    clear hK K
    refine wpW_branch [11] (by kernel_rfl) (by simp) ?_
    intro w2 hg2 hS2
    first | replace b9 := Blk.gr b9 hg2 | replace b9 := Blk.gr b9.drew hg2
    first | replace b10 := Blk.gr b10 hg2 | replace b10 := Blk.gr b10.drew hg2
    try have e9 := blk2c (b9 : Blk _ _ _ _)
    try obtain ⟨e90, e91, f9⟩ := e9
    try have e10 := blk2c b10
    try obtain ⟨e100, e101, f10⟩ := e10
    have l9 := b9.lt
    have l10 := b10.lt
    refine each_cons ?_ (each_nil)
    · refine wpOp_go (by rfl) (Eq.refl _) (by go_simp; done) ?_
      intro K hK
      go_simp
      try simp only [Act.put]
      refine hK _ _ ⟨(hS2.1.setCell (Nat.le_of_lt h9) _).setCell (Nat.le_of_lt h9) _, hS2.2.far2q (p := O) (by omega) _ _⟩ ?_
      have b10 := b10.set2 (.int .i64 p.2) (.int .i64 p.2)
      have b9 := b9.far2q (p := O) (by omega) (.int .i64 p.2) (.int .i64 p.2)
      clear hK K
      refine wpW_end (by kernel_rfl) ?_
      intro we hg hS
      unfold NQ
      dsimp only
      exact H.out _ _ _ _ _ _ _ _ _ _ we (b9.gr hg) (b10.gr hg) hS.2 hS.1
theorem only_set2q {a : World} {g : Nat} (u0 u1 : Value) : a.grownBy ((a.setCell ⟨g, 0, none⟩ u0).setCell ⟨g, 1, none⟩ u1) (some g) := only_setCell (p := ⟨g, 1, none⟩) (only_setCell (p := ⟨g, 0, none⟩) ⟨rfl, rfl, rfl, Nat.le_refl _, fun _ _ _ => rfl⟩ (.inl rfl) u0) (.inl rfl) u1

set_option maxRecDepth 100000 in
set_option maxHeartbeats 4000000 in
/-- A cell is taken into a span (region 17). -/
theorem markReg17 {w : World} {N M : Nat} (p s : Int × Int) (b : Blk w N 48 #[.int .i64 s.1, .int .i64 s.2]) (b12 : Blk w M 25 #[.int .i64 p.1, .int .i64 p.2]) (hne : N ≠ M) {t0 t1 t2 t3 t4 t5 t6 t7 t8 t10 t11 t13 t14 t15 t16 t17 t18 t19 t20 t21 t22 t23 t24 t25 t26 t27 t28 t29 t30 t31 t32 t33 t34 t35 t36 t37 t38 t39 t40 t41 t42 t43 t44 t45 t46 t47 t48 t49 t50 t51 t52 t53 t54 t55 t56 t57 t58 t59 t60 t61 t62 t63 t64 t65 t66 t67 t68 t69 t70 t71 t72 t73 t74 t75 t76 t77 t78 t79 t80 t81 t82 t83 t84 t85 t86 t87 t88 t89 t90 t91 t92 t93 t94 t95 t96 t97 t98 t99 t100 t101 t102 t103 t104 t105 t106 t107 t108 t109 t110 t111 t112 t113 t114 t115 t116 t117 t118 t119 t120 t121 t122 t123 t124 t125 t126 t127 t128 t129 t130 t131 t132 t133 t134 t135 t136 t137 t138 t139 : Value} {ds : List Deferred} (Q : Exit → Act → World → Prop)
    (h : ∀ (t77 t78 t79 t80 t81 t82 t83 t84 t85 t86 t87 : Value) (w' : World), Blk w' N 48 #[.int .i64 (min s.1 p.1), .int .i64 (max s.2 p.1)] → Blk w' M 25 #[.int .i64 p.1, .int .i64 p.2] → w.grownBy w' (some N) → Q .normal ⟨#[t0, t1, t2, t3, t4, t5, t6, t7, t8, .pointer (some ⟨N, 0, none⟩), t10, t11, .pointer (some ⟨M, 0, none⟩), t13, t14, t15, t16, t17, t18, t19, t20, t21, t22, t23, t24, t25, t26, t27, t28, t29, t30, t31, t32, t33, t34, t35, t36, t37, t38, t39, t40, t41, t42, t43, t44, t45, t46, t47, t48, t49, t50, t51, t52, t53, t54, t55, t56, t57, t58, t59, t60, t61, t62, t63, t64, t65, t66, t67, t68, t69, t70, t71, t72, t73, t74, t75, t76, t77, t78, t79, t80, t81, t82, t83, t84, t85, t86, t87, t88, t89, t90, t91, t92, t93, t94, t95, t96, t97, t98, t99, t100, t101, t102, t103, t104, t105, t106, t107, t108, t109, t110, t111, t112, t113, t114, t115, t116, t117, t118, t119, t120, t121, t122, t123, t124, t125, t126, t127, t128, t129, t130, t131, t132, t133, t134, t135, t136, t137, t138, t139], ds⟩ w') :
    (regOf Tryz.f72 17).wp Tryz.prog Q ⟨#[t0, t1, t2, t3, t4, t5, t6, t7, t8, .pointer (some ⟨N, 0, none⟩), t10, t11, .pointer (some ⟨M, 0, none⟩), t13, t14, t15, t16, t17, t18, t19, t20, t21, t22, t23, t24, t25, t26, t27, t28, t29, t30, t31, t32, t33, t34, t35, t36, t37, t38, t39, t40, t41, t42, t43, t44, t45, t46, t47, t48, t49, t50, t51, t52, t53, t54, t55, t56, t57, t58, t59, t60, t61, t62, t63, t64, t65, t66, t67, t68, t69, t70, t71, t72, t73, t74, t75, t76, t77, t78, t79, t80, t81, t82, t83, t84, t85, t86, t87, t88, t89, t90, t91, t92, t93, t94, t95, t96, t97, t98, t99, t100, t101, t102, t103, t104, t105, t106, t107, t108, t109, t110, t111, t112, t113, t114, t115, t116, t117, t118, t119, t120, t121, t122, t123, t124, t125, t126, t127, t128, t129, t130, t131, t132, t133, t134, t135, t136, t137, t138, t139], ds⟩ w := by
  have H := Lib.hid h; clear h
  obtain ⟨g0, g1, _⟩ := blk2c b12
  obtain ⟨e0, e1, f9⟩ := blk2c b
  have l9 := b.lt
  have l12 := b12.lt
  conv in (regOf _ _) => whnf
  go_wp2
  exact H.out _ _ _ _ _ _ _ _ _ _ _ _ (b.set2 _ _) (b12.far2q (Ne.symm hne) _ _) (only_set2q _ _)

set_option maxRecDepth 100000 in
set_option maxHeartbeats 4000000 in
/-- A cell is taken into a span (region 18). -/
theorem markReg18 {w : World} {N M : Nat} (p s : Int × Int) (b : Blk w N 48 #[.int .i64 s.1, .int .i64 s.2]) (b12 : Blk w M 25 #[.int .i64 p.1, .int .i64 p.2]) (hne : N ≠ M) {t0 t1 t2 t3 t4 t5 t6 t7 t8 t9 t11 t13 t14 t15 t16 t17 t18 t19 t20 t21 t22 t23 t24 t25 t26 t27 t28 t29 t30 t31 t32 t33 t34 t35 t36 t37 t38 t39 t40 t41 t42 t43 t44 t45 t46 t47 t48 t49 t50 t51 t52 t53 t54 t55 t56 t57 t58 t59 t60 t61 t62 t63 t64 t65 t66 t67 t68 t69 t70 t71 t72 t73 t74 t75 t76 t77 t78 t79 t80 t81 t82 t83 t84 t85 t86 t87 t88 t89 t90 t91 t92 t93 t94 t95 t96 t97 t98 t99 t100 t101 t102 t103 t104 t105 t106 t107 t108 t109 t110 t111 t112 t113 t114 t115 t116 t117 t118 t119 t120 t121 t122 t123 t124 t125 t126 t127 t128 t129 t130 t131 t132 t133 t134 t135 t136 t137 t138 t139 : Value} {ds : List Deferred} (Q : Exit → Act → World → Prop)
    (h : ∀ (t88 t89 t90 t91 t92 t93 t94 t95 t96 t97 t98 : Value) (w' : World), Blk w' N 48 #[.int .i64 (min s.1 p.2), .int .i64 (max s.2 p.2)] → Blk w' M 25 #[.int .i64 p.1, .int .i64 p.2] → w.grownBy w' (some N) → Q .normal ⟨#[t0, t1, t2, t3, t4, t5, t6, t7, t8, t9, .pointer (some ⟨N, 0, none⟩), t11, .pointer (some ⟨M, 0, none⟩), t13, t14, t15, t16, t17, t18, t19, t20, t21, t22, t23, t24, t25, t26, t27, t28, t29, t30, t31, t32, t33, t34, t35, t36, t37, t38, t39, t40, t41, t42, t43, t44, t45, t46, t47, t48, t49, t50, t51, t52, t53, t54, t55, t56, t57, t58, t59, t60, t61, t62, t63, t64, t65, t66, t67, t68, t69, t70, t71, t72, t73, t74, t75, t76, t77, t78, t79, t80, t81, t82, t83, t84, t85, t86, t87, t88, t89, t90, t91, t92, t93, t94, t95, t96, t97, t98, t99, t100, t101, t102, t103, t104, t105, t106, t107, t108, t109, t110, t111, t112, t113, t114, t115, t116, t117, t118, t119, t120, t121, t122, t123, t124, t125, t126, t127, t128, t129, t130, t131, t132, t133, t134, t135, t136, t137, t138, t139], ds⟩ w') :
    (regOf Tryz.f72 18).wp Tryz.prog Q ⟨#[t0, t1, t2, t3, t4, t5, t6, t7, t8, t9, .pointer (some ⟨N, 0, none⟩), t11, .pointer (some ⟨M, 0, none⟩), t13, t14, t15, t16, t17, t18, t19, t20, t21, t22, t23, t24, t25, t26, t27, t28, t29, t30, t31, t32, t33, t34, t35, t36, t37, t38, t39, t40, t41, t42, t43, t44, t45, t46, t47, t48, t49, t50, t51, t52, t53, t54, t55, t56, t57, t58, t59, t60, t61, t62, t63, t64, t65, t66, t67, t68, t69, t70, t71, t72, t73, t74, t75, t76, t77, t78, t79, t80, t81, t82, t83, t84, t85, t86, t87, t88, t89, t90, t91, t92, t93, t94, t95, t96, t97, t98, t99, t100, t101, t102, t103, t104, t105, t106, t107, t108, t109, t110, t111, t112, t113, t114, t115, t116, t117, t118, t119, t120, t121, t122, t123, t124, t125, t126, t127, t128, t129, t130, t131, t132, t133, t134, t135, t136, t137, t138, t139], ds⟩ w := by
  have H := Lib.hid h; clear h
  obtain ⟨g0, g1, _⟩ := blk2c b12
  obtain ⟨e0, e1, f9⟩ := blk2c b
  have l9 := b.lt
  have l12 := b12.lt
  conv in (regOf _ _) => whnf
  go_wp2
  exact H.out _ _ _ _ _ _ _ _ _ _ _ _ (b.set2 _ _) (b12.far2q (Ne.symm hne) _ _) (only_set2q _ _)

set_option maxRecDepth 100000 in
set_option maxHeartbeats 4000000 in
theorem refMarkOf_any (l : List (Int × Int)) (A : Option Addr) (c B : Nat) (pr pc lv d0 d1 : Int) (nm : ByteArray) (w : World) (hR : Row w B 2 A l.length (cellsC l)) (hB : B ≤ w.heap.size) (hl : l.length ≤ 9223372036854775807) (hnm : nm.size ≤ 1000000000000) :
    Calls Tryz.prog 72 #[.agg #[.slice A l.length c, .int .i64 pr, .int .i64 pc, .int .i64 lv], .agg #[.int .i64 d0, .int .i64 d1], .string nm] w fun e w' => e = .returned (.tuple #[.agg (mkC (markOfV l d0 d1 nm lv).1), .int .i64 (markOfV l d0 d1 nm lv).2]) ∧ Below w.heap.size w w' := by
  have hV1 : cellsE l ≠ 0 → markOfV l d0 d1 nm lv = (mk0, cellsE l) := fun h => by
    have e : firstE [cellsE l, gridE d0 d1] = cellsE l := by simp [firstE, h]
    unfold markOfV; rw [e, if_pos h]
  have hV2 : cellsE l = 0 → gridE d0 d1 ≠ 0 → markOfV l d0 d1 nm lv = (mk0, gridE d0 d1) := fun h h2 => by
    have e : firstE [cellsE l, gridE d0 d1] = gridE d0 d1 := by simp [firstE, h, h2]
    unfold markOfV; rw [e, if_pos h2]
  have hV3 : cellsE l = 0 → gridE d0 d1 = 0 → markOfV l d0 d1 nm lv = if markE (spanM l d0 d1 nm lv) ≠ 0 then (mk0, markE (spanM l d0 d1 nm lv)) else (spanM l d0 d1 nm lv, 0) := fun h h2 => by
    have e : firstE [cellsE l, gridE d0 d1] = 0 := by simp [firstE, h, h2]
    unfold markOfV; rw [e, if_neg (by simp)]
  have HV1 := Lib.hid hV1; have HV2 := Lib.hid hV2; have HV3 := Lib.hid hV3; clear hV1 hV2 hV3
  have b3 := (((Blk.new w 91 #[.slice A l.length c, .int .i64 pr, .int .i64 pc, .int .i64 lv]).alloc (.cells #[.int .i64 d0, .int .i64 d1] 85)).alloc (.cells (mkC mk0) 79)).alloc (.cells (mkC mk0) 79)
  have b4 := ((Blk.new (w.alloc (.cells #[.slice A l.length c, .int .i64 pr, .int .i64 pc, .int .i64 lv] 91)) 85 #[.int .i64 d0, .int .i64 d1]).alloc (.cells (mkC mk0) 79)).alloc (.cells (mkC mk0) 79)
  have b6 := (Blk.new ((w.alloc (.cells #[.slice A l.length c, .int .i64 pr, .int .i64 pc, .int .i64 lv] 91)).alloc (.cells #[.int .i64 d0, .int .i64 d1] 85)) 79 (mkC mk0)).alloc (.cells (mkC mk0) 79)
  have b8 := Blk.new (((w.alloc (.cells #[.slice A l.length c, .int .i64 pr, .int .i64 pc, .int .i64 lv] 91)).alloc (.cells #[.int .i64 d0, .int .i64 d1] 85)).alloc (.cells (mkC mk0) 79)) 79 (mkC mk0)
  have hBB : Below w.heap.size w ((((w.alloc (.cells #[.slice A l.length c, .int .i64 pr, .int .i64 pc, .int .i64 lv] 91)).alloc (.cells #[.int .i64 d0, .int .i64 d1] 85)).alloc (.cells (mkC mk0) 79)).alloc (.cells (mkC mk0) 79)) := (by repeat (first | (with_reducible exact Below.refl _ _) | (with_reducible assumption) | ((with_reducible refine Below.setCell ?_ ?_ _); rotate_left; · (first | exact Nat.le_refl _ | (simp; done) | (simp; omega) | omega)) | ((with_reducible refine Below.alloc ?_ ?_ _); rotate_left; · (first | exact Nat.le_refl _ | (simp; done) | (simp; omega) | omega)) | (with_reducible apply Below.drew) | (with_reducible apply below_drewN') | (refine Below.trans ?_ (Below.mono (by assumption) (by first | exact Nat.le_refl _ | (simp; done) | (simp; omega) | omega))) | exact Below.refl _ _ | assumption))
  simp only [World.size_alloc] at b4 b6 b8
  go_enter Tryz.func72, Tryz.ntmps72
  go_upto_region 2 with fail
  obtain ⟨W, hW⟩ : ∃ W, (((w.alloc (.cells #[.slice A l.length c, .int .i64 pr, .int .i64 pc, .int .i64 lv] 91)).alloc (.cells #[.int .i64 d0, .int .i64 d1] 85)).alloc (.cells (mkC mk0) 79)).alloc (.cells (mkC mk0) 79) = W := ⟨_, rfl⟩
  rw [hW] at b3 b4 b6 b8 hBB
  try rw [hW]
  have hs : W.heap.size = w.heap.size + 1 + 1 + 1 + 1 := by rw [← hW]; simp
  clear hW
  obtain ⟨x0, x1, x2, x3, f3⟩ := blk4 b3
  obtain ⟨y0, y1, f4⟩ := blk2c b4
  obtain ⟨z0, z1, z2, z3, z4, z5, f6⟩ := blk6 b6
  obtain ⟨v0, v1, v2, v3, v4, v5, f8⟩ := blk6 b8
  have l8 := b8.lt
  by_cases h0 : l.length = 0
  · have HE : Hid (markOfV l d0 d1 nm lv = (mk0, 10)) := Lib.hid (by have e : cellsE l = 10 := (by unfold cellsE; rw [if_pos h0]); rw [HV1.out (by rw [e]; decide), e])
    have h0' : ((l.length : Int) == 0) = true := by simpa using h0
    go_wp2
    have b9 := b6.set6 (.string ⟨#[]⟩) (.int .i64 0) (.int .i64 0) (.int .i64 0) (.int .i64 0) (.int .i64 0)
    obtain ⟨u0, u1, u2, u3, u4, u5, _⟩ := blk6 b9
    rw [HE.out]
    exact bodyPost_ret (v := .tuple #[.agg (mkC mk0), .int .i64 10]) (by simp [results, Tryz.results72, go_sem, u0, u1, u2, u3, u4, u5]) rfl ⟨rfl, Below.set6 hBB (by omega)⟩
  have h0' : ((l.length : Int) == 0) = false := by simpa using h0
  by_cases h9 : 4096 < l.length
  · have HE : Hid (markOfV l d0 d1 nm lv = (mk0, 8)) := Lib.hid (by have e : cellsE l = 8 := (by unfold cellsE; rw [if_neg h0, if_pos h9]); rw [HV1.out (by rw [e]; decide), e])
    go_wp2
    have b9 := b6.set6 (.string ⟨#[]⟩) (.int .i64 0) (.int .i64 0) (.int .i64 0) (.int .i64 0) (.int .i64 0)
    obtain ⟨u0, u1, u2, u3, u4, u5, _⟩ := blk6 b9
    rw [HE.out]
    exact bodyPost_ret (v := .tuple #[.agg (mkC mk0), .int .i64 8]) (by simp [results, Tryz.results72, go_sem, u0, u1, u2, u3, u4, u5]) rfl ⟨rfl, Below.set6 hBB (by omega)⟩
  have hp : 0 < l.length := by omega
  have h9' : l.length ≤ 4096 := by omega
  clear h0 h9
  go_wp2
  have hzW := Below.size hBB
  have b9 := (Blk.new W 48 #[.int .i64 0, .int .i64 0]).alloc (.cells #[.int .i64 0, .int .i64 0] 48)
  have b10 := Blk.new (W.alloc (.cells #[.int .i64 0, .int .i64 0] 48)) 48 #[.int .i64 0, .int .i64 0]
  replace hBB := (hBB.alloc hzW (.cells #[.int .i64 0, .int .i64 0] 48)).alloc (by simp; omega) (.cells #[.int .i64 0, .int .i64 0] 48)
  replace b3 := (b3.alloc (.cells #[.int .i64 0, .int .i64 0] 48)).alloc (.cells #[.int .i64 0, .int .i64 0] 48)
  replace b4 := (b4.alloc (.cells #[.int .i64 0, .int .i64 0] 48)).alloc (.cells #[.int .i64 0, .int .i64 0] 48)
  replace b6 := (b6.alloc (.cells #[.int .i64 0, .int .i64 0] 48)).alloc (.cells #[.int .i64 0, .int .i64 0] 48)
  replace b8 := (b8.alloc (.cells #[.int .i64 0, .int .i64 0] 48)).alloc (.cells #[.int .i64 0, .int .i64 0] 48)
  simp only [World.size_alloc, hs] at b9 b10
  obtain ⟨W2, hW2⟩ : ∃ W2, (W.alloc (.cells #[.int .i64 0, .int .i64 0] 48)).alloc (.cells #[.int .i64 0, .int .i64 0] 48) = W2 := ⟨_, rfl⟩
  rw [hW2] at b3 b4 b6 b8 b9 b10 hBB ⊢
  clear hW2 hs hzW x0 x1 x2 x3 f3 y0 y1 f4 z0 z1 z2 z3 z4 z5 f6 v0 v1 v2 v3 v4 v5 f8 l8
  have n68 : w.heap.size + 1 + 1 < w.heap.size + 1 + 1 + 1 := by omega
  have n9 : w.heap.size + 1 + 1 + 1 < w.heap.size + 1 + 1 + 1 + 1 := by omega
  have n9' : w.heap.size + 1 + 1 + 1 + 1 < w.heap.size + 1 + 1 + 1 + 1 + 1 := by omega
  generalize hN10 : w.heap.size + 1 + 1 + 1 + 1 + 1 = N10 at *
  generalize hN9 : w.heap.size + 1 + 1 + 1 + 1 = N9 at *
  generalize hN8 : w.heap.size + 1 + 1 + 1 = N8 at *
  generalize hN6 : w.heap.size + 1 + 1 = N6 at *
  generalize hN4 : w.heap.size + 1 = N4 at *
  go_loopw [11] (fun i wr => ∃ k : Nat, k ≤ l.length ∧ i = .int .i64 k ∧ Hid (CellsTo l k) ∧ Blk wr w.heap.size 91 #[.slice A l.length c, .int .i64 pr, .int .i64 pc, .int .i64 lv] ∧ Blk wr N4 85 #[.int .i64 d0, .int .i64 d1] ∧ Blk wr N6 79 (mkC mk0) ∧ Blk wr N8 79 (mkC mk0) ∧ Blk wr N9 48 #[.int .i64 (spanZ 0 l k).1, .int .i64 (spanZ 0 l k).2] ∧ Blk wr N10 48 #[.int .i64 (spanZ 1 l k).1, .int .i64 (spanZ 1 l k).2] ∧ Below w.heap.size w wr) (fun i _ => l.length - (intOf i).toNat)
  case atStart => exact ⟨0, Nat.zero_le _, rfl, Lib.hid (fun j _ hj => absurd hj (by omega)), b3, b4, b6, b8, b9, b10, hBB⟩
  case round =>
    clear b3 b4 b6 b8 b9 b10 hBB
    obtain ⟨k, hk, rfl, HI, b3, b4, b6, b8, b9, b10, hBB⟩ := hrel
    have hzb := Below.size hBB
    have hRr := hR.below hBB hB
    obtain ⟨x0, x1, x2, x3, f3⟩ := blk4 b3
    by_cases hlt : k < l.length
    · obtain ⟨g, o, hA, hg, c0, c1⟩ := cellPair hRr hlt
      have HAT := Lib.hid (cellsE_at hp h9' hlt HI.out)
      have HST : Hid (inC l[k] = true → clash (prevC l k) l[k] = false → CellsTo l (k + 1)) := Lib.hid (fun h1 h2 => HI.out.step hlt h1 h2)
      have HP : Hid (∀ (h : 0 < k), prevC l k = some (l[k - 1]'(by omega))) := Lib.hid (fun h => by unfold prevC; rw [if_neg (by omega), List.getElem?_eq_getElem (by omega)])
      have HP0 : Hid (k = 0 → clash (prevC l k) l[k] = false) := Lib.hid (fun h => by unfold prevC; rw [if_pos h]; rfl)
      have HZ0 : Hid (k ≠ 0 → spanZ 0 l (k + 1) = (min (spanZ 0 l k).1 l[k].1, max (spanZ 0 l k).2 l[k].1)) := Lib.hid (fun h => spanZ_succ (a := 0) h hlt)
      have HZ1 : Hid (k ≠ 0 → spanZ 1 l (k + 1) = (min (spanZ 1 l k).1 l[k].2, max (spanZ 1 l k).2 l[k].2)) := Lib.hid (fun h => spanZ_succ (a := 1) h hlt)
      have HZ2 : Hid (k = 0 → spanZ 0 l (k + 1) = (l[k].1, l[k].1) ∧ spanZ 1 l (k + 1) = (l[k].2, l[k].2)) := Lib.hid (fun h => by subst h; exact ⟨spanZ_one (a := 0) hp, spanZ_one (a := 1) hp⟩)
      obtain ⟨q, hq⟩ : ∃ q, l[k] = q := ⟨_, rfl⟩
      rw [hq] at c0 c1 HAT HST HP0 HZ0 HZ1 HZ2
      have HQ : Hid (inC q = (wi q.1 (-200000) 200000 && wi q.2 (-200000) 200000)) := Lib.hid rfl
      clear hq
      subst hA
      have b12 := Blk.new wr 25 #[.int .i64 q.1, .int .i64 q.2]
      obtain ⟨e0, e1, _⟩ := blk2c b12
      replace hBB := hBB.alloc hzb (.cells #[.int .i64 q.1, .int .i64 q.2] 25)
      have l10 := b10.lt
      replace b3 := b3.alloc (.cells #[.int .i64 q.1, .int .i64 q.2] 25)
      replace b4 := b4.alloc (.cells #[.int .i64 q.1, .int .i64 q.2] 25)
      replace b6 := b6.alloc (.cells #[.int .i64 q.1, .int .i64 q.2] 25)
      replace b8 := b8.alloc (.cells #[.int .i64 q.1, .int .i64 q.2] 25)
      replace b9 := b9.alloc (.cells #[.int .i64 q.1, .int .i64 q.2] 25)
      replace b10 := b10.alloc (.cells #[.int .i64 q.1, .int .i64 q.2] 25)
      have hRx := hR.below hBB hB
      go_upto_region 11 with fail
      generalize hM : wr.heap.size = M at *
      obtain ⟨wx, hwx⟩ : ∃ wx, wr.alloc (.cells #[.int .i64 q.1, .int .i64 q.2] 25) = wx := ⟨_, rfl⟩
      rw [hwx] at b3 b4 b6 b8 b9 b10 b12 hBB hRx e0 e1 ⊢
      clear hwx hRr x0 x1 x2 x3 f3 c0 c1 hM
      obtain ⟨x0, x1, x2, x3, f3⟩ := blk4 b3
      obtain ⟨z0, z1, z2, z3, z4, z5, f6⟩ := blk6 b6
      obtain ⟨v0, v1, v2, v3, v4, v5, f8⟩ := blk6 b8
      have hzx := Below.size hBB
      cases h1 : wi q.1 (-200000) 200000
      · have HE : Hid (markOfV l d0 d1 nm lv = (mk0, 2)) := Lib.hid (by have e : cellsE l = 2 := (by rw [HAT.out, if_pos (by rw [HQ.out, h1]; rfl)]); rw [HV1.out (by rw [e]; decide), e])
        have H1 := Lib.hid h1; clear h1
        go_wp2_with (go_at_call 27; refine (bWithin_any _ _ _ _).mono ?_; rw [H1.out]; rintro e w1 ⟨rfl, rfl⟩)
        have b99 := b6.set6 (.string ⟨#[]⟩) (.int .i64 0) (.int .i64 0) (.int .i64 0) (.int .i64 0) (.int .i64 0)
        obtain ⟨u0, u1, u2, u3, u4, u5, _⟩ := blk6 b99
        rw [HE.out]
        exact bodyPost_ret (v := .tuple #[.agg (mkC mk0), .int .i64 2]) (by simp [results, Tryz.results72, go_sem, u0, u1, u2, u3, u4, u5]) rfl ⟨rfl, Below.set6 hBB (by omega)⟩
      cases h2 : wi q.2 (-200000) 200000
      · have HE : Hid (markOfV l d0 d1 nm lv = (mk0, 2)) := Lib.hid (by have e : cellsE l = 2 := (by rw [HAT.out, if_pos (by rw [HQ.out, h1, h2]; rfl)]); rw [HV1.out (by rw [e]; decide), e])
        have H1 := Lib.hid h1; have H2 := Lib.hid h2; clear h1 h2
        go_wp2_with (go_at_call 27; refine (bWithin_any _ _ _ _).mono ?_; (first | rw [H1.out] | rw [H2.out]); rintro e w1 ⟨rfl, rfl⟩)
        have b99 := b6.set6 (.string ⟨#[]⟩) (.int .i64 0) (.int .i64 0) (.int .i64 0) (.int .i64 0) (.int .i64 0)
        obtain ⟨u0, u1, u2, u3, u4, u5, _⟩ := blk6 b99
        rw [HE.out]
        exact bodyPost_ret (v := .tuple #[.agg (mkC mk0), .int .i64 2]) (by simp [results, Tryz.results72, go_sem, u0, u1, u2, u3, u4, u5]) rfl ⟨rfl, Below.set6 hBB (by omega)⟩
      have HIN : Hid (inC q = true) := Lib.hid (by rw [HQ.out, h1, h2]; rfl)
      have H1 := Lib.hid h1; have H2 := Lib.hid h2; clear h1 h2
      go_wp2_with (go_at_call 27; refine (bWithin_any _ _ _ _).mono ?_; (first | rw [H1.out] | rw [H2.out]); rintro e w1 ⟨rfl, rfl⟩)
      go_upto_region 13 with fail
      cases k with
      | zero =>
        have HE0 : Hid (CellsTo l (0 + 1)) := Lib.hid (HST.out HIN.out (HP0.out rfl))
        have HZ := Lib.hid (HZ2.out rfl)
        clear hRx HP HP0 HST HIN HZ0 HZ1 HZ2 HAT x0 x1 x2 x3 f3 z0 z1 z2 z3 z4 z5 f6 v0 v1 v2 v3 v4 v5 f8 e0 e1
        have l_b3 := b3.lt
        obtain ⟨x0, x1, x2, x3, f3⟩ := blk4 b3
        have l_b4 := b4.lt
        obtain ⟨y0, y1, f4⟩ := blk2c b4
        have l_b6 := b6.lt
        obtain ⟨z0, z1, z2, z3, z4, z5, f6⟩ := blk6 b6
        have l_b8 := b8.lt
        obtain ⟨v0, v1, v2, v3, v4, v5, f8⟩ := blk6 b8
        have l_b9 := b9.lt
        obtain ⟨r0, r1, f9⟩ := blk2c b9
        have l_b10 := b10.lt
        obtain ⟨s0, s1, f10⟩ := blk2c b10
        have l_b12 := b12.lt
        obtain ⟨e0, e1, f12⟩ := blk2c b12
        refine wp_region_b 11 (by kernel_rfl) (by kernel_rfl) ?_; simp only [List.take, List.drop]
        repeat (first
          | (apply StepsD.run
             · go_simp
               done
             · intro w' hS K hK
               have hc := (bcell hS).1
               have hf := (bcell hS).2
               have hz := hS.size
               try simp at hz
               go_simp
               try go_bits
               first
                 | exact hK _ hS
                 | exact hK _ (by repeat (first | (with_reducible exact Below.refl _ _) | (with_reducible assumption) | ((with_reducible refine Below.setCell ?_ ?_ _); rotate_left; · (first | exact Nat.le_refl _ | (simp; done) | (simp; omega) | omega)) | ((with_reducible refine Below.alloc ?_ ?_ _); rotate_left; · (first | exact Nat.le_refl _ | (simp; done) | (simp; omega) | omega)) | (with_reducible apply Below.drew) | (with_reducible apply below_drewN') | (refine Below.trans ?_ (Below.mono (by assumption) (by first | exact Nat.le_refl _ | (simp; done) | (simp; omega) | omega))) | exact Below.refl _ _ | assumption))
             · simp [Act.put]
               done)
          | (apply StepsD.pass
             · go_simp
               done
             · simp only [Act.put, List.setIfInBounds_toArray, List.set_cons_succ, List.set_cons_zero]
               rfl))
        refine StepsD.done ?_
        intro w1 hS
        replace b3 := b3.gr hS
        replace b4 := b4.gr hS
        replace b6 := b6.gr hS
        replace b8 := b8.gr hS
        replace b9 := b9.gr hS
        replace b10 := b10.gr hS
        replace b12 := b12.gr hS
        replace hBB := hBB.trans (Below.mono hS (Below.size hBB))
        clear hS
        clear l_b3 x0 x1 x2 x3 f3 l_b4 y0 y1 f4 l_b6 z0 z1 z2 z3 z4 z5 f6 l_b8 v0 v1 v2 v3 v4 v5 f8 l_b9 r0 r1 f9 l_b10 s0 s1 f10 l_b12 e0 e1 f12
        have l_b3 := b3.lt
        have l_b4 := b4.lt
        have l_b6 := b6.lt
        have l_b8 := b8.lt
        have l_b9 := b9.lt
        have l_b10 := b10.lt
        have l_b12 := b12.lt
        obtain ⟨x0, x1, x2, x3, f3⟩ := blk4 b3
        obtain ⟨y0, y1, f4⟩ := blk2c b4
        obtain ⟨z0, z1, z2, z3, z4, z5, f6⟩ := blk6 b6
        obtain ⟨v0, v1, v2, v3, v4, v5, f8⟩ := blk6 b8
        obtain ⟨r0, r1, f9⟩ := blk2c b9
        obtain ⟨s0, s1, f10⟩ := blk2c b10
        obtain ⟨e0, e1, f12⟩ := blk2c b12
        go_upto_region 16 with fail
        refine markReg16 q (spanZ 0 l 0) (spanZ 1 l 0) b9 b10 b12 n9' l10 _ ?_
        intro t67 t68 t69 t70 t71 t72 t73 t74 t75 t76 wz bz9 bz10 bz12 hBz
        try dsimp only
        have ub3 := b3.below hBz (by omega)
        have ub4 := b4.below hBz (by omega)
        have ub6 := b6.below hBz (by omega)
        have ub8 := b8.below hBz (by omega)
        have uBB := hBB.trans (hBz.mono (show w.heap.size ≤ N9 by omega))
        go_upto_region 17 with fail
        refine markReg17 q (q.1, q.1) bz9 bz12 (by omega) _ ?_
        intro t77 t78 t79 t80 t81 t82 t83 t84 t85 t86 t87 wy by9 by12 hBy
        try dsimp only
        have by10 := bz10.grown hBy (fun e => by have := Option.some.inj e; omega)
        go_upto_region 18 with fail
        refine markReg18 q (q.2, q.2) by10 by12 (by omega) _ ?_
        intro t88 t89 t90 t91 t92 t93 t94 t95 t96 t97 t98 wv bv10 bv12 hBv
        try dsimp only
        have bv9 := by9.grown hBv (fun e => by have := Option.some.inj e; omega)
        have c3' := (ub3.grown hBy (fun e => by have := Option.some.inj e; omega)).grown hBv (fun e => by have := Option.some.inj e; omega)
        have c4' := (ub4.grown hBy (fun e => by have := Option.some.inj e; omega)).grown hBv (fun e => by have := Option.some.inj e; omega)
        have c6' := (ub6.grown hBy (fun e => by have := Option.some.inj e; omega)).grown hBv (fun e => by have := Option.some.inj e; omega)
        have c8' := (ub8.grown hBy (fun e => by have := Option.some.inj e; omega)).grown hBv (fun e => by have := Option.some.inj e; omega)
        have cB1 := below_only uBB hBy (Below.size uBB) (show w.heap.size ≤ N9 by omega)
        have cBB := below_only cB1 hBv (Below.size cB1) (show w.heap.size ≤ N10 by omega)
        have HW0 : Hid (spanZ 0 l (0 + 1) = (min q.1 q.1, max q.1 q.1)) := Lib.hid (by rw [HZ.out.1]; simp)
        have HW1 : Hid (spanZ 1 l (0 + 1) = (min q.2 q.2, max q.2 q.2)) := Lib.hid (by rw [HZ.out.2]; simp)
        go_wp2
        refine ⟨⟨0 + 1, by omega, by go_num, HE0, c3', c4', c6', c8', by rw [HW0.out]; exact bv9, by rw [HW1.out]; exact bv10, cBB⟩, by simp [intOf]; omega⟩
      | succ j =>
        obtain ⟨g2, o2, hA2, hg2, c2, c3⟩ := cellPair hRx (show j < l.length by omega)
        have ej : ((j + 1 : Nat) : Int) - 1 = (j : Int) := by omega
        have ek : (((j + 1 : Nat) : Int) == 0) = false := by simp; omega
        obtain ⟨rfl, rfl⟩ : g2 = g ∧ o2 = o := by cases hA2; exact ⟨rfl, rfl⟩
        have hjl : j < l.length := by omega
        have hgx : g2 < wx.heap.size := by omega
        obtain ⟨q', hq'⟩ : ∃ q', l[j] = q' := ⟨_, rfl⟩
        have HPQ : Hid (prevC l (j + 1) = some q') := Lib.hid (by rw [HP.out (by omega), ← hq']; rfl)
        rw [hq'] at c2 c3
        have jp : decide ((0 : Int) < ((j + 1 : Nat) : Int)) = true := by simp
        have HY0 := Lib.hid (HZ0.out (by omega))
        have HY1 := Lib.hid (HZ1.out (by omega))
        clear hq' hRx HP HP0 hA2 HZ0 HZ1 HZ2 x0 x1 x2 x3 f3 z0 z1 z2 z3 z4 z5 f6 v0 v1 v2 v3 v4 v5 f8 e0 e1
        have l_b3 := b3.lt
        obtain ⟨x0, x1, x2, x3, f3⟩ := blk4 b3
        have l_b4 := b4.lt
        obtain ⟨y0, y1, f4⟩ := blk2c b4
        have l_b6 := b6.lt
        obtain ⟨z0, z1, z2, z3, z4, z5, f6⟩ := blk6 b6
        have l_b8 := b8.lt
        obtain ⟨v0, v1, v2, v3, v4, v5, f8⟩ := blk6 b8
        have l_b9 := b9.lt
        obtain ⟨r0, r1, f9⟩ := blk2c b9
        have l_b10 := b10.lt
        obtain ⟨s0, s1, f10⟩ := blk2c b10
        have l_b12 := b12.lt
        obtain ⟨e0, e1, f12⟩ := blk2c b12
        cases hd : befB q' q
        · have HBF := Lib.hid hd; clear hd
          have HE : Hid (markOfV l d0 d1 nm lv = (mk0, 9)) := Lib.hid (by have e : cellsE l = 9 := (by rw [HAT.out, if_neg (by rw [HIN.out]; decide), if_pos (by rw [HPQ.out]; show (!befB q' q) = true; rw [HBF.out]; rfl)]); rw [HV1.out (by rw [e]; decide), e])
          refine wp_region_b 11 (by kernel_rfl) (by kernel_rfl) ?_; simp only [List.take, List.drop]
          repeat (first
            | (apply StepsD.run
               · go_simp
                 done
               · intro w' hS K hK
                 have hc := (bcell hS).1
                 have hf := (bcell hS).2
                 have hz := hS.size
                 try simp at hz
                 go_simp
                 try go_bits
                 first
                   | exact hK _ hS
                   | (go_at_call 131; (with_reducible refine (before_any (_, _) (_, _) _).mono ?_); rw [HBF.out]; rintro e w1 ⟨rfl, hB1⟩; obtain ⟨hc1, hf1⟩ := bcell hB1; have hz1 := hB1.size; (try simp at hz1); exact hK _ (Below.trans hS (Below.mono hB1 (by first | exact Nat.le_refl _ | (simp; done) | (simp; omega) | omega))))
                   | exact hK _ (by repeat (first | (with_reducible exact Below.refl _ _) | (with_reducible assumption) | ((with_reducible refine Below.setCell ?_ ?_ _); rotate_left; · (first | exact Nat.le_refl _ | (simp; done) | (simp; omega) | omega)) | ((with_reducible refine Below.alloc ?_ ?_ _); rotate_left; · (first | exact Nat.le_refl _ | (simp; done) | (simp; omega) | omega)) | (with_reducible apply Below.drew) | (with_reducible apply below_drewN') | (refine Below.trans ?_ (Below.mono (by assumption) (by first | exact Nat.le_refl _ | (simp; done) | (simp; omega) | omega))) | exact Below.refl _ _ | assumption))
               · simp [Act.put]
                 done)
            | (apply StepsD.pass
               · go_simp
                 done
               · simp only [Act.put, List.setIfInBounds_toArray, List.set_cons_succ, List.set_cons_zero]
                 rfl))
          refine StepsD.done ?_
          intro w1 hS
          replace b3 := b3.gr hS
          replace b4 := b4.gr hS
          replace b6 := b6.gr hS
          replace b8 := b8.gr hS
          replace b9 := b9.gr hS
          replace b10 := b10.gr hS
          replace b12 := b12.gr hS
          replace hBB := hBB.trans (Below.mono hS (Below.size hBB))
          clear hS
          clear l_b3 x0 x1 x2 x3 f3 l_b4 y0 y1 f4 l_b6 z0 z1 z2 z3 z4 z5 f6 l_b8 v0 v1 v2 v3 v4 v5 f8 l_b9 r0 r1 f9 l_b10 s0 s1 f10 l_b12 e0 e1 f12
          have l_b3 := b3.lt
          have l_b4 := b4.lt
          have l_b6 := b6.lt
          have l_b8 := b8.lt
          have l_b9 := b9.lt
          have l_b10 := b10.lt
          have l_b12 := b12.lt
          obtain ⟨x0, x1, x2, x3, f3⟩ := blk4 b3
          obtain ⟨y0, y1, f4⟩ := blk2c b4
          obtain ⟨z0, z1, z2, z3, z4, z5, f6⟩ := blk6 b6
          obtain ⟨v0, v1, v2, v3, v4, v5, f8⟩ := blk6 b8
          obtain ⟨r0, r1, f9⟩ := blk2c b9
          obtain ⟨s0, s1, f10⟩ := blk2c b10
          obtain ⟨e0, e1, f12⟩ := blk2c b12
          go_wp2
          have b99 := b6.set6 (.string ⟨#[]⟩) (.int .i64 0) (.int .i64 0) (.int .i64 0) (.int .i64 0) (.int .i64 0)
          obtain ⟨u0, u1, u2, u3, u4, u5, _⟩ := blk6 b99
          rw [HE.out]
          exact bodyPost_ret (v := .tuple #[.agg (mkC mk0), .int .i64 9]) (by simp [results, Tryz.results72, go_sem, u0, u1, u2, u3, u4, u5]) rfl ⟨rfl, Below.set6 hBB (by omega)⟩
        · have HBF := Lib.hid hd; clear hd
          have HE0 : Hid (CellsTo l (j + 1 + 1)) := Lib.hid (HST.out HIN.out (by rw [HPQ.out]; show (!befB q' q) = false; rw [HBF.out]; rfl))
          refine wp_region_b 11 (by kernel_rfl) (by kernel_rfl) ?_; simp only [List.take, List.drop]
          repeat (first
            | (apply StepsD.run
               · go_simp
                 done
               · intro w' hS K hK
                 have hc := (bcell hS).1
                 have hf := (bcell hS).2
                 have hz := hS.size
                 try simp at hz
                 go_simp
                 try go_bits
                 first
                   | exact hK _ hS
                   | (go_at_call 131; (with_reducible refine (before_any (_, _) (_, _) _).mono ?_); rw [HBF.out]; rintro e w1 ⟨rfl, hB1⟩; obtain ⟨hc1, hf1⟩ := bcell hB1; have hz1 := hB1.size; (try simp at hz1); exact hK _ (Below.trans hS (Below.mono hB1 (by first | exact Nat.le_refl _ | (simp; done) | (simp; omega) | omega))))
                   | exact hK _ (by repeat (first | (with_reducible exact Below.refl _ _) | (with_reducible assumption) | ((with_reducible refine Below.setCell ?_ ?_ _); rotate_left; · (first | exact Nat.le_refl _ | (simp; done) | (simp; omega) | omega)) | ((with_reducible refine Below.alloc ?_ ?_ _); rotate_left; · (first | exact Nat.le_refl _ | (simp; done) | (simp; omega) | omega)) | (with_reducible apply Below.drew) | (with_reducible apply below_drewN') | (refine Below.trans ?_ (Below.mono (by assumption) (by first | exact Nat.le_refl _ | (simp; done) | (simp; omega) | omega))) | exact Below.refl _ _ | assumption))
               · simp [Act.put]
                 done)
            | (apply StepsD.pass
               · go_simp
                 done
               · simp only [Act.put, List.setIfInBounds_toArray, List.set_cons_succ, List.set_cons_zero]
                 rfl))
          refine StepsD.done ?_
          intro w1 hS
          replace b3 := b3.gr hS
          replace b4 := b4.gr hS
          replace b6 := b6.gr hS
          replace b8 := b8.gr hS
          replace b9 := b9.gr hS
          replace b10 := b10.gr hS
          replace b12 := b12.gr hS
          replace hBB := hBB.trans (Below.mono hS (Below.size hBB))
          clear hS
          clear l_b3 x0 x1 x2 x3 f3 l_b4 y0 y1 f4 l_b6 z0 z1 z2 z3 z4 z5 f6 l_b8 v0 v1 v2 v3 v4 v5 f8 l_b9 r0 r1 f9 l_b10 s0 s1 f10 l_b12 e0 e1 f12
          have l_b3 := b3.lt
          have l_b4 := b4.lt
          have l_b6 := b6.lt
          have l_b8 := b8.lt
          have l_b9 := b9.lt
          have l_b10 := b10.lt
          have l_b12 := b12.lt
          obtain ⟨x0, x1, x2, x3, f3⟩ := blk4 b3
          obtain ⟨y0, y1, f4⟩ := blk2c b4
          obtain ⟨z0, z1, z2, z3, z4, z5, f6⟩ := blk6 b6
          obtain ⟨v0, v1, v2, v3, v4, v5, f8⟩ := blk6 b8
          obtain ⟨r0, r1, f9⟩ := blk2c b9
          obtain ⟨s0, s1, f10⟩ := blk2c b10
          obtain ⟨e0, e1, f12⟩ := blk2c b12
          go_upto_region 17 with fail
          have nn9 : N9 < M := by omega
          refine markReg17 q (spanZ 0 l (j + 1)) b9 b12 (by omega) _ ?_
          intro t77 t78 t79 t80 t81 t82 t83 t84 t85 t86 t87 wy by9 by12 hBy
          try dsimp only
          have by10 := b10.grown hBy (fun e => by have := Option.some.inj e; omega)
          go_upto_region 18 with fail
          refine markReg18 q (spanZ 1 l (j + 1)) by10 by12 (by omega) _ ?_
          intro t88 t89 t90 t91 t92 t93 t94 t95 t96 t97 t98 wz bz10 bz12 hBz
          try dsimp only
          have bz9 := by9.grown hBz (fun e => by have := Option.some.inj e; omega)
          have c3' := (b3.grown hBy (fun e => by have := Option.some.inj e; omega)).grown hBz (fun e => by have := Option.some.inj e; omega)
          have c4' := (b4.grown hBy (fun e => by have := Option.some.inj e; omega)).grown hBz (fun e => by have := Option.some.inj e; omega)
          have c6' := (b6.grown hBy (fun e => by have := Option.some.inj e; omega)).grown hBz (fun e => by have := Option.some.inj e; omega)
          have c8' := (b8.grown hBy (fun e => by have := Option.some.inj e; omega)).grown hBz (fun e => by have := Option.some.inj e; omega)
          have cB1 := below_only hBB hBy (Below.size hBB) (show w.heap.size ≤ N9 by omega)
          have cBB := below_only cB1 hBz (Below.size cB1) (show w.heap.size ≤ N10 by omega)
          go_wp2
          refine ⟨⟨j + 1 + 1, by omega, by go_num, HE0, c3', c4', c6', c8', by rw [HY0.out]; exact bz9, by rw [HY1.out]; exact bz10, cBB⟩, by simp [intOf]; omega⟩
    · obtain rfl : k = l.length := by omega
      have hc0 : cellsE l = 0 := cellsE_end hp h9' HI.out
      obtain ⟨_, _, hin⟩ := cellsE_zero hc0
      have hsz : (spanM l d0 d1 nm lv).nm.size ≤ 1000000000000 := hnm
      have hSM : spanM l d0 d1 nm lv = ⟨nm, (spanZ 0 l l.length).1 * d0, ((spanZ 0 l l.length).2 + 1) * d0, (spanZ 1 l l.length).1 * d1, ((spanZ 1 l l.length).2 + 1) * d1, lv⟩ := by
        unfold spanM spanZ; rw [if_neg (by omega), if_neg (by omega)]
      obtain ⟨p1, p2, p3, p4⟩ := spanP_bd hp hin 0 l.length (Nat.le_refl _)
      obtain ⟨q1, q2, q3, q4⟩ := spanP_bd hp hin 1 l.length (Nat.le_refl _)
      have hz0 : spanZ 0 l l.length = spanP 0 l l.length := by unfold spanZ; rw [if_neg (by omega)]
      have hz1 : spanZ 1 l l.length = spanP 1 l l.length := by unfold spanZ; rw [if_neg (by omega)]
      rw [← hz0] at p1 p2 p3 p4
      rw [← hz1] at q1 q2 q3 q4
      have HV2' := Lib.hid (HV2.out hc0)
      have HV3' := Lib.hid (HV3.out hc0)
      clear HV1 HV2 HV3 HI hin hz0 hz1 hc0
      obtain ⟨P, hP⟩ : ∃ P, spanZ 0 l l.length = P := ⟨_, rfl⟩
      obtain ⟨R, hR2⟩ : ∃ P, spanZ 1 l l.length = P := ⟨_, rfl⟩
      rw [hP] at p1 p2 p3 p4 b9 hSM
      rw [hR2] at q1 q2 q3 q4 b10 hSM
      clear hP hR2
      obtain ⟨SM, hSMe⟩ : ∃ m, spanM l d0 d1 nm lv = m := ⟨_, rfl⟩
      rw [hSMe] at hSM hsz HV3'
      clear hSMe
      have l10 := b10.lt
      have nb9 : w.heap.size ≠ N9 := by omega
      have nb10 : w.heap.size ≠ N10 := by omega
      have nb6 : w.heap.size ≤ N6 := by omega
      clear hRr x0 x1 x2 x3 f3 hzb
      have l_b3 := b3.lt
      obtain ⟨x0, x1, x2, x3, f3⟩ := blk4 b3
      have l_b4 := b4.lt
      obtain ⟨y0, y1, f4⟩ := blk2c b4
      have l_b6 := b6.lt
      obtain ⟨z0, z1, z2, z3, z4, z5, f6⟩ := blk6 b6
      have l_b8 := b8.lt
      obtain ⟨v0, v1, v2, v3, v4, v5, f8⟩ := blk6 b8
      have l_b9 := b9.lt
      obtain ⟨r0, r1, f9⟩ := blk2c b9
      have l_b10 := b10.lt
      obtain ⟨s0, s1, f10⟩ := blk2c b10
      have l_b3 := b3.lt
      have l_b4 := b4.lt
      have l_b6 := b6.lt
      have l_b8 := b8.lt
      have l_b9 := b9.lt
      have l_b10 := b10.lt
      obtain ⟨x0, x1, x2, x3, f3⟩ := blk4 b3
      obtain ⟨y0, y1, f4⟩ := blk2c b4
      obtain ⟨z0, z1, z2, z3, z4, z5, f6⟩ := blk6 b6
      obtain ⟨v0, v1, v2, v3, v4, v5, f8⟩ := blk6 b8
      obtain ⟨r0, r1, f9⟩ := blk2c b9
      obtain ⟨s0, s1, f10⟩ := blk2c b10
      obtain ⟨E, hE⟩ : ∃ E, gridE d0 d1 = E := ⟨_, rfl⟩
      rw [hE] at HV2' HV3'
      have HE := Lib.hid hE; clear hE
      go_wp2_with fail
      refine (refCheckGrid_any _ _ _).mono ?_
      rw [HE.out]
      rintro e wc1 ⟨rfl, hBc1⟩
      replace b3 := b3.gr hBc1
      replace b4 := b4.gr hBc1
      replace b6 := b6.gr hBc1
      replace b8 := b8.gr hBc1
      replace b9 := b9.gr hBc1
      replace b10 := b10.gr hBc1
      replace hBB := hBB.trans (Below.mono hBc1 (Below.size hBB))
      clear hBc1
      clear l_b3 x0 x1 x2 x3 f3 l_b4 y0 y1 f4 l_b6 z0 z1 z2 z3 z4 z5 f6 l_b8 v0 v1 v2 v3 v4 v5 f8 l_b9 r0 r1 f9 l_b10 s0 s1 f10
      have l_b3 := b3.lt
      have l_b4 := b4.lt
      have l_b6 := b6.lt
      have l_b8 := b8.lt
      have l_b9 := b9.lt
      have l_b10 := b10.lt
      obtain ⟨x0, x1, x2, x3, f3⟩ := blk4 b3
      obtain ⟨y0, y1, f4⟩ := blk2c b4
      obtain ⟨z0, z1, z2, z3, z4, z5, f6⟩ := blk6 b6
      obtain ⟨v0, v1, v2, v3, v4, v5, f8⟩ := blk6 b8
      obtain ⟨r0, r1, f9⟩ := blk2c b9
      obtain ⟨s0, s1, f10⟩ := blk2c b10
      by_cases hE0 : E = 0
      · obtain ⟨hd0, hd1⟩ := gridE_zero (HE.out.trans hE0)
        have HV4 := Lib.hid (HV3'.out hE0)
        subst hE0
        have m1 := mul_span (show -200001 ≤ P.1 by omega) (show P.1 ≤ 200001 by omega) hd0
        have m2 := mul_span (show -200001 ≤ P.2 + 1 by omega) (show P.2 + 1 ≤ 200001 by omega) hd0
        have m3 := mul_span (show -200001 ≤ R.1 by omega) (show R.1 ≤ 200001 by omega) hd1
        have m4 := mul_span (show -200001 ≤ R.2 + 1 by omega) (show R.2 + 1 ≤ 200001 by omega) hd1
        go_wp2_with fail
        have n614 : N6 ≠ wc1.heap.size := Nat.ne_of_lt b6.lt
        have b14 := Blk.new wc1 79 #[.string nm, .int .i64 (P.1 * d0), .int .i64 ((P.2 + 1) * d0), .int .i64 (R.1 * d1), .int .i64 ((R.2 + 1) * d1), .int .i64 lv]
        replace b3 := b3.alloc (.cells #[.string nm, .int .i64 (P.1 * d0), .int .i64 ((P.2 + 1) * d0), .int .i64 (R.1 * d1), .int .i64 ((R.2 + 1) * d1), .int .i64 lv] 79 (0, 0))
        replace b4 := b4.alloc (.cells #[.string nm, .int .i64 (P.1 * d0), .int .i64 ((P.2 + 1) * d0), .int .i64 (R.1 * d1), .int .i64 ((R.2 + 1) * d1), .int .i64 lv] 79 (0, 0))
        replace b6 := b6.alloc (.cells #[.string nm, .int .i64 (P.1 * d0), .int .i64 ((P.2 + 1) * d0), .int .i64 (R.1 * d1), .int .i64 ((R.2 + 1) * d1), .int .i64 lv] 79 (0, 0))
        replace b8 := b8.alloc (.cells #[.string nm, .int .i64 (P.1 * d0), .int .i64 ((P.2 + 1) * d0), .int .i64 (R.1 * d1), .int .i64 ((R.2 + 1) * d1), .int .i64 lv] 79 (0, 0))
        replace b9 := b9.alloc (.cells #[.string nm, .int .i64 (P.1 * d0), .int .i64 ((P.2 + 1) * d0), .int .i64 (R.1 * d1), .int .i64 ((R.2 + 1) * d1), .int .i64 lv] 79 (0, 0))
        replace b10 := b10.alloc (.cells #[.string nm, .int .i64 (P.1 * d0), .int .i64 ((P.2 + 1) * d0), .int .i64 (R.1 * d1), .int .i64 ((R.2 + 1) * d1), .int .i64 lv] 79 (0, 0))
        replace hBB := hBB.alloc (Below.size hBB) (.cells #[.string nm, .int .i64 (P.1 * d0), .int .i64 ((P.2 + 1) * d0), .int .i64 (R.1 * d1), .int .i64 ((R.2 + 1) * d1), .int .i64 lv] 79 (0, 0))
        clear l_b3 x0 x1 x2 x3 f3 l_b4 y0 y1 f4 l_b6 z0 z1 z2 z3 z4 z5 f6 l_b8 v0 v1 v2 v3 v4 v5 f8 l_b9 r0 r1 f9 l_b10 s0 s1 f10
        have l_b3 := b3.lt
        have l_b4 := b4.lt
        have l_b6 := b6.lt
        have l_b8 := b8.lt
        have l_b9 := b9.lt
        have l_b10 := b10.lt
        have l_b14 := b14.lt
        obtain ⟨x0, x1, x2, x3, f3⟩ := blk4 b3
        obtain ⟨y0, y1, f4⟩ := blk2c b4
        obtain ⟨z0, z1, z2, z3, z4, z5, f6⟩ := blk6 b6
        obtain ⟨v0, v1, v2, v3, v4, v5, f8⟩ := blk6 b8
        obtain ⟨r0, r1, f9⟩ := blk2c b9
        obtain ⟨s0, s1, f10⟩ := blk2c b10
        obtain ⟨g0, g1, g2, g3, g4, g5, f14⟩ := blk6 b14
        obtain ⟨e, he⟩ : ∃ e, markE SM = e := ⟨_, rfl⟩
        rw [he] at HV4
        have HEE := Lib.hid he; clear he
        subst hSM
        refine (refMarkErr_any _ hsz _).mono ?_
        rw [HEE.out]
        rintro e9 w9 ⟨rfl, hB9⟩
        clear l_b3 x0 x1 x2 x3 f3 l_b4 y0 y1 f4 l_b6 z0 z1 z2 z3 z4 z5 f6 l_b8 v0 v1 v2 v3 v4 v5 f8 l_b9 r0 r1 f9 l_b10 s0 s1 f10 l_b14 g0 g1 g2 g3 g4 g5 f14
        replace b6 := b6.gr hB9
        replace b8 := b8.gr hB9
        replace b14 := b14.gr hB9
        replace hBB := hBB.trans (Below.mono hB9 (Below.size hBB))
        clear hB9 b3 b4 b9 b10
        have l_b6 := b6.lt
        have l_b8 := b8.lt
        have l_b14 := b14.lt
        obtain ⟨z0, z1, z2, z3, z4, z5, f6⟩ := blk6 b6
        obtain ⟨v0, v1, v2, v3, v4, v5, f8⟩ := blk6 b8
        obtain ⟨g0, g1, g2, g3, g4, g5, f14⟩ := blk6 b14
        generalize wc1.heap.size = N14 at *
        by_cases h1 : e = 0
        · have HV5 : Hid (markOfV l d0 d1 nm lv = (⟨nm, P.1 * d0, (P.2 + 1) * d0, R.1 * d1, (R.2 + 1) * d1, lv⟩, 0)) := Lib.hid (by rw [HV4.out, if_neg (by simpa using h1)])
          subst h1
          go_wp2
          have b99 := b6.set6 (.string nm) (.int .i64 (P.1 * d0)) (.int .i64 ((P.2 + 1) * d0)) (.int .i64 (R.1 * d1)) (.int .i64 ((R.2 + 1) * d1)) (.int .i64 lv)
          obtain ⟨u0, u1, u2, u3, u4, u5, _⟩ := blk6 b99
          rw [HV5.out]
          exact bodyPost_ret (v := .tuple #[.agg #[.string nm, .int .i64 (P.1 * d0), .int .i64 ((P.2 + 1) * d0), .int .i64 (R.1 * d1), .int .i64 ((R.2 + 1) * d1), .int .i64 lv], .int .i64 0]) (by simp [results, Tryz.results72, go_sem, u0, u1, u2, u3, u4, u5]) rfl ⟨rfl, Below.set6 hBB nb6⟩
        · have h1' : (e != 0) = true := by simpa using h1
          have HV5 : Hid (markOfV l d0 d1 nm lv = (mk0, e)) := Lib.hid (by rw [HV4.out, if_pos h1])
          go_wp2
          have b99 := b6.set6 (.string ⟨#[]⟩) (.int .i64 0) (.int .i64 0) (.int .i64 0) (.int .i64 0) (.int .i64 0)
          obtain ⟨u0, u1, u2, u3, u4, u5, _⟩ := blk6 b99
          rw [HV5.out]
          exact bodyPost_ret (v := .tuple #[.agg (mkC mk0), .int .i64 e]) (by simp [results, Tryz.results72, go_sem, u0, u1, u2, u3, u4, u5]) rfl ⟨rfl, Below.set6 hBB nb6⟩
      · have hE0' : (E != 0) = true := by simpa using hE0
        have HV4 := Lib.hid (HV2'.out hE0)
        go_wp2
        have b99 := b6.set6 (.string ⟨#[]⟩) (.int .i64 0) (.int .i64 0) (.int .i64 0) (.int .i64 0) (.int .i64 0)
        obtain ⟨u0, u1, u2, u3, u4, u5, _⟩ := blk6 b99
        rw [HV4.out]
        exact bodyPost_ret (v := .tuple #[.agg (mkC mk0), .int .i64 E]) (by simp [results, Tryz.results72, go_sem, u0, u1, u2, u3, u4, u5]) rfl ⟨rfl, Below.set6 hBB nb6⟩
end Go.Proofs.YtidgeagpgllkeaaGreat
