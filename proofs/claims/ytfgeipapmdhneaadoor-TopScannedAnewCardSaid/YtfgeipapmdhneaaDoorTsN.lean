/- Regions 23, 24, 25 of the law TopScannedAnew: what must be scanned anew. -/
import Derived.Test.YtfgeipapmdhneaaDoorTsM
import Derived.Test.YtfgeipapmdhneaaDoorZsCyB
namespace Go.Proofs.YtfgeipapmdhneaaDoor
open Go.RowKit Go.Lib Go.Shelf

set_option maxRecDepth 100000 in
set_option maxHeartbeats 4000000 in
theorem saReg23 {t : Tk} {ys : List Int} {A : Option Addr} {c B q : Nat} {W : World} (b : Blk W q 23 (tkC t)) (HI : Hid (∀ w', Gr W w' → InOk ys A c B w')) (HA : Hid (A = none → c = 0)) {t0 t1 t2 t4 t5 t6 t7 t8 t9 t10 t11 t12 t13 t15 t16 t17 t18 t19 t20 t21 t22 t23 t24 t25 t26 t27 t28 t29 t30 t31 t32 t33 t34 t35 t36 t37 t38 t39 t40 t41 t42 t43 t44 t45 t46 t47 t48 t49 t50 t51 t52 t53 t54 t55 t56 t57 t58 t59 t60 t61 t62 t63 t64 t65 t66 t67 t68 t69 t70 t71 t72 t73 t74 t75 t76 t77 t78 t79 t80 t81 t82 t83 t84 t85 t86 t87 t88 t89 t90 t91 t92 t93 t94 t95 t96 t97 t98 t99 t100 t101 t102 t103 t104 t105 t106 t107 t108 t109 t110 t111 t112 t113 t114 t115 t116 t117 t118 t119 t120 t121 t122 t123 t124 t125 t126 t127 t128 t129 t130 t131 t132 t133 t134 t135 t136 t137 t138 t139 t140 t141 t142 t143 t144 t145 t146 t147 t148 t149 t150 t151 t152 t153 t154 t155 t156 t157 t158 t159 t160 t161 t162 t163 t164 t165 t166 t167 t168 t169 t170 t171 t172 t173 t174 t175 t176 t177 t178 t179 t180 t181 t182 t183 t184 t185 t186 t187 t188 t189 t190 t191 t192 t193 t194 t195 t196 t197 t198 t199 t200 t201 t202 t203 : Value} {ds : List Deferred} (Q : Exit → Act → World → Prop)
    (h : ∀ (t116 t117 t118 t119 t120 t121 t122 : Value) (A5 : Option Addr) (c5 : Nat) (w' : World), Row w' w'.heap.size 2 A5 (anewR t ys).length (rngsC (anewR t ys)) → Gr W w' → Q .normal ⟨#[t0, t1, t2, .pointer (some ⟨q, 0, none⟩), t4, t5, t6, t7, t8, t9, t10, t11, t12, t13, .slice A ys.length c, t15, .slice A5 (anewR t ys).length c5, .int .i64 (openE t ys), t18, t19, t20, t21, t22, t23, t24, t25, t26, t27, t28, t29, t30, t31, t32, t33, t34, t35, t36, t37, t38, t39, t40, t41, t42, t43, t44, t45, t46, t47, t48, t49, t50, t51, t52, t53, t54, t55, t56, t57, t58, t59, t60, t61, t62, t63, t64, t65, t66, t67, t68, t69, t70, t71, t72, t73, t74, t75, t76, t77, t78, t79, t80, t81, t82, t83, t84, t85, t86, t87, t88, t89, t90, t91, t92, t93, t94, t95, t96, t97, t98, t99, t100, t101, t102, t103, t104, t105, t106, t107, t108, t109, t110, t111, t112, t113, t114, t115, t116, t117, t118, t119, t120, t121, t122, t123, t124, t125, t126, t127, t128, t129, t130, t131, t132, t133, t134, t135, t136, t137, t138, t139, t140, t141, t142, t143, t144, t145, t146, t147, t148, t149, t150, t151, t152, t153, t154, t155, t156, t157, t158, t159, t160, t161, t162, t163, t164, t165, t166, t167, t168, t169, t170, t171, t172, t173, t174, t175, t176, t177, t178, t179, t180, t181, t182, t183, t184, t185, t186, t187, t188, t189, t190, t191, t192, t193, t194, t195, t196, t197, t198, t199, t200, t201, t202, t203], ds⟩ w') :
    (regOf Tryd.f3 23).wp Tryd.prog Q ⟨#[t0, t1, t2, .pointer (some ⟨q, 0, none⟩), t4, t5, t6, t7, t8, t9, t10, t11, t12, t13, .slice A ys.length c, t15, t16, t17, t18, t19, t20, t21, t22, t23, t24, t25, t26, t27, t28, t29, t30, t31, t32, t33, t34, t35, t36, t37, t38, t39, t40, t41, t42, t43, t44, t45, t46, t47, t48, t49, t50, t51, t52, t53, t54, t55, t56, t57, t58, t59, t60, t61, t62, t63, t64, t65, t66, t67, t68, t69, t70, t71, t72, t73, t74, t75, t76, t77, t78, t79, t80, t81, t82, t83, t84, t85, t86, t87, t88, t89, t90, t91, t92, t93, t94, t95, t96, t97, t98, t99, t100, t101, t102, t103, t104, t105, t106, t107, t108, t109, t110, t111, t112, t113, t114, t115, t116, t117, t118, t119, t120, t121, t122, t123, t124, t125, t126, t127, t128, t129, t130, t131, t132, t133, t134, t135, t136, t137, t138, t139, t140, t141, t142, t143, t144, t145, t146, t147, t148, t149, t150, t151, t152, t153, t154, t155, t156, t157, t158, t159, t160, t161, t162, t163, t164, t165, t166, t167, t168, t169, t170, t171, t172, t173, t174, t175, t176, t177, t178, t179, t180, t181, t182, t183, t184, t185, t186, t187, t188, t189, t190, t191, t192, t193, t194, t195, t196, t197, t198, t199, t200, t201, t202, t203], ds⟩ W := by
  dsimp only at h ⊢
  have H := Lib.hid h; clear h
  unfold tkC at b
  obtain ⟨d0, d1, d2, d3, df⟩ := blk4 b
  have lb := b.lt
  clear b
  conv in (regOf _ _) => whnf
  refine wp_region_w (Gr _) (by kernel_rfl) (Below.refl _ _).drew ?_
  refine wpW_det (t' := ?ct0R1) 0 (by rfl) (by kernel_rfl) (NQ_free _) (by kernel_rfl) ?cw0R1 ?ch0R1 ?ca0R1 (Eq.refl _) ?cH0R1
  case cw0R1 => (go_simp; done)
  case ch0R1 =>
    intro ds w' hS K hK
    have hc := (bcell hS).1
    have hf := (bcell hS).2
    have hz := hS.size
    try simp at hz
    go_simp
    try go_bits
    first
      | exact hK _ hS (Gr.refl _)
      | exact hK _ (by repeat (first | (with_reducible exact Below.refl _ _) | (with_reducible assumption) | ((with_reducible refine Below.setCell ?_ ?_ _); rotate_left; · (first | exact Nat.le_refl _ | (simp; done) | (simp; omega) | omega)) | ((with_reducible refine Below.alloc ?_ ?_ _); rotate_left; · (first | exact Nat.le_refl _ | (simp; done) | (simp; omega) | omega)) | (with_reducible apply Below.drew) | (with_reducible apply below_drewN') | (refine Below.trans ?_ (Below.mono (by assumption) (by first | exact Nat.le_refl _ | (simp; done) | (simp; omega) | omega))) | exact Below.refl _ _ | assumption)) (by repeat (first | (with_reducible exact Below.refl _ _) | (with_reducible assumption) | ((with_reducible refine Below.setCell ?_ ?_ _); rotate_left; · (first | exact Nat.le_refl _ | (simp; done) | (simp; omega) | omega)) | ((with_reducible refine Below.alloc ?_ ?_ _); rotate_left; · (first | exact Nat.le_refl _ | (simp; done) | (simp; omega) | omega)) | (with_reducible apply Below.drew) | (with_reducible apply below_drewN') | (refine Below.trans ?_ (Below.mono (by assumption) (by first | exact Nat.le_refl _ | (simp; done) | (simp; omega) | omega))) | exact Below.refl _ _ | assumption))
  case ca0R1 => (first | (simp [Act.put]; done) | (simp [Act.put, *]; done))
  try dsimp only
  refine wpW_det (t' := ?ct1R1) 1 (by rfl) (by kernel_rfl) (NQ_free _) (by kernel_rfl) ?cw1R1 ?ch1R1 ?ca1R1 (Eq.refl _) ?cH1R1
  case cw1R1 => (go_simp; done)
  case ch1R1 =>
    intro ds w' hS K hK
    have hc := (bcell hS).1
    have hf := (bcell hS).2
    have hz := hS.size
    try simp at hz
    go_simp
    try go_bits
    first
      | exact hK _ hS (Gr.refl _)
      | exact hK _ (by repeat (first | (with_reducible exact Below.refl _ _) | (with_reducible assumption) | ((with_reducible refine Below.setCell ?_ ?_ _); rotate_left; · (first | exact Nat.le_refl _ | (simp; done) | (simp; omega) | omega)) | ((with_reducible refine Below.alloc ?_ ?_ _); rotate_left; · (first | exact Nat.le_refl _ | (simp; done) | (simp; omega) | omega)) | (with_reducible apply Below.drew) | (with_reducible apply below_drewN') | (refine Below.trans ?_ (Below.mono (by assumption) (by first | exact Nat.le_refl _ | (simp; done) | (simp; omega) | omega))) | exact Below.refl _ _ | assumption)) (by repeat (first | (with_reducible exact Below.refl _ _) | (with_reducible assumption) | ((with_reducible refine Below.setCell ?_ ?_ _); rotate_left; · (first | exact Nat.le_refl _ | (simp; done) | (simp; omega) | omega)) | ((with_reducible refine Below.alloc ?_ ?_ _); rotate_left; · (first | exact Nat.le_refl _ | (simp; done) | (simp; omega) | omega)) | (with_reducible apply Below.drew) | (with_reducible apply below_drewN') | (refine Below.trans ?_ (Below.mono (by assumption) (by first | exact Nat.le_refl _ | (simp; done) | (simp; omega) | omega))) | exact Below.refl _ _ | assumption))
  case ca1R1 => (first | (simp [Act.put]; done) | (simp [Act.put, *]; done))
  try dsimp only
  refine wpW_branch [2] (by kernel_rfl) (by simp) ?_
  intro w2 hg_w2 hS_w2
  refine each_cons ?_ each_nil
  refine wpOp_go (by rfl) (Eq.refl _) (by go_simp; done) ?_
  intro K hK
  go_simp
  try simp only [Act.put]
  refine (copyInts_any ys A c B w2 (HI.out _ hS_w2) HA.out).mono ?_
  rintro e w3 ⟨v, rfl, own3, hB3⟩
  obtain ⟨A3, c3, rfl, hR3⟩ := Row.own own3
  have hS3 : Gr W w3 := Below.trans hS_w2 (hB3.mono (Below.size hS_w2))
  refine hK _ _ hS3 ?_
  clear hK K own3 hB3 hS_w2 hg_w2
  refine wpW_branch [3] (by kernel_rfl) (by simp) ?_
  intro w4 hg_w4 hS_w4
  refine each_cons ?_ each_nil
  refine wpOp_go (by rfl) (Eq.refl _) (by go_simp; done) ?_
  intro K hK
  go_simp
  try simp only [Act.put]
  refine (anew_any t ys A3 c3 w3.heap.size w4 ⟨(HI.out _ (Gr.refl _)).len, (HI.out _ (Gr.refl _)).i64, hR3.below hg_w4 (Nat.le_refl _), Below.size hg_w4⟩).mono ?_
  rintro e w5 ⟨v, rfl, own5, hB5⟩
  obtain ⟨A5, c5, rfl, hR5⟩ := Row.own own5
  have hS5 : Gr W w5 := Below.trans hS_w4 (hB5.mono (Below.size hS_w4))
  refine hK _ _ hS5 ?_
  clear hK K own5 hB5 hS_w4 hg_w4 hR3 hS3
  refine wpW_det (t' := ?ct4R2) 4 (by rfl) (by kernel_rfl) (NQ_free _) (by kernel_rfl) ?cw4R2 ?ch4R2 ?ca4R2 (Eq.refl _) ?cH4R2
  case cw4R2 => (go_simp; done)
  case ch4R2 =>
    intro ds w' hS K hK
    have hc := (bcell hS).1
    have hf := (bcell hS).2
    have hz := hS.size
    try simp at hz
    go_simp
    try go_bits
    first
      | exact hK _ hS (Gr.refl _)
      | exact hK _ (by repeat (first | (with_reducible exact Below.refl _ _) | (with_reducible assumption) | ((with_reducible refine Below.setCell ?_ ?_ _); rotate_left; · (first | exact Nat.le_refl _ | (simp; done) | (simp; omega) | omega)) | ((with_reducible refine Below.alloc ?_ ?_ _); rotate_left; · (first | exact Nat.le_refl _ | (simp; done) | (simp; omega) | omega)) | (with_reducible apply Below.drew) | (with_reducible apply below_drewN') | (refine Below.trans ?_ (Below.mono (by assumption) (by first | exact Nat.le_refl _ | (simp; done) | (simp; omega) | omega))) | exact Below.refl _ _ | assumption)) (by repeat (first | (with_reducible exact Below.refl _ _) | (with_reducible assumption) | ((with_reducible refine Below.setCell ?_ ?_ _); rotate_left; · (first | exact Nat.le_refl _ | (simp; done) | (simp; omega) | omega)) | ((with_reducible refine Below.alloc ?_ ?_ _); rotate_left; · (first | exact Nat.le_refl _ | (simp; done) | (simp; omega) | omega)) | (with_reducible apply Below.drew) | (with_reducible apply below_drewN') | (refine Below.trans ?_ (Below.mono (by assumption) (by first | exact Nat.le_refl _ | (simp; done) | (simp; omega) | omega))) | exact Below.refl _ _ | assumption))
  case ca4R2 => (first | (simp [Act.put]; done) | (simp [Act.put, *]; done))
  try dsimp only
  refine wpW_det (t' := ?ct5R2) 5 (by rfl) (by kernel_rfl) (NQ_free _) (by kernel_rfl) ?cw5R2 ?ch5R2 ?ca5R2 (Eq.refl _) ?cH5R2
  case cw5R2 => (go_simp; done)
  case ch5R2 =>
    intro ds w' hS K hK
    have hc := (bcell hS).1
    have hf := (bcell hS).2
    have hz := hS.size
    try simp at hz
    go_simp
    try go_bits
    first
      | exact hK _ hS (Gr.refl _)
      | exact hK _ (by repeat (first | (with_reducible exact Below.refl _ _) | (with_reducible assumption) | ((with_reducible refine Below.setCell ?_ ?_ _); rotate_left; · (first | exact Nat.le_refl _ | (simp; done) | (simp; omega) | omega)) | ((with_reducible refine Below.alloc ?_ ?_ _); rotate_left; · (first | exact Nat.le_refl _ | (simp; done) | (simp; omega) | omega)) | (with_reducible apply Below.drew) | (with_reducible apply below_drewN') | (refine Below.trans ?_ (Below.mono (by assumption) (by first | exact Nat.le_refl _ | (simp; done) | (simp; omega) | omega))) | exact Below.refl _ _ | assumption)) (by repeat (first | (with_reducible exact Below.refl _ _) | (with_reducible assumption) | ((with_reducible refine Below.setCell ?_ ?_ _); rotate_left; · (first | exact Nat.le_refl _ | (simp; done) | (simp; omega) | omega)) | ((with_reducible refine Below.alloc ?_ ?_ _); rotate_left; · (first | exact Nat.le_refl _ | (simp; done) | (simp; omega) | omega)) | (with_reducible apply Below.drew) | (with_reducible apply below_drewN') | (refine Below.trans ?_ (Below.mono (by assumption) (by first | exact Nat.le_refl _ | (simp; done) | (simp; omega) | omega))) | exact Below.refl _ _ | assumption))
  case ca5R2 => (first | (simp [Act.put]; done) | (simp [Act.put, *]; done))
  try dsimp only
  refine wpW_det (t' := ?ct6R2) 6 (by rfl) (by kernel_rfl) (NQ_free _) (by kernel_rfl) ?cw6R2 ?ch6R2 ?ca6R2 (Eq.refl _) ?cH6R2
  case cw6R2 => (go_simp; done)
  case ch6R2 =>
    intro ds w' hS K hK
    have hc := (bcell hS).1
    have hf := (bcell hS).2
    have hz := hS.size
    try simp at hz
    go_simp
    try go_bits
    first
      | exact hK _ hS (Gr.refl _)
      | exact hK _ (by repeat (first | (with_reducible exact Below.refl _ _) | (with_reducible assumption) | ((with_reducible refine Below.setCell ?_ ?_ _); rotate_left; · (first | exact Nat.le_refl _ | (simp; done) | (simp; omega) | omega)) | ((with_reducible refine Below.alloc ?_ ?_ _); rotate_left; · (first | exact Nat.le_refl _ | (simp; done) | (simp; omega) | omega)) | (with_reducible apply Below.drew) | (with_reducible apply below_drewN') | (refine Below.trans ?_ (Below.mono (by assumption) (by first | exact Nat.le_refl _ | (simp; done) | (simp; omega) | omega))) | exact Below.refl _ _ | assumption)) (by repeat (first | (with_reducible exact Below.refl _ _) | (with_reducible assumption) | ((with_reducible refine Below.setCell ?_ ?_ _); rotate_left; · (first | exact Nat.le_refl _ | (simp; done) | (simp; omega) | omega)) | ((with_reducible refine Below.alloc ?_ ?_ _); rotate_left; · (first | exact Nat.le_refl _ | (simp; done) | (simp; omega) | omega)) | (with_reducible apply Below.drew) | (with_reducible apply below_drewN') | (refine Below.trans ?_ (Below.mono (by assumption) (by first | exact Nat.le_refl _ | (simp; done) | (simp; omega) | omega))) | exact Below.refl _ _ | assumption))
  case ca6R2 => (first | (simp [Act.put]; done) | (simp [Act.put, *]; done))
  try dsimp only
  refine wpW_det (t' := ?ct7R2) 7 (by rfl) (by kernel_rfl) (NQ_free _) (by kernel_rfl) ?cw7R2 ?ch7R2 ?ca7R2 (Eq.refl _) ?cH7R2
  case cw7R2 => (go_simp; done)
  case ch7R2 =>
    intro ds w' hS K hK
    have hc := (bcell hS).1
    have hf := (bcell hS).2
    have hz := hS.size
    try simp at hz
    go_simp
    try go_bits
    first
      | exact hK _ hS (Gr.refl _)
      | exact hK _ (by repeat (first | (with_reducible exact Below.refl _ _) | (with_reducible assumption) | ((with_reducible refine Below.setCell ?_ ?_ _); rotate_left; · (first | exact Nat.le_refl _ | (simp; done) | (simp; omega) | omega)) | ((with_reducible refine Below.alloc ?_ ?_ _); rotate_left; · (first | exact Nat.le_refl _ | (simp; done) | (simp; omega) | omega)) | (with_reducible apply Below.drew) | (with_reducible apply below_drewN') | (refine Below.trans ?_ (Below.mono (by assumption) (by first | exact Nat.le_refl _ | (simp; done) | (simp; omega) | omega))) | exact Below.refl _ _ | assumption)) (by repeat (first | (with_reducible exact Below.refl _ _) | (with_reducible assumption) | ((with_reducible refine Below.setCell ?_ ?_ _); rotate_left; · (first | exact Nat.le_refl _ | (simp; done) | (simp; omega) | omega)) | ((with_reducible refine Below.alloc ?_ ?_ _); rotate_left; · (first | exact Nat.le_refl _ | (simp; done) | (simp; omega) | omega)) | (with_reducible apply Below.drew) | (with_reducible apply below_drewN') | (refine Below.trans ?_ (Below.mono (by assumption) (by first | exact Nat.le_refl _ | (simp; done) | (simp; omega) | omega))) | exact Below.refl _ _ | assumption))
  case ca7R2 => (first | (simp [Act.put]; done) | (simp [Act.put, *]; done))
  try dsimp only
  refine wpW_det (t' := ?ct8R2) 8 (by rfl) (by kernel_rfl) (NQ_free _) (by kernel_rfl) ?cw8R2 ?ch8R2 ?ca8R2 (Eq.refl _) ?cH8R2
  case cw8R2 => (go_simp; done)
  case ch8R2 =>
    intro ds w' hS K hK
    have hc := (bcell hS).1
    have hf := (bcell hS).2
    have hz := hS.size
    try simp at hz
    go_simp
    try go_bits
    first
      | exact hK _ hS (Gr.refl _)
      | exact hK _ (by repeat (first | (with_reducible exact Below.refl _ _) | (with_reducible assumption) | ((with_reducible refine Below.setCell ?_ ?_ _); rotate_left; · (first | exact Nat.le_refl _ | (simp; done) | (simp; omega) | omega)) | ((with_reducible refine Below.alloc ?_ ?_ _); rotate_left; · (first | exact Nat.le_refl _ | (simp; done) | (simp; omega) | omega)) | (with_reducible apply Below.drew) | (with_reducible apply below_drewN') | (refine Below.trans ?_ (Below.mono (by assumption) (by first | exact Nat.le_refl _ | (simp; done) | (simp; omega) | omega))) | exact Below.refl _ _ | assumption)) (by repeat (first | (with_reducible exact Below.refl _ _) | (with_reducible assumption) | ((with_reducible refine Below.setCell ?_ ?_ _); rotate_left; · (first | exact Nat.le_refl _ | (simp; done) | (simp; omega) | omega)) | ((with_reducible refine Below.alloc ?_ ?_ _); rotate_left; · (first | exact Nat.le_refl _ | (simp; done) | (simp; omega) | omega)) | (with_reducible apply Below.drew) | (with_reducible apply below_drewN') | (refine Below.trans ?_ (Below.mono (by assumption) (by first | exact Nat.le_refl _ | (simp; done) | (simp; omega) | omega))) | exact Below.refl _ _ | assumption))
  case ca8R2 => (first | (simp [Act.put]; done) | (simp [Act.put, *]; done))
  try dsimp only
  refine wpW_end (by kernel_rfl) ?_
  intro w6 hg hS
  unfold NQ
  dsimp only
  exact H.out _ _ _ _ _ _ _ A5 c5 w6 ((hR5.below hg (Nat.le_refl _)).more (Below.size hg)) hS

set_option maxRecDepth 100000 in
set_option maxHeartbeats 4000000 in
theorem saReg25 {t : Tk} {ys : List Int} {A : Option Addr} {c B q : Nat} {W : World} (b : Blk W q 23 (tkC t)) (HI : Hid (∀ w', Gr W w' → InOk ys A c B w')) (HA : Hid (A = none → c = 0)) {t0 t2 t4 t5 t6 t7 t8 t9 t10 t11 t12 t13 t14 t15 t16 t17 t18 t19 t20 t21 t22 t23 t24 t25 t26 t27 t28 t29 t30 t31 t32 t33 t34 t35 t36 t37 t38 t39 t40 t41 t42 t43 t44 t45 t46 t47 t48 t49 t50 t51 t52 t53 t54 t55 t56 t57 t58 t59 t60 t61 t62 t63 t64 t65 t66 t67 t68 t69 t70 t71 t72 t73 t74 t75 t76 t77 t78 t79 t80 t81 t82 t83 t84 t85 t86 t87 t88 t89 t90 t91 t92 t93 t94 t95 t96 t97 t98 t99 t100 t101 t102 t103 t104 t105 t106 t107 t108 t109 t110 t111 t112 t113 t114 t115 t116 t117 t118 t119 t120 t121 t122 t123 t124 t125 t126 t127 t128 t129 t130 t131 t132 t133 t134 t135 t136 t137 t138 t139 t140 t141 t142 t143 t144 t145 t146 t147 t148 t149 t150 t151 t152 t153 t154 t155 t156 t157 t158 t159 t160 t161 t162 t163 t164 t165 t166 t167 t168 t169 t170 t171 t172 t173 t174 t175 t176 t177 t178 t179 t180 t181 t182 t183 t184 t185 t186 t187 t188 t189 t190 t191 t192 t193 t194 t195 t196 t197 t198 t199 t200 t201 t202 t203 : Value} {ds : List Deferred} (Q : Exit → Act → World → Prop)
    (h : ∀ (t133 t134 t135 t136 t137 t138 t139 : Value) (A5 : Option Addr) (c5 : Nat) (w' : World), Row w' w'.heap.size 2 A5 (anewR t ys).length (rngsC (anewR t ys)) → Gr W w' → Q .normal ⟨#[t0, .slice A ys.length c, t2, .pointer (some ⟨q, 0, none⟩), t4, t5, t6, t7, t8, t9, t10, t11, t12, t13, t14, t15, t16, t17, t18, t19, .slice A5 (anewR t ys).length c5, .int .i64 (openE t ys), t22, t23, t24, t25, t26, t27, t28, t29, t30, t31, t32, t33, t34, t35, t36, t37, t38, t39, t40, t41, t42, t43, t44, t45, t46, t47, t48, t49, t50, t51, t52, t53, t54, t55, t56, t57, t58, t59, t60, t61, t62, t63, t64, t65, t66, t67, t68, t69, t70, t71, t72, t73, t74, t75, t76, t77, t78, t79, t80, t81, t82, t83, t84, t85, t86, t87, t88, t89, t90, t91, t92, t93, t94, t95, t96, t97, t98, t99, t100, t101, t102, t103, t104, t105, t106, t107, t108, t109, t110, t111, t112, t113, t114, t115, t116, t117, t118, t119, t120, t121, t122, t123, t124, t125, t126, t127, t128, t129, t130, t131, t132, t133, t134, t135, t136, t137, t138, t139, t140, t141, t142, t143, t144, t145, t146, t147, t148, t149, t150, t151, t152, t153, t154, t155, t156, t157, t158, t159, t160, t161, t162, t163, t164, t165, t166, t167, t168, t169, t170, t171, t172, t173, t174, t175, t176, t177, t178, t179, t180, t181, t182, t183, t184, t185, t186, t187, t188, t189, t190, t191, t192, t193, t194, t195, t196, t197, t198, t199, t200, t201, t202, t203], ds⟩ w') :
    (regOf Tryd.f3 25).wp Tryd.prog Q ⟨#[t0, .slice A ys.length c, t2, .pointer (some ⟨q, 0, none⟩), t4, t5, t6, t7, t8, t9, t10, t11, t12, t13, t14, t15, t16, t17, t18, t19, t20, t21, t22, t23, t24, t25, t26, t27, t28, t29, t30, t31, t32, t33, t34, t35, t36, t37, t38, t39, t40, t41, t42, t43, t44, t45, t46, t47, t48, t49, t50, t51, t52, t53, t54, t55, t56, t57, t58, t59, t60, t61, t62, t63, t64, t65, t66, t67, t68, t69, t70, t71, t72, t73, t74, t75, t76, t77, t78, t79, t80, t81, t82, t83, t84, t85, t86, t87, t88, t89, t90, t91, t92, t93, t94, t95, t96, t97, t98, t99, t100, t101, t102, t103, t104, t105, t106, t107, t108, t109, t110, t111, t112, t113, t114, t115, t116, t117, t118, t119, t120, t121, t122, t123, t124, t125, t126, t127, t128, t129, t130, t131, t132, t133, t134, t135, t136, t137, t138, t139, t140, t141, t142, t143, t144, t145, t146, t147, t148, t149, t150, t151, t152, t153, t154, t155, t156, t157, t158, t159, t160, t161, t162, t163, t164, t165, t166, t167, t168, t169, t170, t171, t172, t173, t174, t175, t176, t177, t178, t179, t180, t181, t182, t183, t184, t185, t186, t187, t188, t189, t190, t191, t192, t193, t194, t195, t196, t197, t198, t199, t200, t201, t202, t203], ds⟩ W := by
  dsimp only at h ⊢
  have H := Lib.hid h; clear h
  unfold tkC at b
  obtain ⟨d0, d1, d2, d3, df⟩ := blk4 b
  have lb := b.lt
  clear b
  conv in (regOf _ _) => whnf
  refine wp_region_w (Gr _) (by kernel_rfl) (Below.refl _ _).drew ?_
  refine wpW_det (t' := ?ct0R3) 0 (by rfl) (by kernel_rfl) (NQ_free _) (by kernel_rfl) ?cw0R3 ?ch0R3 ?ca0R3 (Eq.refl _) ?cH0R3
  case cw0R3 => (go_simp; done)
  case ch0R3 =>
    intro ds w' hS K hK
    have hc := (bcell hS).1
    have hf := (bcell hS).2
    have hz := hS.size
    try simp at hz
    go_simp
    try go_bits
    first
      | exact hK _ hS (Gr.refl _)
      | exact hK _ (by repeat (first | (with_reducible exact Below.refl _ _) | (with_reducible assumption) | ((with_reducible refine Below.setCell ?_ ?_ _); rotate_left; · (first | exact Nat.le_refl _ | (simp; done) | (simp; omega) | omega)) | ((with_reducible refine Below.alloc ?_ ?_ _); rotate_left; · (first | exact Nat.le_refl _ | (simp; done) | (simp; omega) | omega)) | (with_reducible apply Below.drew) | (with_reducible apply below_drewN') | (refine Below.trans ?_ (Below.mono (by assumption) (by first | exact Nat.le_refl _ | (simp; done) | (simp; omega) | omega))) | exact Below.refl _ _ | assumption)) (by repeat (first | (with_reducible exact Below.refl _ _) | (with_reducible assumption) | ((with_reducible refine Below.setCell ?_ ?_ _); rotate_left; · (first | exact Nat.le_refl _ | (simp; done) | (simp; omega) | omega)) | ((with_reducible refine Below.alloc ?_ ?_ _); rotate_left; · (first | exact Nat.le_refl _ | (simp; done) | (simp; omega) | omega)) | (with_reducible apply Below.drew) | (with_reducible apply below_drewN') | (refine Below.trans ?_ (Below.mono (by assumption) (by first | exact Nat.le_refl _ | (simp; done) | (simp; omega) | omega))) | exact Below.refl _ _ | assumption))
  case ca0R3 => (first | (simp [Act.put]; done) | (simp [Act.put, *]; done))
  try dsimp only
  refine wpW_det (t' := ?ct1R3) 1 (by rfl) (by kernel_rfl) (NQ_free _) (by kernel_rfl) ?cw1R3 ?ch1R3 ?ca1R3 (Eq.refl _) ?cH1R3
  case cw1R3 => (go_simp; done)
  case ch1R3 =>
    intro ds w' hS K hK
    have hc := (bcell hS).1
    have hf := (bcell hS).2
    have hz := hS.size
    try simp at hz
    go_simp
    try go_bits
    first
      | exact hK _ hS (Gr.refl _)
      | exact hK _ (by repeat (first | (with_reducible exact Below.refl _ _) | (with_reducible assumption) | ((with_reducible refine Below.setCell ?_ ?_ _); rotate_left; · (first | exact Nat.le_refl _ | (simp; done) | (simp; omega) | omega)) | ((with_reducible refine Below.alloc ?_ ?_ _); rotate_left; · (first | exact Nat.le_refl _ | (simp; done) | (simp; omega) | omega)) | (with_reducible apply Below.drew) | (with_reducible apply below_drewN') | (refine Below.trans ?_ (Below.mono (by assumption) (by first | exact Nat.le_refl _ | (simp; done) | (simp; omega) | omega))) | exact Below.refl _ _ | assumption)) (by repeat (first | (with_reducible exact Below.refl _ _) | (with_reducible assumption) | ((with_reducible refine Below.setCell ?_ ?_ _); rotate_left; · (first | exact Nat.le_refl _ | (simp; done) | (simp; omega) | omega)) | ((with_reducible refine Below.alloc ?_ ?_ _); rotate_left; · (first | exact Nat.le_refl _ | (simp; done) | (simp; omega) | omega)) | (with_reducible apply Below.drew) | (with_reducible apply below_drewN') | (refine Below.trans ?_ (Below.mono (by assumption) (by first | exact Nat.le_refl _ | (simp; done) | (simp; omega) | omega))) | exact Below.refl _ _ | assumption))
  case ca1R3 => (first | (simp [Act.put]; done) | (simp [Act.put, *]; done))
  try dsimp only
  refine wpW_branch [2] (by kernel_rfl) (by simp) ?_
  intro w2 hg_w2 hS_w2
  refine each_cons ?_ each_nil
  refine wpOp_go (by rfl) (Eq.refl _) (by go_simp; done) ?_
  intro K hK
  go_simp
  try simp only [Act.put]
  refine (copyInts_any ys A c B w2 (HI.out _ hS_w2) HA.out).mono ?_
  rintro e w3 ⟨v, rfl, own3, hB3⟩
  obtain ⟨A3, c3, rfl, hR3⟩ := Row.own own3
  have hS3 : Gr W w3 := Below.trans hS_w2 (hB3.mono (Below.size hS_w2))
  refine hK _ _ hS3 ?_
  clear hK K own3 hB3 hS_w2 hg_w2
  refine wpW_branch [3] (by kernel_rfl) (by simp) ?_
  intro w4 hg_w4 hS_w4
  refine each_cons ?_ each_nil
  refine wpOp_go (by rfl) (Eq.refl _) (by go_simp; done) ?_
  intro K hK
  go_simp
  try simp only [Act.put]
  refine (anew_any t ys A3 c3 w3.heap.size w4 ⟨(HI.out _ (Gr.refl _)).len, (HI.out _ (Gr.refl _)).i64, hR3.below hg_w4 (Nat.le_refl _), Below.size hg_w4⟩).mono ?_
  rintro e w5 ⟨v, rfl, own5, hB5⟩
  obtain ⟨A5, c5, rfl, hR5⟩ := Row.own own5
  have hS5 : Gr W w5 := Below.trans hS_w4 (hB5.mono (Below.size hS_w4))
  refine hK _ _ hS5 ?_
  clear hK K own5 hB5 hS_w4 hg_w4 hR3 hS3
  refine wpW_det (t' := ?ct4R4) 4 (by rfl) (by kernel_rfl) (NQ_free _) (by kernel_rfl) ?cw4R4 ?ch4R4 ?ca4R4 (Eq.refl _) ?cH4R4
  case cw4R4 => (go_simp; done)
  case ch4R4 =>
    intro ds w' hS K hK
    have hc := (bcell hS).1
    have hf := (bcell hS).2
    have hz := hS.size
    try simp at hz
    go_simp
    try go_bits
    first
      | exact hK _ hS (Gr.refl _)
      | exact hK _ (by repeat (first | (with_reducible exact Below.refl _ _) | (with_reducible assumption) | ((with_reducible refine Below.setCell ?_ ?_ _); rotate_left; · (first | exact Nat.le_refl _ | (simp; done) | (simp; omega) | omega)) | ((with_reducible refine Below.alloc ?_ ?_ _); rotate_left; · (first | exact Nat.le_refl _ | (simp; done) | (simp; omega) | omega)) | (with_reducible apply Below.drew) | (with_reducible apply below_drewN') | (refine Below.trans ?_ (Below.mono (by assumption) (by first | exact Nat.le_refl _ | (simp; done) | (simp; omega) | omega))) | exact Below.refl _ _ | assumption)) (by repeat (first | (with_reducible exact Below.refl _ _) | (with_reducible assumption) | ((with_reducible refine Below.setCell ?_ ?_ _); rotate_left; · (first | exact Nat.le_refl _ | (simp; done) | (simp; omega) | omega)) | ((with_reducible refine Below.alloc ?_ ?_ _); rotate_left; · (first | exact Nat.le_refl _ | (simp; done) | (simp; omega) | omega)) | (with_reducible apply Below.drew) | (with_reducible apply below_drewN') | (refine Below.trans ?_ (Below.mono (by assumption) (by first | exact Nat.le_refl _ | (simp; done) | (simp; omega) | omega))) | exact Below.refl _ _ | assumption))
  case ca4R4 => (first | (simp [Act.put]; done) | (simp [Act.put, *]; done))
  try dsimp only
  refine wpW_det (t' := ?ct5R4) 5 (by rfl) (by kernel_rfl) (NQ_free _) (by kernel_rfl) ?cw5R4 ?ch5R4 ?ca5R4 (Eq.refl _) ?cH5R4
  case cw5R4 => (go_simp; done)
  case ch5R4 =>
    intro ds w' hS K hK
    have hc := (bcell hS).1
    have hf := (bcell hS).2
    have hz := hS.size
    try simp at hz
    go_simp
    try go_bits
    first
      | exact hK _ hS (Gr.refl _)
      | exact hK _ (by repeat (first | (with_reducible exact Below.refl _ _) | (with_reducible assumption) | ((with_reducible refine Below.setCell ?_ ?_ _); rotate_left; · (first | exact Nat.le_refl _ | (simp; done) | (simp; omega) | omega)) | ((with_reducible refine Below.alloc ?_ ?_ _); rotate_left; · (first | exact Nat.le_refl _ | (simp; done) | (simp; omega) | omega)) | (with_reducible apply Below.drew) | (with_reducible apply below_drewN') | (refine Below.trans ?_ (Below.mono (by assumption) (by first | exact Nat.le_refl _ | (simp; done) | (simp; omega) | omega))) | exact Below.refl _ _ | assumption)) (by repeat (first | (with_reducible exact Below.refl _ _) | (with_reducible assumption) | ((with_reducible refine Below.setCell ?_ ?_ _); rotate_left; · (first | exact Nat.le_refl _ | (simp; done) | (simp; omega) | omega)) | ((with_reducible refine Below.alloc ?_ ?_ _); rotate_left; · (first | exact Nat.le_refl _ | (simp; done) | (simp; omega) | omega)) | (with_reducible apply Below.drew) | (with_reducible apply below_drewN') | (refine Below.trans ?_ (Below.mono (by assumption) (by first | exact Nat.le_refl _ | (simp; done) | (simp; omega) | omega))) | exact Below.refl _ _ | assumption))
  case ca5R4 => (first | (simp [Act.put]; done) | (simp [Act.put, *]; done))
  try dsimp only
  refine wpW_det (t' := ?ct6R4) 6 (by rfl) (by kernel_rfl) (NQ_free _) (by kernel_rfl) ?cw6R4 ?ch6R4 ?ca6R4 (Eq.refl _) ?cH6R4
  case cw6R4 => (go_simp; done)
  case ch6R4 =>
    intro ds w' hS K hK
    have hc := (bcell hS).1
    have hf := (bcell hS).2
    have hz := hS.size
    try simp at hz
    go_simp
    try go_bits
    first
      | exact hK _ hS (Gr.refl _)
      | exact hK _ (by repeat (first | (with_reducible exact Below.refl _ _) | (with_reducible assumption) | ((with_reducible refine Below.setCell ?_ ?_ _); rotate_left; · (first | exact Nat.le_refl _ | (simp; done) | (simp; omega) | omega)) | ((with_reducible refine Below.alloc ?_ ?_ _); rotate_left; · (first | exact Nat.le_refl _ | (simp; done) | (simp; omega) | omega)) | (with_reducible apply Below.drew) | (with_reducible apply below_drewN') | (refine Below.trans ?_ (Below.mono (by assumption) (by first | exact Nat.le_refl _ | (simp; done) | (simp; omega) | omega))) | exact Below.refl _ _ | assumption)) (by repeat (first | (with_reducible exact Below.refl _ _) | (with_reducible assumption) | ((with_reducible refine Below.setCell ?_ ?_ _); rotate_left; · (first | exact Nat.le_refl _ | (simp; done) | (simp; omega) | omega)) | ((with_reducible refine Below.alloc ?_ ?_ _); rotate_left; · (first | exact Nat.le_refl _ | (simp; done) | (simp; omega) | omega)) | (with_reducible apply Below.drew) | (with_reducible apply below_drewN') | (refine Below.trans ?_ (Below.mono (by assumption) (by first | exact Nat.le_refl _ | (simp; done) | (simp; omega) | omega))) | exact Below.refl _ _ | assumption))
  case ca6R4 => (first | (simp [Act.put]; done) | (simp [Act.put, *]; done))
  try dsimp only
  refine wpW_det (t' := ?ct7R4) 7 (by rfl) (by kernel_rfl) (NQ_free _) (by kernel_rfl) ?cw7R4 ?ch7R4 ?ca7R4 (Eq.refl _) ?cH7R4
  case cw7R4 => (go_simp; done)
  case ch7R4 =>
    intro ds w' hS K hK
    have hc := (bcell hS).1
    have hf := (bcell hS).2
    have hz := hS.size
    try simp at hz
    go_simp
    try go_bits
    first
      | exact hK _ hS (Gr.refl _)
      | exact hK _ (by repeat (first | (with_reducible exact Below.refl _ _) | (with_reducible assumption) | ((with_reducible refine Below.setCell ?_ ?_ _); rotate_left; · (first | exact Nat.le_refl _ | (simp; done) | (simp; omega) | omega)) | ((with_reducible refine Below.alloc ?_ ?_ _); rotate_left; · (first | exact Nat.le_refl _ | (simp; done) | (simp; omega) | omega)) | (with_reducible apply Below.drew) | (with_reducible apply below_drewN') | (refine Below.trans ?_ (Below.mono (by assumption) (by first | exact Nat.le_refl _ | (simp; done) | (simp; omega) | omega))) | exact Below.refl _ _ | assumption)) (by repeat (first | (with_reducible exact Below.refl _ _) | (with_reducible assumption) | ((with_reducible refine Below.setCell ?_ ?_ _); rotate_left; · (first | exact Nat.le_refl _ | (simp; done) | (simp; omega) | omega)) | ((with_reducible refine Below.alloc ?_ ?_ _); rotate_left; · (first | exact Nat.le_refl _ | (simp; done) | (simp; omega) | omega)) | (with_reducible apply Below.drew) | (with_reducible apply below_drewN') | (refine Below.trans ?_ (Below.mono (by assumption) (by first | exact Nat.le_refl _ | (simp; done) | (simp; omega) | omega))) | exact Below.refl _ _ | assumption))
  case ca7R4 => (first | (simp [Act.put]; done) | (simp [Act.put, *]; done))
  try dsimp only
  refine wpW_det (t' := ?ct8R4) 8 (by rfl) (by kernel_rfl) (NQ_free _) (by kernel_rfl) ?cw8R4 ?ch8R4 ?ca8R4 (Eq.refl _) ?cH8R4
  case cw8R4 => (go_simp; done)
  case ch8R4 =>
    intro ds w' hS K hK
    have hc := (bcell hS).1
    have hf := (bcell hS).2
    have hz := hS.size
    try simp at hz
    go_simp
    try go_bits
    first
      | exact hK _ hS (Gr.refl _)
      | exact hK _ (by repeat (first | (with_reducible exact Below.refl _ _) | (with_reducible assumption) | ((with_reducible refine Below.setCell ?_ ?_ _); rotate_left; · (first | exact Nat.le_refl _ | (simp; done) | (simp; omega) | omega)) | ((with_reducible refine Below.alloc ?_ ?_ _); rotate_left; · (first | exact Nat.le_refl _ | (simp; done) | (simp; omega) | omega)) | (with_reducible apply Below.drew) | (with_reducible apply below_drewN') | (refine Below.trans ?_ (Below.mono (by assumption) (by first | exact Nat.le_refl _ | (simp; done) | (simp; omega) | omega))) | exact Below.refl _ _ | assumption)) (by repeat (first | (with_reducible exact Below.refl _ _) | (with_reducible assumption) | ((with_reducible refine Below.setCell ?_ ?_ _); rotate_left; · (first | exact Nat.le_refl _ | (simp; done) | (simp; omega) | omega)) | ((with_reducible refine Below.alloc ?_ ?_ _); rotate_left; · (first | exact Nat.le_refl _ | (simp; done) | (simp; omega) | omega)) | (with_reducible apply Below.drew) | (with_reducible apply below_drewN') | (refine Below.trans ?_ (Below.mono (by assumption) (by first | exact Nat.le_refl _ | (simp; done) | (simp; omega) | omega))) | exact Below.refl _ _ | assumption))
  case ca8R4 => (first | (simp [Act.put]; done) | (simp [Act.put, *]; done))
  try dsimp only
  refine wpW_end (by kernel_rfl) ?_
  intro w6 hg hS
  unfold NQ
  dsimp only
  exact H.out _ _ _ _ _ _ _ A5 c5 w6 ((hR5.below hg (Nat.le_refl _)).more (Below.size hg)) hS

set_option maxRecDepth 100000 in
set_option maxHeartbeats 4000000 in
theorem saReg24 {t : Tk} {ys : List Int} {A : Option Addr} {c B q n c4 : Nat} {A4 : Option Addr} {W : World} (b : Blk W q 23 (tkC t)) (HI : Hid (∀ w', Gr W w' → InOk ys A c B w')) (HA : Hid (A = none → c = 0)) (hn : ys.length ≤ n) (hc : n ≤ c) {t0 t2 t4 t5 t6 t7 t8 t9 t10 t11 t12 t13 t15 t16 t17 t18 t19 t20 t21 t22 t23 t24 t25 t26 t27 t28 t29 t30 t31 t32 t33 t34 t35 t36 t37 t38 t39 t40 t41 t42 t43 t44 t45 t46 t47 t48 t49 t50 t51 t52 t53 t54 t55 t56 t57 t58 t59 t60 t61 t62 t63 t64 t65 t66 t67 t68 t69 t70 t71 t72 t73 t74 t75 t76 t77 t78 t79 t80 t81 t82 t83 t84 t85 t86 t87 t88 t89 t90 t91 t92 t93 t94 t95 t96 t97 t98 t99 t100 t101 t102 t103 t104 t105 t106 t107 t108 t109 t110 t111 t112 t113 t114 t115 t116 t117 t118 t119 t120 t121 t122 t123 t124 t125 t126 t127 t128 t129 t130 t131 t132 t133 t134 t135 t136 t137 t138 t139 t140 t141 t142 t143 t144 t145 t146 t147 t148 t149 t150 t151 t152 t153 t154 t155 t156 t157 t158 t159 t160 t161 t162 t163 t164 t165 t166 t167 t168 t169 t170 t171 t172 t173 t174 t175 t176 t177 t178 t179 t180 t181 t182 t183 t184 t185 t186 t187 t188 t189 t190 t191 t192 t193 t194 t195 t196 t197 t198 t199 t200 t201 t202 t203 : Value} {ds : List Deferred} (Q : Exit → Act → World → Prop)
    (h : ∀ (t123 t124 t125 t126 t127 t128 t129 t130 t131 t132 : Value) (A5 : Option Addr) (c5 : Nat) (w' : World), Row w' w'.heap.size 2 A5 (anewR t ys).length (rngsC (anewR t ys)) → Gr W w' → Q .normal ⟨#[t0, .slice A n c, t2, .pointer (some ⟨q, 0, none⟩), t4, t5, t6, t7, t8, t9, t10, t11, t12, t13, .slice A4 ys.length c4, t15, t16, t17, .slice A5 (anewR t ys).length c5, .int .i64 (openE t ys), t20, t21, t22, t23, t24, t25, t26, t27, t28, t29, t30, t31, t32, t33, t34, t35, t36, t37, t38, t39, t40, t41, t42, t43, t44, t45, t46, t47, t48, t49, t50, t51, t52, t53, t54, t55, t56, t57, t58, t59, t60, t61, t62, t63, t64, t65, t66, t67, t68, t69, t70, t71, t72, t73, t74, t75, t76, t77, t78, t79, t80, t81, t82, t83, t84, t85, t86, t87, t88, t89, t90, t91, t92, t93, t94, t95, t96, t97, t98, t99, t100, t101, t102, t103, t104, t105, t106, t107, t108, t109, t110, t111, t112, t113, t114, t115, t116, t117, t118, t119, t120, t121, t122, t123, t124, t125, t126, t127, t128, t129, t130, t131, t132, t133, t134, t135, t136, t137, t138, t139, t140, t141, t142, t143, t144, t145, t146, t147, t148, t149, t150, t151, t152, t153, t154, t155, t156, t157, t158, t159, t160, t161, t162, t163, t164, t165, t166, t167, t168, t169, t170, t171, t172, t173, t174, t175, t176, t177, t178, t179, t180, t181, t182, t183, t184, t185, t186, t187, t188, t189, t190, t191, t192, t193, t194, t195, t196, t197, t198, t199, t200, t201, t202, t203], ds⟩ w') :
    (regOf Tryd.f3 24).wp Tryd.prog Q ⟨#[t0, .slice A n c, t2, .pointer (some ⟨q, 0, none⟩), t4, t5, t6, t7, t8, t9, t10, t11, t12, t13, .slice A4 ys.length c4, t15, t16, t17, t18, t19, t20, t21, t22, t23, t24, t25, t26, t27, t28, t29, t30, t31, t32, t33, t34, t35, t36, t37, t38, t39, t40, t41, t42, t43, t44, t45, t46, t47, t48, t49, t50, t51, t52, t53, t54, t55, t56, t57, t58, t59, t60, t61, t62, t63, t64, t65, t66, t67, t68, t69, t70, t71, t72, t73, t74, t75, t76, t77, t78, t79, t80, t81, t82, t83, t84, t85, t86, t87, t88, t89, t90, t91, t92, t93, t94, t95, t96, t97, t98, t99, t100, t101, t102, t103, t104, t105, t106, t107, t108, t109, t110, t111, t112, t113, t114, t115, t116, t117, t118, t119, t120, t121, t122, t123, t124, t125, t126, t127, t128, t129, t130, t131, t132, t133, t134, t135, t136, t137, t138, t139, t140, t141, t142, t143, t144, t145, t146, t147, t148, t149, t150, t151, t152, t153, t154, t155, t156, t157, t158, t159, t160, t161, t162, t163, t164, t165, t166, t167, t168, t169, t170, t171, t172, t173, t174, t175, t176, t177, t178, t179, t180, t181, t182, t183, t184, t185, t186, t187, t188, t189, t190, t191, t192, t193, t194, t195, t196, t197, t198, t199, t200, t201, t202, t203], ds⟩ W := by
  dsimp only at h ⊢
  have H := Lib.hid h; clear h
  unfold tkC at b
  obtain ⟨d0, d1, d2, d3, df⟩ := blk4 b
  have lb := b.lt
  clear b
  have k0 : (0 : Int) ≤ (ys.length : Int) := by omega
  have k1 : (ys.length : Int) ≤ (n : Int) := by omega
  have k2 : (ys.length : Int) ≤ (c : Int) := by omega
  conv in (regOf _ _) => whnf
  refine wp_region_w (Gr _) (by kernel_rfl) (Below.refl _ _).drew ?_
  refine wpW_det (t' := ?ct0R5) 0 (by rfl) (by kernel_rfl) (NQ_free _) (by kernel_rfl) ?cw0R5 ?ch0R5 ?ca0R5 (Eq.refl _) ?cH0R5
  case cw0R5 => (go_simp; done)
  case ch0R5 =>
    intro ds w' hS K hK
    have hc := (bcell hS).1
    have hf := (bcell hS).2
    have hz := hS.size
    try simp at hz
    go_simp
    try go_bits
    first
      | exact hK _ hS (Gr.refl _)
      | exact hK _ (by repeat (first | (with_reducible exact Below.refl _ _) | (with_reducible assumption) | ((with_reducible refine Below.setCell ?_ ?_ _); rotate_left; · (first | exact Nat.le_refl _ | (simp; done) | (simp; omega) | omega)) | ((with_reducible refine Below.alloc ?_ ?_ _); rotate_left; · (first | exact Nat.le_refl _ | (simp; done) | (simp; omega) | omega)) | (with_reducible apply Below.drew) | (with_reducible apply below_drewN') | (refine Below.trans ?_ (Below.mono (by assumption) (by first | exact Nat.le_refl _ | (simp; done) | (simp; omega) | omega))) | exact Below.refl _ _ | assumption)) (by repeat (first | (with_reducible exact Below.refl _ _) | (with_reducible assumption) | ((with_reducible refine Below.setCell ?_ ?_ _); rotate_left; · (first | exact Nat.le_refl _ | (simp; done) | (simp; omega) | omega)) | ((with_reducible refine Below.alloc ?_ ?_ _); rotate_left; · (first | exact Nat.le_refl _ | (simp; done) | (simp; omega) | omega)) | (with_reducible apply Below.drew) | (with_reducible apply below_drewN') | (refine Below.trans ?_ (Below.mono (by assumption) (by first | exact Nat.le_refl _ | (simp; done) | (simp; omega) | omega))) | exact Below.refl _ _ | assumption))
  case ca0R5 => (first | (simp [Act.put]; done) | (simp [Act.put, *]; done))
  try dsimp only
  refine wpW_det (t' := ?ct1R5) 1 (by rfl) (by kernel_rfl) (NQ_free _) (by kernel_rfl) ?cw1R5 ?ch1R5 ?ca1R5 (Eq.refl _) ?cH1R5
  case cw1R5 => (go_simp; done)
  case ch1R5 =>
    intro ds w' hS K hK
    have hc := (bcell hS).1
    have hf := (bcell hS).2
    have hz := hS.size
    try simp at hz
    go_simp
    try go_bits
    first
      | exact hK _ hS (Gr.refl _)
      | exact hK _ (by repeat (first | (with_reducible exact Below.refl _ _) | (with_reducible assumption) | ((with_reducible refine Below.setCell ?_ ?_ _); rotate_left; · (first | exact Nat.le_refl _ | (simp; done) | (simp; omega) | omega)) | ((with_reducible refine Below.alloc ?_ ?_ _); rotate_left; · (first | exact Nat.le_refl _ | (simp; done) | (simp; omega) | omega)) | (with_reducible apply Below.drew) | (with_reducible apply below_drewN') | (refine Below.trans ?_ (Below.mono (by assumption) (by first | exact Nat.le_refl _ | (simp; done) | (simp; omega) | omega))) | exact Below.refl _ _ | assumption)) (by repeat (first | (with_reducible exact Below.refl _ _) | (with_reducible assumption) | ((with_reducible refine Below.setCell ?_ ?_ _); rotate_left; · (first | exact Nat.le_refl _ | (simp; done) | (simp; omega) | omega)) | ((with_reducible refine Below.alloc ?_ ?_ _); rotate_left; · (first | exact Nat.le_refl _ | (simp; done) | (simp; omega) | omega)) | (with_reducible apply Below.drew) | (with_reducible apply below_drewN') | (refine Below.trans ?_ (Below.mono (by assumption) (by first | exact Nat.le_refl _ | (simp; done) | (simp; omega) | omega))) | exact Below.refl _ _ | assumption))
  case ca1R5 => (first | (simp [Act.put]; done) | (simp [Act.put, *]; done))
  try dsimp only
  refine wpW_det (t' := ?ct2R5) 2 (by rfl) (by kernel_rfl) (NQ_free _) (by kernel_rfl) ?cw2R5 ?ch2R5 ?ca2R5 (Eq.refl _) ?cH2R5
  case cw2R5 => (go_simp; done)
  case ch2R5 =>
    intro ds w' hS K hK
    have hc := (bcell hS).1
    have hf := (bcell hS).2
    have hz := hS.size
    try simp at hz
    go_simp
    try go_bits
    first
      | exact hK _ hS (Gr.refl _)
      | exact hK _ (by repeat (first | (with_reducible exact Below.refl _ _) | (with_reducible assumption) | ((with_reducible refine Below.setCell ?_ ?_ _); rotate_left; · (first | exact Nat.le_refl _ | (simp; done) | (simp; omega) | omega)) | ((with_reducible refine Below.alloc ?_ ?_ _); rotate_left; · (first | exact Nat.le_refl _ | (simp; done) | (simp; omega) | omega)) | (with_reducible apply Below.drew) | (with_reducible apply below_drewN') | (refine Below.trans ?_ (Below.mono (by assumption) (by first | exact Nat.le_refl _ | (simp; done) | (simp; omega) | omega))) | exact Below.refl _ _ | assumption)) (by repeat (first | (with_reducible exact Below.refl _ _) | (with_reducible assumption) | ((with_reducible refine Below.setCell ?_ ?_ _); rotate_left; · (first | exact Nat.le_refl _ | (simp; done) | (simp; omega) | omega)) | ((with_reducible refine Below.alloc ?_ ?_ _); rotate_left; · (first | exact Nat.le_refl _ | (simp; done) | (simp; omega) | omega)) | (with_reducible apply Below.drew) | (with_reducible apply below_drewN') | (refine Below.trans ?_ (Below.mono (by assumption) (by first | exact Nat.le_refl _ | (simp; done) | (simp; omega) | omega))) | exact Below.refl _ _ | assumption))
  case ca2R5 => (first | (simp [Act.put]; done) | (simp [Act.put, *]; done))
  try dsimp only
  refine wpW_det (t' := ?ct3R5) 3 (by rfl) (by kernel_rfl) (NQ_free _) (by kernel_rfl) ?cw3R5 ?ch3R5 ?ca3R5 (Eq.refl _) ?cH3R5
  case cw3R5 => (go_simp; done)
  case ch3R5 =>
    intro ds w' hS K hK
    have hc := (bcell hS).1
    have hf := (bcell hS).2
    have hz := hS.size
    try simp at hz
    go_simp
    try go_bits
    first
      | exact hK _ hS (Gr.refl _)
      | exact hK _ (by repeat (first | (with_reducible exact Below.refl _ _) | (with_reducible assumption) | ((with_reducible refine Below.setCell ?_ ?_ _); rotate_left; · (first | exact Nat.le_refl _ | (simp; done) | (simp; omega) | omega)) | ((with_reducible refine Below.alloc ?_ ?_ _); rotate_left; · (first | exact Nat.le_refl _ | (simp; done) | (simp; omega) | omega)) | (with_reducible apply Below.drew) | (with_reducible apply below_drewN') | (refine Below.trans ?_ (Below.mono (by assumption) (by first | exact Nat.le_refl _ | (simp; done) | (simp; omega) | omega))) | exact Below.refl _ _ | assumption)) (by repeat (first | (with_reducible exact Below.refl _ _) | (with_reducible assumption) | ((with_reducible refine Below.setCell ?_ ?_ _); rotate_left; · (first | exact Nat.le_refl _ | (simp; done) | (simp; omega) | omega)) | ((with_reducible refine Below.alloc ?_ ?_ _); rotate_left; · (first | exact Nat.le_refl _ | (simp; done) | (simp; omega) | omega)) | (with_reducible apply Below.drew) | (with_reducible apply below_drewN') | (refine Below.trans ?_ (Below.mono (by assumption) (by first | exact Nat.le_refl _ | (simp; done) | (simp; omega) | omega))) | exact Below.refl _ _ | assumption))
  case ca3R5 => (first | (simp [Act.put]; done) | (simp [Act.put, *]; done))
  try dsimp only
  refine wpW_det (t' := ?ct4R5) 4 (by rfl) (by kernel_rfl) (NQ_free _) (by kernel_rfl) ?cw4R5 ?ch4R5 ?ca4R5 (Eq.refl _) ?cH4R5
  case cw4R5 => (go_simp; done)
  case ch4R5 =>
    intro ds w' hS K hK
    have hc := (bcell hS).1
    have hf := (bcell hS).2
    have hz := hS.size
    try simp at hz
    go_simp
    try go_bits
    first
      | exact hK _ hS (Gr.refl _)
      | exact hK _ (by repeat (first | (with_reducible exact Below.refl _ _) | (with_reducible assumption) | ((with_reducible refine Below.setCell ?_ ?_ _); rotate_left; · (first | exact Nat.le_refl _ | (simp; done) | (simp; omega) | omega)) | ((with_reducible refine Below.alloc ?_ ?_ _); rotate_left; · (first | exact Nat.le_refl _ | (simp; done) | (simp; omega) | omega)) | (with_reducible apply Below.drew) | (with_reducible apply below_drewN') | (refine Below.trans ?_ (Below.mono (by assumption) (by first | exact Nat.le_refl _ | (simp; done) | (simp; omega) | omega))) | exact Below.refl _ _ | assumption)) (by repeat (first | (with_reducible exact Below.refl _ _) | (with_reducible assumption) | ((with_reducible refine Below.setCell ?_ ?_ _); rotate_left; · (first | exact Nat.le_refl _ | (simp; done) | (simp; omega) | omega)) | ((with_reducible refine Below.alloc ?_ ?_ _); rotate_left; · (first | exact Nat.le_refl _ | (simp; done) | (simp; omega) | omega)) | (with_reducible apply Below.drew) | (with_reducible apply below_drewN') | (refine Below.trans ?_ (Below.mono (by assumption) (by first | exact Nat.le_refl _ | (simp; done) | (simp; omega) | omega))) | exact Below.refl _ _ | assumption))
  case ca4R5 => (first | (simp [Act.put]; done) | (simp [Act.put, *]; done))
  try dsimp only
  refine wpW_branch [5] (by kernel_rfl) (by simp) ?_
  intro w2 hg_w2 hS_w2
  refine each_cons ?_ each_nil
  refine wpOp_go (by rfl) (Eq.refl _) (by go_simp; done) ?_
  intro K hK
  go_simp
  try simp only [Act.put]
  refine (copyInts_any ys A c B w2 (HI.out _ hS_w2) HA.out).mono ?_
  rintro e w3 ⟨v, rfl, own3, hB3⟩
  obtain ⟨A3, c3, rfl, hR3⟩ := Row.own own3
  have hS3 : Gr W w3 := Below.trans hS_w2 (hB3.mono (Below.size hS_w2))
  refine hK _ _ hS3 ?_
  clear hK K own3 hB3 hS_w2 hg_w2
  refine wpW_branch [6] (by kernel_rfl) (by simp) ?_
  intro w4 hg_w4 hS_w4
  refine each_cons ?_ each_nil
  refine wpOp_go (by rfl) (Eq.refl _) (by go_simp; done) ?_
  intro K hK
  go_simp
  try simp only [Act.put]
  refine (anew_any t ys A3 c3 w3.heap.size w4 ⟨(HI.out _ (Gr.refl _)).len, (HI.out _ (Gr.refl _)).i64, hR3.below hg_w4 (Nat.le_refl _), Below.size hg_w4⟩).mono ?_
  rintro e w5 ⟨v, rfl, own5, hB5⟩
  obtain ⟨A5, c5, rfl, hR5⟩ := Row.own own5
  have hS5 : Gr W w5 := Below.trans hS_w4 (hB5.mono (Below.size hS_w4))
  refine hK _ _ hS5 ?_
  clear hK K own5 hB5 hS_w4 hg_w4 hR3 hS3
  refine wpW_det (t' := ?ct7R6) 7 (by rfl) (by kernel_rfl) (NQ_free _) (by kernel_rfl) ?cw7R6 ?ch7R6 ?ca7R6 (Eq.refl _) ?cH7R6
  case cw7R6 => (go_simp; done)
  case ch7R6 =>
    intro ds w' hS K hK
    have hc := (bcell hS).1
    have hf := (bcell hS).2
    have hz := hS.size
    try simp at hz
    go_simp
    try go_bits
    first
      | exact hK _ hS (Gr.refl _)
      | exact hK _ (by repeat (first | (with_reducible exact Below.refl _ _) | (with_reducible assumption) | ((with_reducible refine Below.setCell ?_ ?_ _); rotate_left; · (first | exact Nat.le_refl _ | (simp; done) | (simp; omega) | omega)) | ((with_reducible refine Below.alloc ?_ ?_ _); rotate_left; · (first | exact Nat.le_refl _ | (simp; done) | (simp; omega) | omega)) | (with_reducible apply Below.drew) | (with_reducible apply below_drewN') | (refine Below.trans ?_ (Below.mono (by assumption) (by first | exact Nat.le_refl _ | (simp; done) | (simp; omega) | omega))) | exact Below.refl _ _ | assumption)) (by repeat (first | (with_reducible exact Below.refl _ _) | (with_reducible assumption) | ((with_reducible refine Below.setCell ?_ ?_ _); rotate_left; · (first | exact Nat.le_refl _ | (simp; done) | (simp; omega) | omega)) | ((with_reducible refine Below.alloc ?_ ?_ _); rotate_left; · (first | exact Nat.le_refl _ | (simp; done) | (simp; omega) | omega)) | (with_reducible apply Below.drew) | (with_reducible apply below_drewN') | (refine Below.trans ?_ (Below.mono (by assumption) (by first | exact Nat.le_refl _ | (simp; done) | (simp; omega) | omega))) | exact Below.refl _ _ | assumption))
  case ca7R6 => (first | (simp [Act.put]; done) | (simp [Act.put, *]; done))
  try dsimp only
  refine wpW_det (t' := ?ct8R6) 8 (by rfl) (by kernel_rfl) (NQ_free _) (by kernel_rfl) ?cw8R6 ?ch8R6 ?ca8R6 (Eq.refl _) ?cH8R6
  case cw8R6 => (go_simp; done)
  case ch8R6 =>
    intro ds w' hS K hK
    have hc := (bcell hS).1
    have hf := (bcell hS).2
    have hz := hS.size
    try simp at hz
    go_simp
    try go_bits
    first
      | exact hK _ hS (Gr.refl _)
      | exact hK _ (by repeat (first | (with_reducible exact Below.refl _ _) | (with_reducible assumption) | ((with_reducible refine Below.setCell ?_ ?_ _); rotate_left; · (first | exact Nat.le_refl _ | (simp; done) | (simp; omega) | omega)) | ((with_reducible refine Below.alloc ?_ ?_ _); rotate_left; · (first | exact Nat.le_refl _ | (simp; done) | (simp; omega) | omega)) | (with_reducible apply Below.drew) | (with_reducible apply below_drewN') | (refine Below.trans ?_ (Below.mono (by assumption) (by first | exact Nat.le_refl _ | (simp; done) | (simp; omega) | omega))) | exact Below.refl _ _ | assumption)) (by repeat (first | (with_reducible exact Below.refl _ _) | (with_reducible assumption) | ((with_reducible refine Below.setCell ?_ ?_ _); rotate_left; · (first | exact Nat.le_refl _ | (simp; done) | (simp; omega) | omega)) | ((with_reducible refine Below.alloc ?_ ?_ _); rotate_left; · (first | exact Nat.le_refl _ | (simp; done) | (simp; omega) | omega)) | (with_reducible apply Below.drew) | (with_reducible apply below_drewN') | (refine Below.trans ?_ (Below.mono (by assumption) (by first | exact Nat.le_refl _ | (simp; done) | (simp; omega) | omega))) | exact Below.refl _ _ | assumption))
  case ca8R6 => (first | (simp [Act.put]; done) | (simp [Act.put, *]; done))
  try dsimp only
  refine wpW_det (t' := ?ct9R6) 9 (by rfl) (by kernel_rfl) (NQ_free _) (by kernel_rfl) ?cw9R6 ?ch9R6 ?ca9R6 (Eq.refl _) ?cH9R6
  case cw9R6 => (go_simp; done)
  case ch9R6 =>
    intro ds w' hS K hK
    have hc := (bcell hS).1
    have hf := (bcell hS).2
    have hz := hS.size
    try simp at hz
    go_simp
    try go_bits
    first
      | exact hK _ hS (Gr.refl _)
      | exact hK _ (by repeat (first | (with_reducible exact Below.refl _ _) | (with_reducible assumption) | ((with_reducible refine Below.setCell ?_ ?_ _); rotate_left; · (first | exact Nat.le_refl _ | (simp; done) | (simp; omega) | omega)) | ((with_reducible refine Below.alloc ?_ ?_ _); rotate_left; · (first | exact Nat.le_refl _ | (simp; done) | (simp; omega) | omega)) | (with_reducible apply Below.drew) | (with_reducible apply below_drewN') | (refine Below.trans ?_ (Below.mono (by assumption) (by first | exact Nat.le_refl _ | (simp; done) | (simp; omega) | omega))) | exact Below.refl _ _ | assumption)) (by repeat (first | (with_reducible exact Below.refl _ _) | (with_reducible assumption) | ((with_reducible refine Below.setCell ?_ ?_ _); rotate_left; · (first | exact Nat.le_refl _ | (simp; done) | (simp; omega) | omega)) | ((with_reducible refine Below.alloc ?_ ?_ _); rotate_left; · (first | exact Nat.le_refl _ | (simp; done) | (simp; omega) | omega)) | (with_reducible apply Below.drew) | (with_reducible apply below_drewN') | (refine Below.trans ?_ (Below.mono (by assumption) (by first | exact Nat.le_refl _ | (simp; done) | (simp; omega) | omega))) | exact Below.refl _ _ | assumption))
  case ca9R6 => (first | (simp [Act.put]; done) | (simp [Act.put, *]; done))
  try dsimp only
  refine wpW_det (t' := ?ct10R6) 10 (by rfl) (by kernel_rfl) (NQ_free _) (by kernel_rfl) ?cw10R6 ?ch10R6 ?ca10R6 (Eq.refl _) ?cH10R6
  case cw10R6 => (go_simp; done)
  case ch10R6 =>
    intro ds w' hS K hK
    have hc := (bcell hS).1
    have hf := (bcell hS).2
    have hz := hS.size
    try simp at hz
    go_simp
    try go_bits
    first
      | exact hK _ hS (Gr.refl _)
      | exact hK _ (by repeat (first | (with_reducible exact Below.refl _ _) | (with_reducible assumption) | ((with_reducible refine Below.setCell ?_ ?_ _); rotate_left; · (first | exact Nat.le_refl _ | (simp; done) | (simp; omega) | omega)) | ((with_reducible refine Below.alloc ?_ ?_ _); rotate_left; · (first | exact Nat.le_refl _ | (simp; done) | (simp; omega) | omega)) | (with_reducible apply Below.drew) | (with_reducible apply below_drewN') | (refine Below.trans ?_ (Below.mono (by assumption) (by first | exact Nat.le_refl _ | (simp; done) | (simp; omega) | omega))) | exact Below.refl _ _ | assumption)) (by repeat (first | (with_reducible exact Below.refl _ _) | (with_reducible assumption) | ((with_reducible refine Below.setCell ?_ ?_ _); rotate_left; · (first | exact Nat.le_refl _ | (simp; done) | (simp; omega) | omega)) | ((with_reducible refine Below.alloc ?_ ?_ _); rotate_left; · (first | exact Nat.le_refl _ | (simp; done) | (simp; omega) | omega)) | (with_reducible apply Below.drew) | (with_reducible apply below_drewN') | (refine Below.trans ?_ (Below.mono (by assumption) (by first | exact Nat.le_refl _ | (simp; done) | (simp; omega) | omega))) | exact Below.refl _ _ | assumption))
  case ca10R6 => (first | (simp [Act.put]; done) | (simp [Act.put, *]; done))
  try dsimp only
  refine wpW_det (t' := ?ct11R6) 11 (by rfl) (by kernel_rfl) (NQ_free _) (by kernel_rfl) ?cw11R6 ?ch11R6 ?ca11R6 (Eq.refl _) ?cH11R6
  case cw11R6 => (go_simp; done)
  case ch11R6 =>
    intro ds w' hS K hK
    have hc := (bcell hS).1
    have hf := (bcell hS).2
    have hz := hS.size
    try simp at hz
    go_simp
    try go_bits
    first
      | exact hK _ hS (Gr.refl _)
      | exact hK _ (by repeat (first | (with_reducible exact Below.refl _ _) | (with_reducible assumption) | ((with_reducible refine Below.setCell ?_ ?_ _); rotate_left; · (first | exact Nat.le_refl _ | (simp; done) | (simp; omega) | omega)) | ((with_reducible refine Below.alloc ?_ ?_ _); rotate_left; · (first | exact Nat.le_refl _ | (simp; done) | (simp; omega) | omega)) | (with_reducible apply Below.drew) | (with_reducible apply below_drewN') | (refine Below.trans ?_ (Below.mono (by assumption) (by first | exact Nat.le_refl _ | (simp; done) | (simp; omega) | omega))) | exact Below.refl _ _ | assumption)) (by repeat (first | (with_reducible exact Below.refl _ _) | (with_reducible assumption) | ((with_reducible refine Below.setCell ?_ ?_ _); rotate_left; · (first | exact Nat.le_refl _ | (simp; done) | (simp; omega) | omega)) | ((with_reducible refine Below.alloc ?_ ?_ _); rotate_left; · (first | exact Nat.le_refl _ | (simp; done) | (simp; omega) | omega)) | (with_reducible apply Below.drew) | (with_reducible apply below_drewN') | (refine Below.trans ?_ (Below.mono (by assumption) (by first | exact Nat.le_refl _ | (simp; done) | (simp; omega) | omega))) | exact Below.refl _ _ | assumption))
  case ca11R6 => (first | (simp [Act.put]; done) | (simp [Act.put, *]; done))
  try dsimp only
  refine wpW_end (by kernel_rfl) ?_
  intro w6 hg hS
  unfold NQ
  dsimp only
  exact H.out _ _ _ _ _ _ _ _ _ _ A5 c5 w6 ((hR5.below hg (Nat.le_refl _)).more (Below.size hg)) hS

end Go.Proofs.YtfgeipapmdhneaaDoor
