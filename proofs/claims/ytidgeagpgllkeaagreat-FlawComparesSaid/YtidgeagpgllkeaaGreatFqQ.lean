/- Regions of the law FlawCompares. -/
import Derived.Test.YtidgeagpgllkeaaGreatZdFpS
import Derived.Test.YtidgeagpgllkeaaGreatZdFpU
import Derived.Test.YtidgeagpgllkeaaGreatFqP
namespace Go.Proofs.YtidgeagpgllkeaaGreat
open Go.RowKit

set_option maxRecDepth 100000 in
set_option maxHeartbeats 8000000 in
/-- The pairs ascend. -/
theorem cmpLoop {wr0 : World} {B : Nat} {P : List (Int × Int)} {AP : Option Addr} {cP : Nat} (hP : Row wr0 B 2 AP P.length (cellsC P)) (hB : B ≤ wr0.heap.size) (hn : P.length ≤ 1000) (HASC : Hid (P.Pairwise fun p q => p.1 < q.1)) {t0 t1 t2 t3 t4 t5 t6 t8 t9 t10 t11 t12 t13 t14 t15 t16 t17 t18 t20 t21 t22 t23 t24 t25 t26 t27 t28 t29 t30 t31 t32 t33 t34 t35 t36 t37 t38 t39 t40 t41 t42 t43 t44 t45 t46 t47 t48 t49 t50 t51 t52 t53 t54 t55 t56 t57 t58 t59 t60 t61 t62 t63 t64 t65 t66 t67 t68 t69 t70 t71 t72 t73 t74 t75 t76 t77 t78 t79 t80 t81 t82 t83 t84 t85 t86 t87 t88 t89 t90 t91 t92 t93 t94 t95 t96 t97 t98 t99 t100 t101 t102 t103 t104 t105 t106 t107 t108 t109 t110 t111 t112 t113 t114 t115 t116 t117 t118 t119 t120 t121 t122 t123 t124 t125 t126 t127 t128 t129 t130 t131 t132 t133 t134 t135 t136 t137 t138 t139 t140 t141 t142 t143 t144 t145 t146 t147 t148 t149 t150 t151 t152 t153 t154 t155 t156 t157 t158 t159 t160 t161 t162 t163 t164 t165 t166 t167 t168 t169 t170 t171 t172 t173 t174 t175 t176 t177 t178 t179 t180 t181 t182 t183 t184 t185 t186 t187 t188 t189 t190 t191 t192 t193 t194 t195 t196 t197 t198 t199 t200 t201 t202 t203 t204 t205 t206 t207 t208 t209 t210 t211 t212 t213 t214 t215 t216 t217 t218 t219 : Value} {ds : List Deferred} (Q' : Exit → Act → World → Prop)
    (h : ∀ (t6 t19 t136 t137 t138 t139 t140 t141 t142 t143 t144 t145 t146 t147 t148 t149 t150 t151 t152 t153 : Value) (w' : World), Gr wr0 w' → Q' (.exit 0) ⟨#[t0, t1, t2, t3, t4, t5, t6, .slice AP P.length cP, t8, t9, t10, t11, t12, t13, t14, t15, t16, t17, t18, t19, t20, t21, t22, t23, t24, t25, t26, t27, t28, t29, t30, t31, t32, t33, t34, t35, t36, t37, t38, t39, t40, t41, t42, t43, t44, t45, t46, t47, t48, t49, t50, t51, t52, t53, t54, t55, t56, t57, t58, t59, t60, t61, t62, t63, t64, t65, t66, t67, t68, t69, t70, t71, t72, t73, t74, t75, t76, t77, t78, t79, t80, t81, t82, t83, t84, t85, t86, t87, t88, t89, t90, t91, t92, t93, t94, t95, t96, t97, t98, t99, t100, t101, t102, t103, t104, t105, t106, t107, t108, t109, t110, t111, t112, t113, t114, t115, t116, t117, t118, t119, t120, t121, t122, t123, t124, t125, t126, t127, t128, t129, t130, t131, t132, t133, t134, t135, t136, t137, t138, t139, t140, t141, t142, t143, t144, t145, t146, t147, t148, t149, t150, t151, t152, t153, t154, t155, t156, t157, t158, t159, t160, t161, t162, t163, t164, t165, t166, t167, t168, t169, t170, t171, t172, t173, t174, t175, t176, t177, t178, t179, t180, t181, t182, t183, t184, t185, t186, t187, t188, t189, t190, t191, t192, t193, t194, t195, t196, t197, t198, t199, t200, t201, t202, t203, t204, t205, t206, t207, t208, t209, t210, t211, t212, t213, t214, t215, t216, t217, t218, t219], ds⟩ w') :
    (Code.loop (bodyOf Tryz.f17 0)).wp Tryz.prog Q' ⟨#[t0, t1, t2, t3, t4, t5, t6, .slice AP P.length cP, t8, t9, t10, t11, t12, t13, t14, t15, t16, t17, t18, .int .i64 1, t20, t21, t22, t23, t24, t25, t26, t27, t28, t29, t30, t31, t32, t33, t34, t35, t36, t37, t38, t39, t40, t41, t42, t43, t44, t45, t46, t47, t48, t49, t50, t51, t52, t53, t54, t55, t56, t57, t58, t59, t60, t61, t62, t63, t64, t65, t66, t67, t68, t69, t70, t71, t72, t73, t74, t75, t76, t77, t78, t79, t80, t81, t82, t83, t84, t85, t86, t87, t88, t89, t90, t91, t92, t93, t94, t95, t96, t97, t98, t99, t100, t101, t102, t103, t104, t105, t106, t107, t108, t109, t110, t111, t112, t113, t114, t115, t116, t117, t118, t119, t120, t121, t122, t123, t124, t125, t126, t127, t128, t129, t130, t131, t132, t133, t134, t135, t136, t137, t138, t139, t140, t141, t142, t143, t144, t145, t146, t147, t148, t149, t150, t151, t152, t153, t154, t155, t156, t157, t158, t159, t160, t161, t162, t163, t164, t165, t166, t167, t168, t169, t170, t171, t172, t173, t174, t175, t176, t177, t178, t179, t180, t181, t182, t183, t184, t185, t186, t187, t188, t189, t190, t191, t192, t193, t194, t195, t196, t197, t198, t199, t200, t201, t202, t203, t204, t205, t206, t207, t208, t209, t210, t211, t212, t213, t214, t215, t216, t217, t218, t219], ds⟩ wr0 := by
  have H := Lib.hid h; clear h
  conv in (bodyOf _ _) => whnf
  dsimp only
  go_loopw [19] (fun s19 wr => ∃ (k : Nat), k ≤ P.length ∧ s19 = .int .i64 ((k : Int) + 1) ∧ Gr wr0 wr) (fun s19 _ => P.length + 1 - (intOf s19).toNat)
  case atStart => exact ⟨0, Nat.zero_le _, by go_num, Gr.refl _⟩
  case round =>
    obtain ⟨k, hle, rfl, hg⟩ := hrel
    have hzg := Below.size hg
    by_cases hlt : k + 1 < P.length
    · have hR := hP.below hg hB
      obtain ⟨g, o, hA, hgB, v0, v1⟩ := cellPair hR (k := k) (by omega)
      obtain ⟨g2, o2, hA2, hgB2, u0, u1⟩ := cellPair hR hlt
      have hasc : P[k].1 < P[k + 1].1 := List.pairwise_iff_getElem.1 HASC.out k (k + 1) (by omega) hlt (by omega)
      have i1 : ((k : Int) + 1 < (P.length : Int)) := by omega
      have hgw : g < wr.heap.size := by omega
      generalize P[k].1 = x at *
      generalize P[k + 1].1 = y at *
      have hno : ¬ (y ≤ x) := by omega
      subst hA
      cases hA2
      clear v1 u1 hasc
      go_wp2_with fail
      go_quiet (fail)
      go_wp2
      exact ⟨⟨k + 1, by omega, by go_num, hg.trans (gr_drewN _ _)⟩, by simp [intOf]; omega⟩
    · have i1 : ¬ ((k : Int) + 1 < (P.length : Int)) := by omega
      go_wp2
      exact H.out _ _ _ _ _ _ _ _ _ _ _ _ _ _ _ _ _ _ _ _ wr hg

set_option maxRecDepth 100000 in
set_option maxHeartbeats 8000000 in
theorem cmReg22 (l0 l1 : List Mk) (A0 A1 AF AS : Option Addr) (c0 c1 cF cS B : Nat) (slack : Int) (Fl Sl : List Int) {W : World} {z8 : Nat}
    (HL0 : Hid (∀ w', Gr W w' → MkOk l0 A0 B w')) (HL1 : Hid (∀ w', Gr W w' → MkOk l1 A1 B w')) (HF : Hid (∀ w', Gr W w' → Row w' B 1 AF Fl.length (intsC Fl))) (HS : Hid (∀ w', Gr W w' → Row w' B 1 AS Sl.length (intsC Sl))) (hB : B ≤ W.heap.size) (hc0 : l0.length ≤ c0) (hc1 : l1.length ≤ c1) (hcF : Fl.length ≤ cF) (hcS : Sl.length ≤ cS) (HN0 : Hid (A0 = none → c0 = 0)) (HN1 : Hid (A1 = none → c1 = 0)) (HNF : Hid (AF = none → cF = 0)) (HNS : Hid (AS = none → cS = 0)) (hn0 : l0.length ≤ 1000) (hn1 : l1.length ≤ 1000) (hnF : Fl.length ≤ 1000) (hnS : Sl.length ≤ 1000)
    (b8 : Blk W z8 126 #[.slice AF Fl.length cF, .slice AS Sl.length cS]) {t3 t4 t5 t6 t7 t9 t10 t11 t12 t13 t14 t15 t16 t17 t18 t19 t20 t21 t22 t23 t24 t25 t26 t27 t28 t29 t30 t31 t32 t33 t34 t35 t36 t37 t38 t39 t40 t41 t42 t43 t44 t45 t46 t47 t48 t49 t50 t51 t52 t53 t54 t55 t56 t57 t58 t59 t60 t61 t62 t63 t64 t65 t66 t67 t68 t69 t70 t71 t72 t73 t74 t75 t76 t77 t78 t79 t80 t81 t82 t83 t84 t85 t86 t87 t88 t89 t90 t91 t92 t93 t94 t95 t96 t97 t98 t99 t100 t101 t102 t103 t104 t105 t106 t107 t108 t109 t110 t111 t112 t113 t114 t115 t116 t117 t118 t119 t120 t121 t122 t123 t124 t125 t126 t127 t128 t129 t130 t131 t132 t133 t134 t135 t136 t137 t138 t139 t140 t141 t142 t143 t144 t145 t146 t147 t148 t149 t150 t151 t152 t153 t154 t155 t156 t157 t158 t159 t160 t161 t162 t163 t164 t165 t166 t167 t168 t169 t170 t171 t172 t173 t174 t175 t176 t177 t178 t179 t180 t181 t182 t183 t184 t185 t186 t187 t188 t189 t190 t191 t192 t193 t194 t195 t196 t197 t198 t199 t200 t201 t202 t203 t204 t205 t206 t207 t208 t209 t210 t211 t212 t213 t214 t215 t216 t217 t218 t219 : Value} {ds : List Deferred} (Q : Exit → Act → World → Prop)
    (h : ∀ (t177 t178 t179 t180 t181 t182 t183 t184 t185 t186 t187 t188 t189 t190 t191 t192 t193 : Value) (w' : World), Gr W w' → Q .normal ⟨#[.slice A0 l0.length c0, .slice A1 l1.length c1, .int .i64 slack, t3, t4, t5, t6, t7, .pointer (some ⟨z8, 0, none⟩), t9, t10, t11, t12, t13, t14, t15, t16, t17, t18, t19, t20, t21, t22, t23, t24, .int .i64 (ccN l0 l1 slack Fl Sl), .int .i64 (ccE l0 l1 slack Fl Sl), t27, t28, t29, t30, t31, t32, t33, t34, t35, t36, t37, t38, t39, t40, t41, t42, t43, t44, t45, t46, t47, t48, t49, t50, t51, t52, t53, t54, t55, t56, t57, t58, t59, t60, t61, t62, t63, t64, t65, t66, t67, t68, t69, t70, t71, t72, t73, t74, t75, t76, t77, t78, t79, t80, t81, t82, t83, t84, t85, t86, t87, t88, t89, t90, t91, t92, t93, t94, t95, t96, t97, t98, t99, t100, t101, t102, t103, t104, t105, t106, t107, t108, t109, t110, t111, t112, t113, t114, t115, t116, t117, t118, t119, t120, t121, t122, t123, t124, t125, t126, t127, t128, t129, t130, t131, t132, t133, t134, t135, t136, t137, t138, t139, t140, t141, t142, t143, t144, t145, t146, t147, t148, t149, t150, t151, t152, t153, t154, t155, t156, t157, t158, t159, t160, t161, t162, t163, t164, t165, t166, t167, t168, t169, t170, t171, t172, t173, t174, t175, t176, t177, t178, t179, t180, t181, t182, t183, t184, t185, t186, t187, t188, t189, t190, t191, t192, t193, t194, t195, t196, t197, t198, t199, t200, t201, t202, t203, t204, t205, t206, t207, t208, t209, t210, t211, t212, t213, t214, t215, t216, t217, t218, t219], ds⟩ w') :
    (regOf Tryz.f17 22).wp Tryz.prog Q ⟨#[.slice A0 l0.length c0, .slice A1 l1.length c1, .int .i64 slack, t3, t4, t5, t6, t7, .pointer (some ⟨z8, 0, none⟩), t9, t10, t11, t12, t13, t14, t15, t16, t17, t18, t19, t20, t21, t22, t23, t24, t25, t26, t27, t28, t29, t30, t31, t32, t33, t34, t35, t36, t37, t38, t39, t40, t41, t42, t43, t44, t45, t46, t47, t48, t49, t50, t51, t52, t53, t54, t55, t56, t57, t58, t59, t60, t61, t62, t63, t64, t65, t66, t67, t68, t69, t70, t71, t72, t73, t74, t75, t76, t77, t78, t79, t80, t81, t82, t83, t84, t85, t86, t87, t88, t89, t90, t91, t92, t93, t94, t95, t96, t97, t98, t99, t100, t101, t102, t103, t104, t105, t106, t107, t108, t109, t110, t111, t112, t113, t114, t115, t116, t117, t118, t119, t120, t121, t122, t123, t124, t125, t126, t127, t128, t129, t130, t131, t132, t133, t134, t135, t136, t137, t138, t139, t140, t141, t142, t143, t144, t145, t146, t147, t148, t149, t150, t151, t152, t153, t154, t155, t156, t157, t158, t159, t160, t161, t162, t163, t164, t165, t166, t167, t168, t169, t170, t171, t172, t173, t174, t175, t176, t177, t178, t179, t180, t181, t182, t183, t184, t185, t186, t187, t188, t189, t190, t191, t192, t193, t194, t195, t196, t197, t198, t199, t200, t201, t202, t203, t204, t205, t206, t207, t208, t209, t210, t211, t212, t213, t214, t215, t216, t217, t218, t219], ds⟩ W := by
  have H := Lib.hid h; clear h
  obtain ⟨e0, e1, _⟩ := blk2c b8
  have l8 := b8.lt
  conv in (regOf _ _) => whnf
  refine wp_region_w (Gr _) (by kernel_rfl) (Below.refl _ _).drew ?_
  refine wpW_det (t' := ?ct0R3) 0 (by rfl) (by kernel_rfl) (NQ_free _) (by kernel_rfl) ?cw0R3 ?ch0R3 ?ca0R3 (Eq.refl _) ?cH0R3
  case cw0R3 => (go_simp; done)
  case ch0R3 =>
    intro ds w' hS K hK
    have hc := (bcell hS).1
    have hf := (bcell hS).2
    have hz := hS.size
    try simp at hz
    go_simp
    try go_bits
    first
      | exact hK _ hS (Gr.refl _)
      | exact hK _ (by repeat (first | (with_reducible exact Below.refl _ _) | (with_reducible assumption) | ((with_reducible refine Below.setCell ?_ ?_ _); rotate_left; · (first | exact Nat.le_refl _ | (simp; done) | (simp; omega) | omega)) | ((with_reducible refine Below.alloc ?_ ?_ _); rotate_left; · (first | exact Nat.le_refl _ | (simp; done) | (simp; omega) | omega)) | (with_reducible apply Below.drew) | (with_reducible apply below_drewN') | (refine Below.trans ?_ (Below.mono (by assumption) (by first | exact Nat.le_refl _ | (simp; done) | (simp; omega) | omega))) | exact Below.refl _ _ | assumption)) (by repeat (first | (with_reducible exact Below.refl _ _) | (with_reducible assumption) | ((with_reducible refine Below.setCell ?_ ?_ _); rotate_left; · (first | exact Nat.le_refl _ | (simp; done) | (simp; omega) | omega)) | ((with_reducible refine Below.alloc ?_ ?_ _); rotate_left; · (first | exact Nat.le_refl _ | (simp; done) | (simp; omega) | omega)) | (with_reducible apply Below.drew) | (with_reducible apply below_drewN') | (refine Below.trans ?_ (Below.mono (by assumption) (by first | exact Nat.le_refl _ | (simp; done) | (simp; omega) | omega))) | exact Below.refl _ _ | assumption))
  case ca0R3 => (first | (simp [Act.put]; done) | (simp [Act.put, *]; done))
  try dsimp only
  refine wpW_det (t' := ?ct2R3) 2 (by rfl) (by kernel_rfl) (NQ_free _) (by kernel_rfl) ?cw2R3 ?ch2R3 ?ca2R3 (Eq.refl _) ?cH2R3
  case cw2R3 => (go_simp; done)
  case ch2R3 =>
    intro ds w' hS K hK
    have hc := (bcell hS).1
    have hf := (bcell hS).2
    have hz := hS.size
    try simp at hz
    go_simp
    try go_bits
    first
      | exact hK _ hS (Gr.refl _)
      | exact hK _ (by repeat (first | (with_reducible exact Below.refl _ _) | (with_reducible assumption) | ((with_reducible refine Below.setCell ?_ ?_ _); rotate_left; · (first | exact Nat.le_refl _ | (simp; done) | (simp; omega) | omega)) | ((with_reducible refine Below.alloc ?_ ?_ _); rotate_left; · (first | exact Nat.le_refl _ | (simp; done) | (simp; omega) | omega)) | (with_reducible apply Below.drew) | (with_reducible apply below_drewN') | (refine Below.trans ?_ (Below.mono (by assumption) (by first | exact Nat.le_refl _ | (simp; done) | (simp; omega) | omega))) | exact Below.refl _ _ | assumption)) (by repeat (first | (with_reducible exact Below.refl _ _) | (with_reducible assumption) | ((with_reducible refine Below.setCell ?_ ?_ _); rotate_left; · (first | exact Nat.le_refl _ | (simp; done) | (simp; omega) | omega)) | ((with_reducible refine Below.alloc ?_ ?_ _); rotate_left; · (first | exact Nat.le_refl _ | (simp; done) | (simp; omega) | omega)) | (with_reducible apply Below.drew) | (with_reducible apply below_drewN') | (refine Below.trans ?_ (Below.mono (by assumption) (by first | exact Nat.le_refl _ | (simp; done) | (simp; omega) | omega))) | exact Below.refl _ _ | assumption))
  case ca2R3 => (first | (simp [Act.put]; done) | (simp [Act.put, *]; done))
  try dsimp only
  refine wpW_det (t' := ?ct5R3) 5 (by rfl) (by kernel_rfl) (NQ_free _) (by kernel_rfl) ?cw5R3 ?ch5R3 ?ca5R3 (Eq.refl _) ?cH5R3
  case cw5R3 => (go_simp; done)
  case ch5R3 =>
    intro ds w' hS K hK
    have hc := (bcell hS).1
    have hf := (bcell hS).2
    have hz := hS.size
    try simp at hz
    go_simp
    try go_bits
    first
      | exact hK _ hS (Gr.refl _)
      | exact hK _ (by repeat (first | (with_reducible exact Below.refl _ _) | (with_reducible assumption) | ((with_reducible refine Below.setCell ?_ ?_ _); rotate_left; · (first | exact Nat.le_refl _ | (simp; done) | (simp; omega) | omega)) | ((with_reducible refine Below.alloc ?_ ?_ _); rotate_left; · (first | exact Nat.le_refl _ | (simp; done) | (simp; omega) | omega)) | (with_reducible apply Below.drew) | (with_reducible apply below_drewN') | (refine Below.trans ?_ (Below.mono (by assumption) (by first | exact Nat.le_refl _ | (simp; done) | (simp; omega) | omega))) | exact Below.refl _ _ | assumption)) (by repeat (first | (with_reducible exact Below.refl _ _) | (with_reducible assumption) | ((with_reducible refine Below.setCell ?_ ?_ _); rotate_left; · (first | exact Nat.le_refl _ | (simp; done) | (simp; omega) | omega)) | ((with_reducible refine Below.alloc ?_ ?_ _); rotate_left; · (first | exact Nat.le_refl _ | (simp; done) | (simp; omega) | omega)) | (with_reducible apply Below.drew) | (with_reducible apply below_drewN') | (refine Below.trans ?_ (Below.mono (by assumption) (by first | exact Nat.le_refl _ | (simp; done) | (simp; omega) | omega))) | exact Below.refl _ _ | assumption))
  case ca5R3 => (first | (simp [Act.put]; done) | (simp [Act.put, *]; done))
  try dsimp only
  refine wpW_det (t' := ?ct6R3) 6 (by rfl) (by kernel_rfl) (NQ_free _) (by kernel_rfl) ?cw6R3 ?ch6R3 ?ca6R3 (Eq.refl _) ?cH6R3
  case cw6R3 => (go_simp; done)
  case ch6R3 =>
    intro ds w' hS K hK
    have hc := (bcell hS).1
    have hf := (bcell hS).2
    have hz := hS.size
    try simp at hz
    go_simp
    try go_bits
    first
      | exact hK _ hS (Gr.refl _)
      | exact hK _ (by repeat (first | (with_reducible exact Below.refl _ _) | (with_reducible assumption) | ((with_reducible refine Below.setCell ?_ ?_ _); rotate_left; · (first | exact Nat.le_refl _ | (simp; done) | (simp; omega) | omega)) | ((with_reducible refine Below.alloc ?_ ?_ _); rotate_left; · (first | exact Nat.le_refl _ | (simp; done) | (simp; omega) | omega)) | (with_reducible apply Below.drew) | (with_reducible apply below_drewN') | (refine Below.trans ?_ (Below.mono (by assumption) (by first | exact Nat.le_refl _ | (simp; done) | (simp; omega) | omega))) | exact Below.refl _ _ | assumption)) (by repeat (first | (with_reducible exact Below.refl _ _) | (with_reducible assumption) | ((with_reducible refine Below.setCell ?_ ?_ _); rotate_left; · (first | exact Nat.le_refl _ | (simp; done) | (simp; omega) | omega)) | ((with_reducible refine Below.alloc ?_ ?_ _); rotate_left; · (first | exact Nat.le_refl _ | (simp; done) | (simp; omega) | omega)) | (with_reducible apply Below.drew) | (with_reducible apply below_drewN') | (refine Below.trans ?_ (Below.mono (by assumption) (by first | exact Nat.le_refl _ | (simp; done) | (simp; omega) | omega))) | exact Below.refl _ _ | assumption))
  case ca6R3 => (first | (simp [Act.put]; done) | (simp [Act.put, *]; done))
  try dsimp only
  refine wpW_det (t' := ?ct7R3) 7 (by rfl) (by kernel_rfl) (NQ_free _) (by kernel_rfl) ?cw7R3 ?ch7R3 ?ca7R3 (Eq.refl _) ?cH7R3
  case cw7R3 => (go_simp; done)
  case ch7R3 =>
    intro ds w' hS K hK
    have hc := (bcell hS).1
    have hf := (bcell hS).2
    have hz := hS.size
    try simp at hz
    go_simp
    try go_bits
    first
      | exact hK _ hS (Gr.refl _)
      | exact hK _ (by repeat (first | (with_reducible exact Below.refl _ _) | (with_reducible assumption) | ((with_reducible refine Below.setCell ?_ ?_ _); rotate_left; · (first | exact Nat.le_refl _ | (simp; done) | (simp; omega) | omega)) | ((with_reducible refine Below.alloc ?_ ?_ _); rotate_left; · (first | exact Nat.le_refl _ | (simp; done) | (simp; omega) | omega)) | (with_reducible apply Below.drew) | (with_reducible apply below_drewN') | (refine Below.trans ?_ (Below.mono (by assumption) (by first | exact Nat.le_refl _ | (simp; done) | (simp; omega) | omega))) | exact Below.refl _ _ | assumption)) (by repeat (first | (with_reducible exact Below.refl _ _) | (with_reducible assumption) | ((with_reducible refine Below.setCell ?_ ?_ _); rotate_left; · (first | exact Nat.le_refl _ | (simp; done) | (simp; omega) | omega)) | ((with_reducible refine Below.alloc ?_ ?_ _); rotate_left; · (first | exact Nat.le_refl _ | (simp; done) | (simp; omega) | omega)) | (with_reducible apply Below.drew) | (with_reducible apply below_drewN') | (refine Below.trans ?_ (Below.mono (by assumption) (by first | exact Nat.le_refl _ | (simp; done) | (simp; omega) | omega))) | exact Below.refl _ _ | assumption))
  case ca7R3 => (first | (simp [Act.put]; done) | (simp [Act.put, *]; done))
  try dsimp only
  refine wpW_det (t' := ?ct9R3) 9 (by rfl) (by kernel_rfl) (NQ_free _) (by kernel_rfl) ?cw9R3 ?ch9R3 ?ca9R3 (Eq.refl _) ?cH9R3
  case cw9R3 => (go_simp; done)
  case ch9R3 =>
    intro ds w' hS K hK
    have hc := (bcell hS).1
    have hf := (bcell hS).2
    have hz := hS.size
    try simp at hz
    go_simp
    try go_bits
    first
      | exact hK _ hS (Gr.refl _)
      | exact hK _ (by repeat (first | (with_reducible exact Below.refl _ _) | (with_reducible assumption) | ((with_reducible refine Below.setCell ?_ ?_ _); rotate_left; · (first | exact Nat.le_refl _ | (simp; done) | (simp; omega) | omega)) | ((with_reducible refine Below.alloc ?_ ?_ _); rotate_left; · (first | exact Nat.le_refl _ | (simp; done) | (simp; omega) | omega)) | (with_reducible apply Below.drew) | (with_reducible apply below_drewN') | (refine Below.trans ?_ (Below.mono (by assumption) (by first | exact Nat.le_refl _ | (simp; done) | (simp; omega) | omega))) | exact Below.refl _ _ | assumption)) (by repeat (first | (with_reducible exact Below.refl _ _) | (with_reducible assumption) | ((with_reducible refine Below.setCell ?_ ?_ _); rotate_left; · (first | exact Nat.le_refl _ | (simp; done) | (simp; omega) | omega)) | ((with_reducible refine Below.alloc ?_ ?_ _); rotate_left; · (first | exact Nat.le_refl _ | (simp; done) | (simp; omega) | omega)) | (with_reducible apply Below.drew) | (with_reducible apply below_drewN') | (refine Below.trans ?_ (Below.mono (by assumption) (by first | exact Nat.le_refl _ | (simp; done) | (simp; omega) | omega))) | exact Below.refl _ _ | assumption))
  case ca9R3 => (first | (simp [Act.put]; done) | (simp [Act.put, *]; done))
  try dsimp only
  refine wpW_det (t' := ?ct10R3) 10 (by rfl) (by kernel_rfl) (NQ_free _) (by kernel_rfl) ?cw10R3 ?ch10R3 ?ca10R3 (Eq.refl _) ?cH10R3
  case cw10R3 => (go_simp; done)
  case ch10R3 =>
    intro ds w' hS K hK
    have hc := (bcell hS).1
    have hf := (bcell hS).2
    have hz := hS.size
    try simp at hz
    go_simp
    try go_bits
    first
      | exact hK _ hS (Gr.refl _)
      | exact hK _ (by repeat (first | (with_reducible exact Below.refl _ _) | (with_reducible assumption) | ((with_reducible refine Below.setCell ?_ ?_ _); rotate_left; · (first | exact Nat.le_refl _ | (simp; done) | (simp; omega) | omega)) | ((with_reducible refine Below.alloc ?_ ?_ _); rotate_left; · (first | exact Nat.le_refl _ | (simp; done) | (simp; omega) | omega)) | (with_reducible apply Below.drew) | (with_reducible apply below_drewN') | (refine Below.trans ?_ (Below.mono (by assumption) (by first | exact Nat.le_refl _ | (simp; done) | (simp; omega) | omega))) | exact Below.refl _ _ | assumption)) (by repeat (first | (with_reducible exact Below.refl _ _) | (with_reducible assumption) | ((with_reducible refine Below.setCell ?_ ?_ _); rotate_left; · (first | exact Nat.le_refl _ | (simp; done) | (simp; omega) | omega)) | ((with_reducible refine Below.alloc ?_ ?_ _); rotate_left; · (first | exact Nat.le_refl _ | (simp; done) | (simp; omega) | omega)) | (with_reducible apply Below.drew) | (with_reducible apply below_drewN') | (refine Below.trans ?_ (Below.mono (by assumption) (by first | exact Nat.le_refl _ | (simp; done) | (simp; omega) | omega))) | exact Below.refl _ _ | assumption))
  case ca10R3 => (first | (simp [Act.put]; done) | (simp [Act.put, *]; done))
  try dsimp only
  clear e0 e1 l8 b8
  refine wpW_branch [1] (by kernel_rfl) (by simp) ?_
  intro w1 hg1 hS1
  try have m0 := MkOk.gr m0 hg1
  try have m1 := MkOk.gr m1 hg1
  try have rF := Row.gr rF hg1
  try have rS := Row.gr rS hg1
  refine each_cons ?_ (each_nil)
  · refine wpOp_go (by rfl) (Eq.refl _) (by go_simp; done) ?_
    intro K hK
    go_simp
    try simp only [Act.put]
    refine (copyMarks_any l0 A0 c0 B _ (HL0.out _ hS1) hc0 (Nat.le_trans hB (Below.size hS1)) HN0.out).mono ?_
    rintro e ws ⟨v, rfl, own, hBs⟩
    obtain ⟨D0, d0, rfl, m0, q0⟩ := copied own (by omega) (HL0.out _ (Gr.trans hS1 hBs)).size
    refine hK _ _ (Gr.trans hS1 hBs) ?_
    clear hK K own hBs
    refine wpW_branch [3] (by kernel_rfl) (by simp) ?_
    intro w2 hg2 hS2
    try have m0 := MkOk.gr m0 hg2
    try have m1 := MkOk.gr m1 hg2
    try have rF := Row.gr rF hg2
    try have rS := Row.gr rS hg2
    refine each_cons ?_ (each_nil)
    · refine wpOp_go (by rfl) (Eq.refl _) (by go_simp; done) ?_
      intro K hK
      go_simp
      try simp only [Act.put]
      refine (copyMarks_any l1 A1 c1 B _ (HL1.out _ hS2) hc1 (Nat.le_trans hB (Below.size hS2)) HN1.out).mono ?_
      rintro e ws ⟨v, rfl, own, hBs⟩
      obtain ⟨D1, d1, rfl, m1, q1⟩ := copied own (by omega) (HL1.out _ (Gr.trans hS2 hBs)).size
      have m0 := MkOk.gr m0 hBs
      refine hK _ _ (Gr.trans hS2 hBs) ?_
      clear hK K own hBs
      refine wpW_branch [4, 8] (by kernel_rfl) (by simp) ?_
      intro w3 hg3 hS3
      try have m0 := MkOk.gr m0 hg3
      try have m1 := MkOk.gr m1 hg3
      try have rF := Row.gr rF hg3
      try have rS := Row.gr rS hg3
      refine each_cons ?_ (each_cons ?_ (each_nil))
      · refine wpOp_go (by rfl) (Eq.refl _) (by go_simp; done) ?_
        intro K hK
        go_simp
        try simp only [Act.put]
        refine hK _ _ hS3 ?_
        clear hK K
        refine wpW_branch [8] (by kernel_rfl) (by simp) ?_
        intro w4 hg4 hS4
        try have m0 := MkOk.gr m0 hg4
        try have m1 := MkOk.gr m1 hg4
        try have rF := Row.gr rF hg4
        try have rS := Row.gr rS hg4
        refine each_cons ?_ (each_nil)
        · refine wpOp_go (by rfl) (Eq.refl _) (by go_simp; done) ?_
          intro K hK
          go_simp
          try simp only [Act.put]
          refine (copyInts_any Fl AF cF B _ (HF.out _ hS4) (by omega) hcF (Nat.le_trans hB (Below.size hS4)) HNF.out).mono ?_
          rintro e ws ⟨v, rfl, own, hBs⟩
          obtain ⟨DF, dF, rfl, rF, _, _⟩ := own_row2 own
          have m0 := MkOk.gr m0 hBs
          have m1 := MkOk.gr m1 hBs
          refine hK _ _ (Gr.trans hS4 hBs) ?_
          clear hK K own hBs
          refine wpW_branch [11] (by kernel_rfl) (by simp) ?_
          intro w5 hg5 hS5
          try have m0 := MkOk.gr m0 hg5
          try have m1 := MkOk.gr m1 hg5
          try have rF := Row.gr rF hg5
          try have rS := Row.gr rS hg5
          refine each_cons ?_ (each_nil)
          · refine wpOp_go (by rfl) (Eq.refl _) (by go_simp; done) ?_
            intro K hK
            go_simp
            try simp only [Act.put]
            refine (copyInts_any Sl AS cS B _ (HS.out _ hS5) (by omega) hcS (Nat.le_trans hB (Below.size hS5)) HNS.out).mono ?_
            rintro e ws ⟨v, rfl, own, hBs⟩
            obtain ⟨DS, dS, rfl, rS, _, _⟩ := own_row2 own
            have m0 := MkOk.gr m0 hBs
            have m1 := MkOk.gr m1 hBs
            have rF := Row.gr rF hBs
            refine hK _ _ (Gr.trans hS5 hBs) ?_
            clear hK K own hBs
            refine wpW_branch [12] (by kernel_rfl) (by simp) ?_
            intro w6 hg6 hS6
            try have m0 := MkOk.gr m0 hg6
            try have m1 := MkOk.gr m1 hg6
            try have rF := Row.gr rF hg6
            try have rS := Row.gr rS hg6
            refine each_cons ?_ (each_nil)
            · refine wpOp_go (by rfl) (Eq.refl _) (by go_simp; done) ?_
              intro K hK
              go_simp
              try simp only [Act.put]
              refine hK _ _ hS6 ?_
              clear hK K
              refine wpW_branch [13] (by kernel_rfl) (by simp) ?_
              intro w7 hg7 hS7
              try have m0 := MkOk.gr m0 hg7
              try have m1 := MkOk.gr m1 hg7
              try have rF := Row.gr rF hg7
              try have rS := Row.gr rS hg7
              refine each_cons ?_ (each_nil)
              · refine wpOp_go (by rfl) (Eq.refl _) (by go_simp; done) ?_
                intro K hK
                go_simp
                try simp only [Act.put]
                refine (checkCover_any l0 l1 D0 D1 DF DS d0 d1 dF dS _ slack Fl Sl _ m0 m1 rF rS q0 q1 (Nat.le_refl _) hn0 hn1 hnF hnS).mono ?_
                rintro e ws ⟨rfl, hBs⟩
                refine hK _ _ (Gr.trans hS7 hBs) ?_
                clear hK K m0 m1 rF rS hBs
                refine wpW_det (t' := ?ct14R4) 14 (by rfl) (by kernel_rfl) (NQ_free _) (by kernel_rfl) ?cw14R4 ?ch14R4 ?ca14R4 (Eq.refl _) ?cH14R4
                case cw14R4 => (go_simp; done)
                case ch14R4 =>
                  intro ds w' hS K hK
                  have hc := (bcell hS).1
                  have hf := (bcell hS).2
                  have hz := hS.size
                  try simp at hz
                  go_simp
                  try go_bits
                  first
                    | exact hK _ hS (Gr.refl _)
                    | exact hK _ (by repeat (first | (with_reducible exact Below.refl _ _) | (with_reducible assumption) | ((with_reducible refine Below.setCell ?_ ?_ _); rotate_left; · (first | exact Nat.le_refl _ | (simp; done) | (simp; omega) | omega)) | ((with_reducible refine Below.alloc ?_ ?_ _); rotate_left; · (first | exact Nat.le_refl _ | (simp; done) | (simp; omega) | omega)) | (with_reducible apply Below.drew) | (with_reducible apply below_drewN') | (refine Below.trans ?_ (Below.mono (by assumption) (by first | exact Nat.le_refl _ | (simp; done) | (simp; omega) | omega))) | exact Below.refl _ _ | assumption)) (by repeat (first | (with_reducible exact Below.refl _ _) | (with_reducible assumption) | ((with_reducible refine Below.setCell ?_ ?_ _); rotate_left; · (first | exact Nat.le_refl _ | (simp; done) | (simp; omega) | omega)) | ((with_reducible refine Below.alloc ?_ ?_ _); rotate_left; · (first | exact Nat.le_refl _ | (simp; done) | (simp; omega) | omega)) | (with_reducible apply Below.drew) | (with_reducible apply below_drewN') | (refine Below.trans ?_ (Below.mono (by assumption) (by first | exact Nat.le_refl _ | (simp; done) | (simp; omega) | omega))) | exact Below.refl _ _ | assumption))
                case ca14R4 => (first | (simp [Act.put]; done) | (simp [Act.put, *]; done))
                try dsimp only
                refine wpW_det (t' := ?ct15R4) 15 (by rfl) (by kernel_rfl) (NQ_free _) (by kernel_rfl) ?cw15R4 ?ch15R4 ?ca15R4 (Eq.refl _) ?cH15R4
                case cw15R4 => (go_simp; done)
                case ch15R4 =>
                  intro ds w' hS K hK
                  have hc := (bcell hS).1
                  have hf := (bcell hS).2
                  have hz := hS.size
                  try simp at hz
                  go_simp
                  try go_bits
                  first
                    | exact hK _ hS (Gr.refl _)
                    | exact hK _ (by repeat (first | (with_reducible exact Below.refl _ _) | (with_reducible assumption) | ((with_reducible refine Below.setCell ?_ ?_ _); rotate_left; · (first | exact Nat.le_refl _ | (simp; done) | (simp; omega) | omega)) | ((with_reducible refine Below.alloc ?_ ?_ _); rotate_left; · (first | exact Nat.le_refl _ | (simp; done) | (simp; omega) | omega)) | (with_reducible apply Below.drew) | (with_reducible apply below_drewN') | (refine Below.trans ?_ (Below.mono (by assumption) (by first | exact Nat.le_refl _ | (simp; done) | (simp; omega) | omega))) | exact Below.refl _ _ | assumption)) (by repeat (first | (with_reducible exact Below.refl _ _) | (with_reducible assumption) | ((with_reducible refine Below.setCell ?_ ?_ _); rotate_left; · (first | exact Nat.le_refl _ | (simp; done) | (simp; omega) | omega)) | ((with_reducible refine Below.alloc ?_ ?_ _); rotate_left; · (first | exact Nat.le_refl _ | (simp; done) | (simp; omega) | omega)) | (with_reducible apply Below.drew) | (with_reducible apply below_drewN') | (refine Below.trans ?_ (Below.mono (by assumption) (by first | exact Nat.le_refl _ | (simp; done) | (simp; omega) | omega))) | exact Below.refl _ _ | assumption))
                case ca15R4 => (first | (simp [Act.put]; done) | (simp [Act.put, *]; done))
                try dsimp only
                refine wpW_det (t' := ?ct16R4) 16 (by rfl) (by kernel_rfl) (NQ_free _) (by kernel_rfl) ?cw16R4 ?ch16R4 ?ca16R4 (Eq.refl _) ?cH16R4
                case cw16R4 => (go_simp; done)
                case ch16R4 =>
                  intro ds w' hS K hK
                  have hc := (bcell hS).1
                  have hf := (bcell hS).2
                  have hz := hS.size
                  try simp at hz
                  go_simp
                  try go_bits
                  first
                    | exact hK _ hS (Gr.refl _)
                    | exact hK _ (by repeat (first | (with_reducible exact Below.refl _ _) | (with_reducible assumption) | ((with_reducible refine Below.setCell ?_ ?_ _); rotate_left; · (first | exact Nat.le_refl _ | (simp; done) | (simp; omega) | omega)) | ((with_reducible refine Below.alloc ?_ ?_ _); rotate_left; · (first | exact Nat.le_refl _ | (simp; done) | (simp; omega) | omega)) | (with_reducible apply Below.drew) | (with_reducible apply below_drewN') | (refine Below.trans ?_ (Below.mono (by assumption) (by first | exact Nat.le_refl _ | (simp; done) | (simp; omega) | omega))) | exact Below.refl _ _ | assumption)) (by repeat (first | (with_reducible exact Below.refl _ _) | (with_reducible assumption) | ((with_reducible refine Below.setCell ?_ ?_ _); rotate_left; · (first | exact Nat.le_refl _ | (simp; done) | (simp; omega) | omega)) | ((with_reducible refine Below.alloc ?_ ?_ _); rotate_left; · (first | exact Nat.le_refl _ | (simp; done) | (simp; omega) | omega)) | (with_reducible apply Below.drew) | (with_reducible apply below_drewN') | (refine Below.trans ?_ (Below.mono (by assumption) (by first | exact Nat.le_refl _ | (simp; done) | (simp; omega) | omega))) | exact Below.refl _ _ | assumption))
                case ca16R4 => (first | (simp [Act.put]; done) | (simp [Act.put, *]; done))
                try dsimp only
                refine wpW_det (t' := ?ct17R4) 17 (by rfl) (by kernel_rfl) (NQ_free _) (by kernel_rfl) ?cw17R4 ?ch17R4 ?ca17R4 (Eq.refl _) ?cH17R4
                case cw17R4 => (go_simp; done)
                case ch17R4 =>
                  intro ds w' hS K hK
                  have hc := (bcell hS).1
                  have hf := (bcell hS).2
                  have hz := hS.size
                  try simp at hz
                  go_simp
                  try go_bits
                  first
                    | exact hK _ hS (Gr.refl _)
                    | exact hK _ (by repeat (first | (with_reducible exact Below.refl _ _) | (with_reducible assumption) | ((with_reducible refine Below.setCell ?_ ?_ _); rotate_left; · (first | exact Nat.le_refl _ | (simp; done) | (simp; omega) | omega)) | ((with_reducible refine Below.alloc ?_ ?_ _); rotate_left; · (first | exact Nat.le_refl _ | (simp; done) | (simp; omega) | omega)) | (with_reducible apply Below.drew) | (with_reducible apply below_drewN') | (refine Below.trans ?_ (Below.mono (by assumption) (by first | exact Nat.le_refl _ | (simp; done) | (simp; omega) | omega))) | exact Below.refl _ _ | assumption)) (by repeat (first | (with_reducible exact Below.refl _ _) | (with_reducible assumption) | ((with_reducible refine Below.setCell ?_ ?_ _); rotate_left; · (first | exact Nat.le_refl _ | (simp; done) | (simp; omega) | omega)) | ((with_reducible refine Below.alloc ?_ ?_ _); rotate_left; · (first | exact Nat.le_refl _ | (simp; done) | (simp; omega) | omega)) | (with_reducible apply Below.drew) | (with_reducible apply below_drewN') | (refine Below.trans ?_ (Below.mono (by assumption) (by first | exact Nat.le_refl _ | (simp; done) | (simp; omega) | omega))) | exact Below.refl _ _ | assumption))
                case ca17R4 => (first | (simp [Act.put]; done) | (simp [Act.put, *]; done))
                try dsimp only
                refine wpW_det (t' := ?ct18R4) 18 (by rfl) (by kernel_rfl) (NQ_free _) (by kernel_rfl) ?cw18R4 ?ch18R4 ?ca18R4 (Eq.refl _) ?cH18R4
                case cw18R4 => (go_simp; done)
                case ch18R4 =>
                  intro ds w' hS K hK
                  have hc := (bcell hS).1
                  have hf := (bcell hS).2
                  have hz := hS.size
                  try simp at hz
                  go_simp
                  try go_bits
                  first
                    | exact hK _ hS (Gr.refl _)
                    | exact hK _ (by repeat (first | (with_reducible exact Below.refl _ _) | (with_reducible assumption) | ((with_reducible refine Below.setCell ?_ ?_ _); rotate_left; · (first | exact Nat.le_refl _ | (simp; done) | (simp; omega) | omega)) | ((with_reducible refine Below.alloc ?_ ?_ _); rotate_left; · (first | exact Nat.le_refl _ | (simp; done) | (simp; omega) | omega)) | (with_reducible apply Below.drew) | (with_reducible apply below_drewN') | (refine Below.trans ?_ (Below.mono (by assumption) (by first | exact Nat.le_refl _ | (simp; done) | (simp; omega) | omega))) | exact Below.refl _ _ | assumption)) (by repeat (first | (with_reducible exact Below.refl _ _) | (with_reducible assumption) | ((with_reducible refine Below.setCell ?_ ?_ _); rotate_left; · (first | exact Nat.le_refl _ | (simp; done) | (simp; omega) | omega)) | ((with_reducible refine Below.alloc ?_ ?_ _); rotate_left; · (first | exact Nat.le_refl _ | (simp; done) | (simp; omega) | omega)) | (with_reducible apply Below.drew) | (with_reducible apply below_drewN') | (refine Below.trans ?_ (Below.mono (by assumption) (by first | exact Nat.le_refl _ | (simp; done) | (simp; omega) | omega))) | exact Below.refl _ _ | assumption))
                case ca18R4 => (first | (simp [Act.put]; done) | (simp [Act.put, *]; done))
                try dsimp only
                refine wpW_end (by kernel_rfl) ?_
                intro we hg hS
                unfold NQ
                dsimp only
                exact H.out _ _ _ _ _ _ _ _ _ _ _ _ _ _ _ _ _ we hS
      · refine wpOp_go (by rfl) (Eq.refl _) (by go_simp; done) ?_
        intro K hK
        go_simp
        try simp only [Act.put]
        refine (copyInts_any Fl AF cF B _ (HF.out _ hS3) (by omega) hcF (Nat.le_trans hB (Below.size hS3)) HNF.out).mono ?_
        rintro e ws ⟨v, rfl, own, hBs⟩
        obtain ⟨DF, dF, rfl, rF, _, _⟩ := own_row2 own
        have m0 := MkOk.gr m0 hBs
        have m1 := MkOk.gr m1 hBs
        refine hK _ _ (Gr.trans hS3 hBs) ?_
        clear hK K own hBs
        refine wpW_branch [4, 11] (by kernel_rfl) (by simp) ?_
        intro w4 hg4 hS4
        try have m0 := MkOk.gr m0 hg4
        try have m1 := MkOk.gr m1 hg4
        try have rF := Row.gr rF hg4
        try have rS := Row.gr rS hg4
        refine each_cons ?_ (each_cons ?_ (each_nil))
        · refine wpOp_go (by rfl) (Eq.refl _) (by go_simp; done) ?_
          intro K hK
          go_simp
          try simp only [Act.put]
          refine hK _ _ hS4 ?_
          clear hK K
          refine wpW_branch [11] (by kernel_rfl) (by simp) ?_
          intro w5 hg5 hS5
          try have m0 := MkOk.gr m0 hg5
          try have m1 := MkOk.gr m1 hg5
          try have rF := Row.gr rF hg5
          try have rS := Row.gr rS hg5
          refine each_cons ?_ (each_nil)
          · refine wpOp_go (by rfl) (Eq.refl _) (by go_simp; done) ?_
            intro K hK
            go_simp
            try simp only [Act.put]
            refine (copyInts_any Sl AS cS B _ (HS.out _ hS5) (by omega) hcS (Nat.le_trans hB (Below.size hS5)) HNS.out).mono ?_
            rintro e ws ⟨v, rfl, own, hBs⟩
            obtain ⟨DS, dS, rfl, rS, _, _⟩ := own_row2 own
            have m0 := MkOk.gr m0 hBs
            have m1 := MkOk.gr m1 hBs
            have rF := Row.gr rF hBs
            refine hK _ _ (Gr.trans hS5 hBs) ?_
            clear hK K own hBs
            refine wpW_branch [12] (by kernel_rfl) (by simp) ?_
            intro w6 hg6 hS6
            try have m0 := MkOk.gr m0 hg6
            try have m1 := MkOk.gr m1 hg6
            try have rF := Row.gr rF hg6
            try have rS := Row.gr rS hg6
            refine each_cons ?_ (each_nil)
            · refine wpOp_go (by rfl) (Eq.refl _) (by go_simp; done) ?_
              intro K hK
              go_simp
              try simp only [Act.put]
              refine hK _ _ hS6 ?_
              clear hK K
              refine wpW_branch [13] (by kernel_rfl) (by simp) ?_
              intro w7 hg7 hS7
              try have m0 := MkOk.gr m0 hg7
              try have m1 := MkOk.gr m1 hg7
              try have rF := Row.gr rF hg7
              try have rS := Row.gr rS hg7
              refine each_cons ?_ (each_nil)
              · refine wpOp_go (by rfl) (Eq.refl _) (by go_simp; done) ?_
                intro K hK
                go_simp
                try simp only [Act.put]
                refine (checkCover_any l0 l1 D0 D1 DF DS d0 d1 dF dS _ slack Fl Sl _ m0 m1 rF rS q0 q1 (Nat.le_refl _) hn0 hn1 hnF hnS).mono ?_
                rintro e ws ⟨rfl, hBs⟩
                refine hK _ _ (Gr.trans hS7 hBs) ?_
                clear hK K m0 m1 rF rS hBs
                refine wpW_det (t' := ?ct14R5) 14 (by rfl) (by kernel_rfl) (NQ_free _) (by kernel_rfl) ?cw14R5 ?ch14R5 ?ca14R5 (Eq.refl _) ?cH14R5
                case cw14R5 => (go_simp; done)
                case ch14R5 =>
                  intro ds w' hS K hK
                  have hc := (bcell hS).1
                  have hf := (bcell hS).2
                  have hz := hS.size
                  try simp at hz
                  go_simp
                  try go_bits
                  first
                    | exact hK _ hS (Gr.refl _)
                    | exact hK _ (by repeat (first | (with_reducible exact Below.refl _ _) | (with_reducible assumption) | ((with_reducible refine Below.setCell ?_ ?_ _); rotate_left; · (first | exact Nat.le_refl _ | (simp; done) | (simp; omega) | omega)) | ((with_reducible refine Below.alloc ?_ ?_ _); rotate_left; · (first | exact Nat.le_refl _ | (simp; done) | (simp; omega) | omega)) | (with_reducible apply Below.drew) | (with_reducible apply below_drewN') | (refine Below.trans ?_ (Below.mono (by assumption) (by first | exact Nat.le_refl _ | (simp; done) | (simp; omega) | omega))) | exact Below.refl _ _ | assumption)) (by repeat (first | (with_reducible exact Below.refl _ _) | (with_reducible assumption) | ((with_reducible refine Below.setCell ?_ ?_ _); rotate_left; · (first | exact Nat.le_refl _ | (simp; done) | (simp; omega) | omega)) | ((with_reducible refine Below.alloc ?_ ?_ _); rotate_left; · (first | exact Nat.le_refl _ | (simp; done) | (simp; omega) | omega)) | (with_reducible apply Below.drew) | (with_reducible apply below_drewN') | (refine Below.trans ?_ (Below.mono (by assumption) (by first | exact Nat.le_refl _ | (simp; done) | (simp; omega) | omega))) | exact Below.refl _ _ | assumption))
                case ca14R5 => (first | (simp [Act.put]; done) | (simp [Act.put, *]; done))
                try dsimp only
                refine wpW_det (t' := ?ct15R5) 15 (by rfl) (by kernel_rfl) (NQ_free _) (by kernel_rfl) ?cw15R5 ?ch15R5 ?ca15R5 (Eq.refl _) ?cH15R5
                case cw15R5 => (go_simp; done)
                case ch15R5 =>
                  intro ds w' hS K hK
                  have hc := (bcell hS).1
                  have hf := (bcell hS).2
                  have hz := hS.size
                  try simp at hz
                  go_simp
                  try go_bits
                  first
                    | exact hK _ hS (Gr.refl _)
                    | exact hK _ (by repeat (first | (with_reducible exact Below.refl _ _) | (with_reducible assumption) | ((with_reducible refine Below.setCell ?_ ?_ _); rotate_left; · (first | exact Nat.le_refl _ | (simp; done) | (simp; omega) | omega)) | ((with_reducible refine Below.alloc ?_ ?_ _); rotate_left; · (first | exact Nat.le_refl _ | (simp; done) | (simp; omega) | omega)) | (with_reducible apply Below.drew) | (with_reducible apply below_drewN') | (refine Below.trans ?_ (Below.mono (by assumption) (by first | exact Nat.le_refl _ | (simp; done) | (simp; omega) | omega))) | exact Below.refl _ _ | assumption)) (by repeat (first | (with_reducible exact Below.refl _ _) | (with_reducible assumption) | ((with_reducible refine Below.setCell ?_ ?_ _); rotate_left; · (first | exact Nat.le_refl _ | (simp; done) | (simp; omega) | omega)) | ((with_reducible refine Below.alloc ?_ ?_ _); rotate_left; · (first | exact Nat.le_refl _ | (simp; done) | (simp; omega) | omega)) | (with_reducible apply Below.drew) | (with_reducible apply below_drewN') | (refine Below.trans ?_ (Below.mono (by assumption) (by first | exact Nat.le_refl _ | (simp; done) | (simp; omega) | omega))) | exact Below.refl _ _ | assumption))
                case ca15R5 => (first | (simp [Act.put]; done) | (simp [Act.put, *]; done))
                try dsimp only
                refine wpW_det (t' := ?ct16R5) 16 (by rfl) (by kernel_rfl) (NQ_free _) (by kernel_rfl) ?cw16R5 ?ch16R5 ?ca16R5 (Eq.refl _) ?cH16R5
                case cw16R5 => (go_simp; done)
                case ch16R5 =>
                  intro ds w' hS K hK
                  have hc := (bcell hS).1
                  have hf := (bcell hS).2
                  have hz := hS.size
                  try simp at hz
                  go_simp
                  try go_bits
                  first
                    | exact hK _ hS (Gr.refl _)
                    | exact hK _ (by repeat (first | (with_reducible exact Below.refl _ _) | (with_reducible assumption) | ((with_reducible refine Below.setCell ?_ ?_ _); rotate_left; · (first | exact Nat.le_refl _ | (simp; done) | (simp; omega) | omega)) | ((with_reducible refine Below.alloc ?_ ?_ _); rotate_left; · (first | exact Nat.le_refl _ | (simp; done) | (simp; omega) | omega)) | (with_reducible apply Below.drew) | (with_reducible apply below_drewN') | (refine Below.trans ?_ (Below.mono (by assumption) (by first | exact Nat.le_refl _ | (simp; done) | (simp; omega) | omega))) | exact Below.refl _ _ | assumption)) (by repeat (first | (with_reducible exact Below.refl _ _) | (with_reducible assumption) | ((with_reducible refine Below.setCell ?_ ?_ _); rotate_left; · (first | exact Nat.le_refl _ | (simp; done) | (simp; omega) | omega)) | ((with_reducible refine Below.alloc ?_ ?_ _); rotate_left; · (first | exact Nat.le_refl _ | (simp; done) | (simp; omega) | omega)) | (with_reducible apply Below.drew) | (with_reducible apply below_drewN') | (refine Below.trans ?_ (Below.mono (by assumption) (by first | exact Nat.le_refl _ | (simp; done) | (simp; omega) | omega))) | exact Below.refl _ _ | assumption))
                case ca16R5 => (first | (simp [Act.put]; done) | (simp [Act.put, *]; done))
                try dsimp only
                refine wpW_det (t' := ?ct17R5) 17 (by rfl) (by kernel_rfl) (NQ_free _) (by kernel_rfl) ?cw17R5 ?ch17R5 ?ca17R5 (Eq.refl _) ?cH17R5
                case cw17R5 => (go_simp; done)
                case ch17R5 =>
                  intro ds w' hS K hK
                  have hc := (bcell hS).1
                  have hf := (bcell hS).2
                  have hz := hS.size
                  try simp at hz
                  go_simp
                  try go_bits
                  first
                    | exact hK _ hS (Gr.refl _)
                    | exact hK _ (by repeat (first | (with_reducible exact Below.refl _ _) | (with_reducible assumption) | ((with_reducible refine Below.setCell ?_ ?_ _); rotate_left; · (first | exact Nat.le_refl _ | (simp; done) | (simp; omega) | omega)) | ((with_reducible refine Below.alloc ?_ ?_ _); rotate_left; · (first | exact Nat.le_refl _ | (simp; done) | (simp; omega) | omega)) | (with_reducible apply Below.drew) | (with_reducible apply below_drewN') | (refine Below.trans ?_ (Below.mono (by assumption) (by first | exact Nat.le_refl _ | (simp; done) | (simp; omega) | omega))) | exact Below.refl _ _ | assumption)) (by repeat (first | (with_reducible exact Below.refl _ _) | (with_reducible assumption) | ((with_reducible refine Below.setCell ?_ ?_ _); rotate_left; · (first | exact Nat.le_refl _ | (simp; done) | (simp; omega) | omega)) | ((with_reducible refine Below.alloc ?_ ?_ _); rotate_left; · (first | exact Nat.le_refl _ | (simp; done) | (simp; omega) | omega)) | (with_reducible apply Below.drew) | (with_reducible apply below_drewN') | (refine Below.trans ?_ (Below.mono (by assumption) (by first | exact Nat.le_refl _ | (simp; done) | (simp; omega) | omega))) | exact Below.refl _ _ | assumption))
                case ca17R5 => (first | (simp [Act.put]; done) | (simp [Act.put, *]; done))
                try dsimp only
                refine wpW_det (t' := ?ct18R5) 18 (by rfl) (by kernel_rfl) (NQ_free _) (by kernel_rfl) ?cw18R5 ?ch18R5 ?ca18R5 (Eq.refl _) ?cH18R5
                case cw18R5 => (go_simp; done)
                case ch18R5 =>
                  intro ds w' hS K hK
                  have hc := (bcell hS).1
                  have hf := (bcell hS).2
                  have hz := hS.size
                  try simp at hz
                  go_simp
                  try go_bits
                  first
                    | exact hK _ hS (Gr.refl _)
                    | exact hK _ (by repeat (first | (with_reducible exact Below.refl _ _) | (with_reducible assumption) | ((with_reducible refine Below.setCell ?_ ?_ _); rotate_left; · (first | exact Nat.le_refl _ | (simp; done) | (simp; omega) | omega)) | ((with_reducible refine Below.alloc ?_ ?_ _); rotate_left; · (first | exact Nat.le_refl _ | (simp; done) | (simp; omega) | omega)) | (with_reducible apply Below.drew) | (with_reducible apply below_drewN') | (refine Below.trans ?_ (Below.mono (by assumption) (by first | exact Nat.le_refl _ | (simp; done) | (simp; omega) | omega))) | exact Below.refl _ _ | assumption)) (by repeat (first | (with_reducible exact Below.refl _ _) | (with_reducible assumption) | ((with_reducible refine Below.setCell ?_ ?_ _); rotate_left; · (first | exact Nat.le_refl _ | (simp; done) | (simp; omega) | omega)) | ((with_reducible refine Below.alloc ?_ ?_ _); rotate_left; · (first | exact Nat.le_refl _ | (simp; done) | (simp; omega) | omega)) | (with_reducible apply Below.drew) | (with_reducible apply below_drewN') | (refine Below.trans ?_ (Below.mono (by assumption) (by first | exact Nat.le_refl _ | (simp; done) | (simp; omega) | omega))) | exact Below.refl _ _ | assumption))
                case ca18R5 => (first | (simp [Act.put]; done) | (simp [Act.put, *]; done))
                try dsimp only
                refine wpW_end (by kernel_rfl) ?_
                intro we hg hS
                unfold NQ
                dsimp only
                exact H.out _ _ _ _ _ _ _ _ _ _ _ _ _ _ _ _ _ we hS
        · refine wpOp_go (by rfl) (Eq.refl _) (by go_simp; done) ?_
          intro K hK
          go_simp
          try simp only [Act.put]
          refine (copyInts_any Sl AS cS B _ (HS.out _ hS4) (by omega) hcS (Nat.le_trans hB (Below.size hS4)) HNS.out).mono ?_
          rintro e ws ⟨v, rfl, own, hBs⟩
          obtain ⟨DS, dS, rfl, rS, _, _⟩ := own_row2 own
          have m0 := MkOk.gr m0 hBs
          have m1 := MkOk.gr m1 hBs
          have rF := Row.gr rF hBs
          refine hK _ _ (Gr.trans hS4 hBs) ?_
          clear hK K own hBs
          refine wpW_branch [4, 12] (by kernel_rfl) (by simp) ?_
          intro w5 hg5 hS5
          try have m0 := MkOk.gr m0 hg5
          try have m1 := MkOk.gr m1 hg5
          try have rF := Row.gr rF hg5
          try have rS := Row.gr rS hg5
          refine each_cons ?_ (each_cons ?_ (each_nil))
          · refine wpOp_go (by rfl) (Eq.refl _) (by go_simp; done) ?_
            intro K hK
            go_simp
            try simp only [Act.put]
            refine hK _ _ hS5 ?_
            clear hK K
            refine wpW_branch [12] (by kernel_rfl) (by simp) ?_
            intro w6 hg6 hS6
            try have m0 := MkOk.gr m0 hg6
            try have m1 := MkOk.gr m1 hg6
            try have rF := Row.gr rF hg6
            try have rS := Row.gr rS hg6
            refine each_cons ?_ (each_nil)
            · refine wpOp_go (by rfl) (Eq.refl _) (by go_simp; done) ?_
              intro K hK
              go_simp
              try simp only [Act.put]
              refine hK _ _ hS6 ?_
              clear hK K
              refine wpW_branch [13] (by kernel_rfl) (by simp) ?_
              intro w7 hg7 hS7
              try have m0 := MkOk.gr m0 hg7
              try have m1 := MkOk.gr m1 hg7
              try have rF := Row.gr rF hg7
              try have rS := Row.gr rS hg7
              refine each_cons ?_ (each_nil)
              · refine wpOp_go (by rfl) (Eq.refl _) (by go_simp; done) ?_
                intro K hK
                go_simp
                try simp only [Act.put]
                refine (checkCover_any l0 l1 D0 D1 DF DS d0 d1 dF dS _ slack Fl Sl _ m0 m1 rF rS q0 q1 (Nat.le_refl _) hn0 hn1 hnF hnS).mono ?_
                rintro e ws ⟨rfl, hBs⟩
                refine hK _ _ (Gr.trans hS7 hBs) ?_
                clear hK K m0 m1 rF rS hBs
                refine wpW_det (t' := ?ct14R6) 14 (by rfl) (by kernel_rfl) (NQ_free _) (by kernel_rfl) ?cw14R6 ?ch14R6 ?ca14R6 (Eq.refl _) ?cH14R6
                case cw14R6 => (go_simp; done)
                case ch14R6 =>
                  intro ds w' hS K hK
                  have hc := (bcell hS).1
                  have hf := (bcell hS).2
                  have hz := hS.size
                  try simp at hz
                  go_simp
                  try go_bits
                  first
                    | exact hK _ hS (Gr.refl _)
                    | exact hK _ (by repeat (first | (with_reducible exact Below.refl _ _) | (with_reducible assumption) | ((with_reducible refine Below.setCell ?_ ?_ _); rotate_left; · (first | exact Nat.le_refl _ | (simp; done) | (simp; omega) | omega)) | ((with_reducible refine Below.alloc ?_ ?_ _); rotate_left; · (first | exact Nat.le_refl _ | (simp; done) | (simp; omega) | omega)) | (with_reducible apply Below.drew) | (with_reducible apply below_drewN') | (refine Below.trans ?_ (Below.mono (by assumption) (by first | exact Nat.le_refl _ | (simp; done) | (simp; omega) | omega))) | exact Below.refl _ _ | assumption)) (by repeat (first | (with_reducible exact Below.refl _ _) | (with_reducible assumption) | ((with_reducible refine Below.setCell ?_ ?_ _); rotate_left; · (first | exact Nat.le_refl _ | (simp; done) | (simp; omega) | omega)) | ((with_reducible refine Below.alloc ?_ ?_ _); rotate_left; · (first | exact Nat.le_refl _ | (simp; done) | (simp; omega) | omega)) | (with_reducible apply Below.drew) | (with_reducible apply below_drewN') | (refine Below.trans ?_ (Below.mono (by assumption) (by first | exact Nat.le_refl _ | (simp; done) | (simp; omega) | omega))) | exact Below.refl _ _ | assumption))
                case ca14R6 => (first | (simp [Act.put]; done) | (simp [Act.put, *]; done))
                try dsimp only
                refine wpW_det (t' := ?ct15R6) 15 (by rfl) (by kernel_rfl) (NQ_free _) (by kernel_rfl) ?cw15R6 ?ch15R6 ?ca15R6 (Eq.refl _) ?cH15R6
                case cw15R6 => (go_simp; done)
                case ch15R6 =>
                  intro ds w' hS K hK
                  have hc := (bcell hS).1
                  have hf := (bcell hS).2
                  have hz := hS.size
                  try simp at hz
                  go_simp
                  try go_bits
                  first
                    | exact hK _ hS (Gr.refl _)
                    | exact hK _ (by repeat (first | (with_reducible exact Below.refl _ _) | (with_reducible assumption) | ((with_reducible refine Below.setCell ?_ ?_ _); rotate_left; · (first | exact Nat.le_refl _ | (simp; done) | (simp; omega) | omega)) | ((with_reducible refine Below.alloc ?_ ?_ _); rotate_left; · (first | exact Nat.le_refl _ | (simp; done) | (simp; omega) | omega)) | (with_reducible apply Below.drew) | (with_reducible apply below_drewN') | (refine Below.trans ?_ (Below.mono (by assumption) (by first | exact Nat.le_refl _ | (simp; done) | (simp; omega) | omega))) | exact Below.refl _ _ | assumption)) (by repeat (first | (with_reducible exact Below.refl _ _) | (with_reducible assumption) | ((with_reducible refine Below.setCell ?_ ?_ _); rotate_left; · (first | exact Nat.le_refl _ | (simp; done) | (simp; omega) | omega)) | ((with_reducible refine Below.alloc ?_ ?_ _); rotate_left; · (first | exact Nat.le_refl _ | (simp; done) | (simp; omega) | omega)) | (with_reducible apply Below.drew) | (with_reducible apply below_drewN') | (refine Below.trans ?_ (Below.mono (by assumption) (by first | exact Nat.le_refl _ | (simp; done) | (simp; omega) | omega))) | exact Below.refl _ _ | assumption))
                case ca15R6 => (first | (simp [Act.put]; done) | (simp [Act.put, *]; done))
                try dsimp only
                refine wpW_det (t' := ?ct16R6) 16 (by rfl) (by kernel_rfl) (NQ_free _) (by kernel_rfl) ?cw16R6 ?ch16R6 ?ca16R6 (Eq.refl _) ?cH16R6
                case cw16R6 => (go_simp; done)
                case ch16R6 =>
                  intro ds w' hS K hK
                  have hc := (bcell hS).1
                  have hf := (bcell hS).2
                  have hz := hS.size
                  try simp at hz
                  go_simp
                  try go_bits
                  first
                    | exact hK _ hS (Gr.refl _)
                    | exact hK _ (by repeat (first | (with_reducible exact Below.refl _ _) | (with_reducible assumption) | ((with_reducible refine Below.setCell ?_ ?_ _); rotate_left; · (first | exact Nat.le_refl _ | (simp; done) | (simp; omega) | omega)) | ((with_reducible refine Below.alloc ?_ ?_ _); rotate_left; · (first | exact Nat.le_refl _ | (simp; done) | (simp; omega) | omega)) | (with_reducible apply Below.drew) | (with_reducible apply below_drewN') | (refine Below.trans ?_ (Below.mono (by assumption) (by first | exact Nat.le_refl _ | (simp; done) | (simp; omega) | omega))) | exact Below.refl _ _ | assumption)) (by repeat (first | (with_reducible exact Below.refl _ _) | (with_reducible assumption) | ((with_reducible refine Below.setCell ?_ ?_ _); rotate_left; · (first | exact Nat.le_refl _ | (simp; done) | (simp; omega) | omega)) | ((with_reducible refine Below.alloc ?_ ?_ _); rotate_left; · (first | exact Nat.le_refl _ | (simp; done) | (simp; omega) | omega)) | (with_reducible apply Below.drew) | (with_reducible apply below_drewN') | (refine Below.trans ?_ (Below.mono (by assumption) (by first | exact Nat.le_refl _ | (simp; done) | (simp; omega) | omega))) | exact Below.refl _ _ | assumption))
                case ca16R6 => (first | (simp [Act.put]; done) | (simp [Act.put, *]; done))
                try dsimp only
                refine wpW_det (t' := ?ct17R6) 17 (by rfl) (by kernel_rfl) (NQ_free _) (by kernel_rfl) ?cw17R6 ?ch17R6 ?ca17R6 (Eq.refl _) ?cH17R6
                case cw17R6 => (go_simp; done)
                case ch17R6 =>
                  intro ds w' hS K hK
                  have hc := (bcell hS).1
                  have hf := (bcell hS).2
                  have hz := hS.size
                  try simp at hz
                  go_simp
                  try go_bits
                  first
                    | exact hK _ hS (Gr.refl _)
                    | exact hK _ (by repeat (first | (with_reducible exact Below.refl _ _) | (with_reducible assumption) | ((with_reducible refine Below.setCell ?_ ?_ _); rotate_left; · (first | exact Nat.le_refl _ | (simp; done) | (simp; omega) | omega)) | ((with_reducible refine Below.alloc ?_ ?_ _); rotate_left; · (first | exact Nat.le_refl _ | (simp; done) | (simp; omega) | omega)) | (with_reducible apply Below.drew) | (with_reducible apply below_drewN') | (refine Below.trans ?_ (Below.mono (by assumption) (by first | exact Nat.le_refl _ | (simp; done) | (simp; omega) | omega))) | exact Below.refl _ _ | assumption)) (by repeat (first | (with_reducible exact Below.refl _ _) | (with_reducible assumption) | ((with_reducible refine Below.setCell ?_ ?_ _); rotate_left; · (first | exact Nat.le_refl _ | (simp; done) | (simp; omega) | omega)) | ((with_reducible refine Below.alloc ?_ ?_ _); rotate_left; · (first | exact Nat.le_refl _ | (simp; done) | (simp; omega) | omega)) | (with_reducible apply Below.drew) | (with_reducible apply below_drewN') | (refine Below.trans ?_ (Below.mono (by assumption) (by first | exact Nat.le_refl _ | (simp; done) | (simp; omega) | omega))) | exact Below.refl _ _ | assumption))
                case ca17R6 => (first | (simp [Act.put]; done) | (simp [Act.put, *]; done))
                try dsimp only
                refine wpW_det (t' := ?ct18R6) 18 (by rfl) (by kernel_rfl) (NQ_free _) (by kernel_rfl) ?cw18R6 ?ch18R6 ?ca18R6 (Eq.refl _) ?cH18R6
                case cw18R6 => (go_simp; done)
                case ch18R6 =>
                  intro ds w' hS K hK
                  have hc := (bcell hS).1
                  have hf := (bcell hS).2
                  have hz := hS.size
                  try simp at hz
                  go_simp
                  try go_bits
                  first
                    | exact hK _ hS (Gr.refl _)
                    | exact hK _ (by repeat (first | (with_reducible exact Below.refl _ _) | (with_reducible assumption) | ((with_reducible refine Below.setCell ?_ ?_ _); rotate_left; · (first | exact Nat.le_refl _ | (simp; done) | (simp; omega) | omega)) | ((with_reducible refine Below.alloc ?_ ?_ _); rotate_left; · (first | exact Nat.le_refl _ | (simp; done) | (simp; omega) | omega)) | (with_reducible apply Below.drew) | (with_reducible apply below_drewN') | (refine Below.trans ?_ (Below.mono (by assumption) (by first | exact Nat.le_refl _ | (simp; done) | (simp; omega) | omega))) | exact Below.refl _ _ | assumption)) (by repeat (first | (with_reducible exact Below.refl _ _) | (with_reducible assumption) | ((with_reducible refine Below.setCell ?_ ?_ _); rotate_left; · (first | exact Nat.le_refl _ | (simp; done) | (simp; omega) | omega)) | ((with_reducible refine Below.alloc ?_ ?_ _); rotate_left; · (first | exact Nat.le_refl _ | (simp; done) | (simp; omega) | omega)) | (with_reducible apply Below.drew) | (with_reducible apply below_drewN') | (refine Below.trans ?_ (Below.mono (by assumption) (by first | exact Nat.le_refl _ | (simp; done) | (simp; omega) | omega))) | exact Below.refl _ _ | assumption))
                case ca18R6 => (first | (simp [Act.put]; done) | (simp [Act.put, *]; done))
                try dsimp only
                refine wpW_end (by kernel_rfl) ?_
                intro we hg hS
                unfold NQ
                dsimp only
                exact H.out _ _ _ _ _ _ _ _ _ _ _ _ _ _ _ _ _ we hS
          · refine wpOp_go (by rfl) (Eq.refl _) (by go_simp; done) ?_
            intro K hK
            go_simp
            try simp only [Act.put]
            refine hK _ _ hS5 ?_
            clear hK K
            refine wpW_branch [4] (by kernel_rfl) (by simp) ?_
            intro w6 hg6 hS6
            try have m0 := MkOk.gr m0 hg6
            try have m1 := MkOk.gr m1 hg6
            try have rF := Row.gr rF hg6
            try have rS := Row.gr rS hg6
            refine each_cons ?_ (each_nil)
            · refine wpOp_go (by rfl) (Eq.refl _) (by go_simp; done) ?_
              intro K hK
              go_simp
              try simp only [Act.put]
              refine hK _ _ hS6 ?_
              clear hK K
              refine wpW_branch [13] (by kernel_rfl) (by simp) ?_
              intro w7 hg7 hS7
              try have m0 := MkOk.gr m0 hg7
              try have m1 := MkOk.gr m1 hg7
              try have rF := Row.gr rF hg7
              try have rS := Row.gr rS hg7
              refine each_cons ?_ (each_nil)
              · refine wpOp_go (by rfl) (Eq.refl _) (by go_simp; done) ?_
                intro K hK
                go_simp
                try simp only [Act.put]
                refine (checkCover_any l0 l1 D0 D1 DF DS d0 d1 dF dS _ slack Fl Sl _ m0 m1 rF rS q0 q1 (Nat.le_refl _) hn0 hn1 hnF hnS).mono ?_
                rintro e ws ⟨rfl, hBs⟩
                refine hK _ _ (Gr.trans hS7 hBs) ?_
                clear hK K m0 m1 rF rS hBs
                refine wpW_det (t' := ?ct14R7) 14 (by rfl) (by kernel_rfl) (NQ_free _) (by kernel_rfl) ?cw14R7 ?ch14R7 ?ca14R7 (Eq.refl _) ?cH14R7
                case cw14R7 => (go_simp; done)
                case ch14R7 =>
                  intro ds w' hS K hK
                  have hc := (bcell hS).1
                  have hf := (bcell hS).2
                  have hz := hS.size
                  try simp at hz
                  go_simp
                  try go_bits
                  first
                    | exact hK _ hS (Gr.refl _)
                    | exact hK _ (by repeat (first | (with_reducible exact Below.refl _ _) | (with_reducible assumption) | ((with_reducible refine Below.setCell ?_ ?_ _); rotate_left; · (first | exact Nat.le_refl _ | (simp; done) | (simp; omega) | omega)) | ((with_reducible refine Below.alloc ?_ ?_ _); rotate_left; · (first | exact Nat.le_refl _ | (simp; done) | (simp; omega) | omega)) | (with_reducible apply Below.drew) | (with_reducible apply below_drewN') | (refine Below.trans ?_ (Below.mono (by assumption) (by first | exact Nat.le_refl _ | (simp; done) | (simp; omega) | omega))) | exact Below.refl _ _ | assumption)) (by repeat (first | (with_reducible exact Below.refl _ _) | (with_reducible assumption) | ((with_reducible refine Below.setCell ?_ ?_ _); rotate_left; · (first | exact Nat.le_refl _ | (simp; done) | (simp; omega) | omega)) | ((with_reducible refine Below.alloc ?_ ?_ _); rotate_left; · (first | exact Nat.le_refl _ | (simp; done) | (simp; omega) | omega)) | (with_reducible apply Below.drew) | (with_reducible apply below_drewN') | (refine Below.trans ?_ (Below.mono (by assumption) (by first | exact Nat.le_refl _ | (simp; done) | (simp; omega) | omega))) | exact Below.refl _ _ | assumption))
                case ca14R7 => (first | (simp [Act.put]; done) | (simp [Act.put, *]; done))
                try dsimp only
                refine wpW_det (t' := ?ct15R7) 15 (by rfl) (by kernel_rfl) (NQ_free _) (by kernel_rfl) ?cw15R7 ?ch15R7 ?ca15R7 (Eq.refl _) ?cH15R7
                case cw15R7 => (go_simp; done)
                case ch15R7 =>
                  intro ds w' hS K hK
                  have hc := (bcell hS).1
                  have hf := (bcell hS).2
                  have hz := hS.size
                  try simp at hz
                  go_simp
                  try go_bits
                  first
                    | exact hK _ hS (Gr.refl _)
                    | exact hK _ (by repeat (first | (with_reducible exact Below.refl _ _) | (with_reducible assumption) | ((with_reducible refine Below.setCell ?_ ?_ _); rotate_left; · (first | exact Nat.le_refl _ | (simp; done) | (simp; omega) | omega)) | ((with_reducible refine Below.alloc ?_ ?_ _); rotate_left; · (first | exact Nat.le_refl _ | (simp; done) | (simp; omega) | omega)) | (with_reducible apply Below.drew) | (with_reducible apply below_drewN') | (refine Below.trans ?_ (Below.mono (by assumption) (by first | exact Nat.le_refl _ | (simp; done) | (simp; omega) | omega))) | exact Below.refl _ _ | assumption)) (by repeat (first | (with_reducible exact Below.refl _ _) | (with_reducible assumption) | ((with_reducible refine Below.setCell ?_ ?_ _); rotate_left; · (first | exact Nat.le_refl _ | (simp; done) | (simp; omega) | omega)) | ((with_reducible refine Below.alloc ?_ ?_ _); rotate_left; · (first | exact Nat.le_refl _ | (simp; done) | (simp; omega) | omega)) | (with_reducible apply Below.drew) | (with_reducible apply below_drewN') | (refine Below.trans ?_ (Below.mono (by assumption) (by first | exact Nat.le_refl _ | (simp; done) | (simp; omega) | omega))) | exact Below.refl _ _ | assumption))
                case ca15R7 => (first | (simp [Act.put]; done) | (simp [Act.put, *]; done))
                try dsimp only
                refine wpW_det (t' := ?ct16R7) 16 (by rfl) (by kernel_rfl) (NQ_free _) (by kernel_rfl) ?cw16R7 ?ch16R7 ?ca16R7 (Eq.refl _) ?cH16R7
                case cw16R7 => (go_simp; done)
                case ch16R7 =>
                  intro ds w' hS K hK
                  have hc := (bcell hS).1
                  have hf := (bcell hS).2
                  have hz := hS.size
                  try simp at hz
                  go_simp
                  try go_bits
                  first
                    | exact hK _ hS (Gr.refl _)
                    | exact hK _ (by repeat (first | (with_reducible exact Below.refl _ _) | (with_reducible assumption) | ((with_reducible refine Below.setCell ?_ ?_ _); rotate_left; · (first | exact Nat.le_refl _ | (simp; done) | (simp; omega) | omega)) | ((with_reducible refine Below.alloc ?_ ?_ _); rotate_left; · (first | exact Nat.le_refl _ | (simp; done) | (simp; omega) | omega)) | (with_reducible apply Below.drew) | (with_reducible apply below_drewN') | (refine Below.trans ?_ (Below.mono (by assumption) (by first | exact Nat.le_refl _ | (simp; done) | (simp; omega) | omega))) | exact Below.refl _ _ | assumption)) (by repeat (first | (with_reducible exact Below.refl _ _) | (with_reducible assumption) | ((with_reducible refine Below.setCell ?_ ?_ _); rotate_left; · (first | exact Nat.le_refl _ | (simp; done) | (simp; omega) | omega)) | ((with_reducible refine Below.alloc ?_ ?_ _); rotate_left; · (first | exact Nat.le_refl _ | (simp; done) | (simp; omega) | omega)) | (with_reducible apply Below.drew) | (with_reducible apply below_drewN') | (refine Below.trans ?_ (Below.mono (by assumption) (by first | exact Nat.le_refl _ | (simp; done) | (simp; omega) | omega))) | exact Below.refl _ _ | assumption))
                case ca16R7 => (first | (simp [Act.put]; done) | (simp [Act.put, *]; done))
                try dsimp only
                refine wpW_det (t' := ?ct17R7) 17 (by rfl) (by kernel_rfl) (NQ_free _) (by kernel_rfl) ?cw17R7 ?ch17R7 ?ca17R7 (Eq.refl _) ?cH17R7
                case cw17R7 => (go_simp; done)
                case ch17R7 =>
                  intro ds w' hS K hK
                  have hc := (bcell hS).1
                  have hf := (bcell hS).2
                  have hz := hS.size
                  try simp at hz
                  go_simp
                  try go_bits
                  first
                    | exact hK _ hS (Gr.refl _)
                    | exact hK _ (by repeat (first | (with_reducible exact Below.refl _ _) | (with_reducible assumption) | ((with_reducible refine Below.setCell ?_ ?_ _); rotate_left; · (first | exact Nat.le_refl _ | (simp; done) | (simp; omega) | omega)) | ((with_reducible refine Below.alloc ?_ ?_ _); rotate_left; · (first | exact Nat.le_refl _ | (simp; done) | (simp; omega) | omega)) | (with_reducible apply Below.drew) | (with_reducible apply below_drewN') | (refine Below.trans ?_ (Below.mono (by assumption) (by first | exact Nat.le_refl _ | (simp; done) | (simp; omega) | omega))) | exact Below.refl _ _ | assumption)) (by repeat (first | (with_reducible exact Below.refl _ _) | (with_reducible assumption) | ((with_reducible refine Below.setCell ?_ ?_ _); rotate_left; · (first | exact Nat.le_refl _ | (simp; done) | (simp; omega) | omega)) | ((with_reducible refine Below.alloc ?_ ?_ _); rotate_left; · (first | exact Nat.le_refl _ | (simp; done) | (simp; omega) | omega)) | (with_reducible apply Below.drew) | (with_reducible apply below_drewN') | (refine Below.trans ?_ (Below.mono (by assumption) (by first | exact Nat.le_refl _ | (simp; done) | (simp; omega) | omega))) | exact Below.refl _ _ | assumption))
                case ca17R7 => (first | (simp [Act.put]; done) | (simp [Act.put, *]; done))
                try dsimp only
                refine wpW_det (t' := ?ct18R7) 18 (by rfl) (by kernel_rfl) (NQ_free _) (by kernel_rfl) ?cw18R7 ?ch18R7 ?ca18R7 (Eq.refl _) ?cH18R7
                case cw18R7 => (go_simp; done)
                case ch18R7 =>
                  intro ds w' hS K hK
                  have hc := (bcell hS).1
                  have hf := (bcell hS).2
                  have hz := hS.size
                  try simp at hz
                  go_simp
                  try go_bits
                  first
                    | exact hK _ hS (Gr.refl _)
                    | exact hK _ (by repeat (first | (with_reducible exact Below.refl _ _) | (with_reducible assumption) | ((with_reducible refine Below.setCell ?_ ?_ _); rotate_left; · (first | exact Nat.le_refl _ | (simp; done) | (simp; omega) | omega)) | ((with_reducible refine Below.alloc ?_ ?_ _); rotate_left; · (first | exact Nat.le_refl _ | (simp; done) | (simp; omega) | omega)) | (with_reducible apply Below.drew) | (with_reducible apply below_drewN') | (refine Below.trans ?_ (Below.mono (by assumption) (by first | exact Nat.le_refl _ | (simp; done) | (simp; omega) | omega))) | exact Below.refl _ _ | assumption)) (by repeat (first | (with_reducible exact Below.refl _ _) | (with_reducible assumption) | ((with_reducible refine Below.setCell ?_ ?_ _); rotate_left; · (first | exact Nat.le_refl _ | (simp; done) | (simp; omega) | omega)) | ((with_reducible refine Below.alloc ?_ ?_ _); rotate_left; · (first | exact Nat.le_refl _ | (simp; done) | (simp; omega) | omega)) | (with_reducible apply Below.drew) | (with_reducible apply below_drewN') | (refine Below.trans ?_ (Below.mono (by assumption) (by first | exact Nat.le_refl _ | (simp; done) | (simp; omega) | omega))) | exact Below.refl _ _ | assumption))
                case ca18R7 => (first | (simp [Act.put]; done) | (simp [Act.put, *]; done))
                try dsimp only
                refine wpW_end (by kernel_rfl) ?_
                intro we hg hS
                unfold NQ
                dsimp only
                exact H.out _ _ _ _ _ _ _ _ _ _ _ _ _ _ _ _ _ we hS
end Go.Proofs.YtidgeagpgllkeaaGreat
