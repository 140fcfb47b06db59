/- Contract: whether a list has a number; an order of marks, built up. -/
import Derived.Test.YtidgeagpgllkeaaGreatFkA
import Derived.Test.YtidgeagpgllkeaaGreatFcH
import Derived.Test.YtidgeagpgllkeaaGreatFeB
namespace Go.Proofs.YtidgeagpgllkeaaGreat
open Go.RowKit

theorem intAtQ {w : World} {B : Nat} {A : Option Addr} {zs : List Int} (h : Row w B 1 A zs.length (intsC zs)) {k : Nat} (hk : k < zs.length) : ∃ g o, A = some ⟨g, o, none⟩ ∧ g < B ∧ w.cell? ⟨g, o + k, none⟩ = some (.int .i64 zs[k]) := by
  obtain ⟨g, o, hA, hg, hc⟩ := h.2 (by omega)
  exact ⟨g, o, hA, hg, hc k _ (by simp [intsC, List.getElem?_eq_getElem hk])⟩

set_option maxRecDepth 100000 in
set_option maxHeartbeats 1000000 in
theorem bHas_any (zs : List Int) (A : Option Addr) (c B : Nat) (n : Int) (w : World) (hR : Row w B 1 A zs.length (intsC zs)) (hl : zs.length ≤ 9223372036854775807) (hB : B ≤ w.heap.size) :
    Calls Tryz.prog 45 #[.slice A zs.length c, .int .i64 n] w fun e w' => e = .returned (.bool (zs.contains n)) ∧ w = w' := by
  go_enter Tryz.func45, Tryz.ntmps45
  go_wp2
  go_loopw [5] (fun i wr => ∃ k : Nat, k ≤ zs.length ∧ i = .int .i64 k ∧ Hid (∀ j (h : j < zs.length), j < k → zs[j] ≠ n) ∧ w = wr) (fun i _ => zs.length - (intOf i).toNat)
  case atStart => exact ⟨0, Nat.zero_le _, rfl, Lib.hid (fun j _ hj => absurd hj (by omega)), rfl⟩
  case round =>
    obtain ⟨k, hk, rfl, HI, rfl⟩ := hrel
    by_cases hlt : k < zs.length
    · obtain ⟨g, o, hA, hg, c0⟩ := intAtQ hR hlt
      have i1 : ((k : Int) < (zs.length : Int)) := by omega
      have hgw : g < w.heap.size := by omega
      by_cases he : zs[k] = n
      · have HE : Hid (zs.contains n = true) := Lib.hid (List.contains_iff_mem.2 (he ▸ List.getElem_mem hlt))
        rw [he] at c0
        clear he
        subst hA
        go_wp2
        go_ret
        exact ⟨by rw [HE.out]; rfl, rfl⟩
      · have HX : Hid (∀ j (h : j < zs.length), j < k + 1 → zs[j] ≠ n) := Lib.hid (fun j hj hjk => by
          by_cases e : j = k
          · subst e; exact he
          · exact HI.out j hj (by omega))
        have he' : (zs[k] == n) = false := by simpa using he
        generalize zs[k] = z at *
        clear he
        subst hA
        go_wp2
        exact ⟨⟨k + 1, by omega, by go_num, HX, by first | trivial | rfl⟩, by simp [intOf]; omega⟩
    · obtain rfl : k = zs.length := by omega
      have HE : Hid (zs.contains n = false) := Lib.hid (by
        cases hc : zs.contains n
        · rfl
        · obtain ⟨j, hj, e⟩ := List.getElem_of_mem (List.contains_iff_mem.1 hc)
          exact absurd e (HI.out j hj hj))
      go_wp2
      go_ret
      exact ⟨by rw [HE.out]; rfl, rfl⟩

/-- Numbers and marks so far, in rows of the call's own. -/
structure OrdM (w : World) (pl : List Int) (ot : List Mk) (v9 v10 : Value) (W : World) : Prop where
  own10 : W.ownsRow w.heap.size 3 1 v10 pl.length (intsC pl)
  own9 : W.ownsRow w.heap.size 79 6 v9 ot.length (mksC ot)
  below : Below w.heap.size w W
theorem OrdM.gr {w W W' : World} {pl : List Int} {ot : List Mk} {v9 v10 : Value} (h : OrdM w pl ot v9 v10 W) (hk : Gr W W') : OrdM w pl ot v9 v10 W' :=
  ⟨own_below h.own10 hk, own_below h.own9 hk, h.below.trans (Below.mono hk (Below.size h.below))⟩
theorem mksC_snoc (ot : List Mk) (m : Mk) : mksC (ot ++ [m]) = mksC ot ++ [.string m.nm, .int .i64 m.al, .int .i64 m.ah, .int .i64 m.dl, .int .i64 m.dh, .int .i64 m.lv] := by simp [mksC]
theorem intsC_snoc (pl : List Int) (n : Int) : intsC (pl ++ [n]) = intsC pl ++ [.int .i64 n] := by simp [intsC]

set_option maxRecDepth 100000 in
set_option maxHeartbeats 4000000 in
/-- A number and its mark are appended (region 16). -/
theorem ordReg16 (l : List Mk) (A : Option Addr) (c B : Nat) {w0 W : World} {pl : List Int} {ot : List Mk} {v9 v10 : Value} (hl : Row W B 6 A l.length (mksC l)) (hB : B ≤ w0.heap.size) (M : OrdM w0 pl ot v9 v10 W) {n : Nat} (hn : n < l.length) (_hl8 : l.length ≤ 100) (hk : pl.length ≤ 100) (hk2 : ot.length ≤ 100) {t1 t2 t3 t4 t5 t6 t7 t8 t11 t13 t14 t15 t16 t17 t18 t19 t20 t21 t22 t23 t24 t25 t26 t27 t28 t29 t30 t31 t32 t33 t34 t35 t36 t37 t38 t39 t40 t41 t42 t43 t44 t45 t46 t47 t48 t49 t50 t51 t52 t53 t54 t55 t56 t57 t58 t59 t60 t61 t62 t63 t64 t65 t66 t67 t68 t69 t70 t71 t72 t73 t74 t75 t76 t77 t78 t79 t80 t81 t82 t83 t84 t85 t86 t87 t88 t89 t90 t91 t92 t93 t94 t95 t96 t97 t98 t99 t100 t101 t102 t103 t104 t105 t106 t107 t108 t109 t110 t111 t112 t113 t114 t115 t116 t117 t118 t119 t120 t121 t122 t123 t124 t125 t126 t127 t128 t129 t130 t131 t132 t133 t134 t135 t136 t137 t138 t139 t140 t141 t142 t143 t144 t145 t146 t147 t148 t149 t150 t151 t152 t153 t154 t155 t156 t157 t158 t159 t160 t161 t162 t163 t164 t165 t166 t167 t168 t169 t170 t171 t172 t173 t174 t175 t176 t177 t178 t179 t180 t181 t182 t183 t184 t185 t186 t187 t188 t189 t190 t191 t192 t193 t194 t195 t196 t197 t198 t199 t200 t201 t202 t203 t204 t205 t206 t207 t208 t209 t210 t211 t212 t213 t214 t215 t216 t217 t218 t219 t220 t221 t222 t223 t224 t225 t226 t227 t228 t229 t230 t231 t232 t233 t234 t235 t236 t237 t238 t239 t240 t241 t242 t243 t244 t245 t246 t247 t248 t249 t250 t251 t252 t253 t254 t255 t256 t257 t258 t259 t260 t261 t262 t263 t264 t265 t266 t267 t268 t269 t270 t271 t272 t273 t274 t275 t276 t277 t278 t279 t280 t281 t282 t283 t284 t285 t286 : Value} {ds : List Deferred} (Q : Exit → Act → World → Prop)
    (h : ∀ (t73 t74 t75 t76 t77 t78 t79 t80 t81 t82 t83 : Value) (u9 u10 : Value) (w' : World), OrdM w0 (pl ++ [(n : Int)]) (ot ++ [l[n]]) u9 u10 w' → Q .normal ⟨#[.slice A l.length c, t1, t2, t3, t4, t5, t6, t7, t8, u9, u10, t11, .int .i64 (n : Int), t13, t14, t15, t16, t17, t18, t19, t20, t21, t22, t23, t24, t25, t26, t27, t28, t29, t30, t31, t32, t33, t34, t35, t36, t37, t38, t39, t40, t41, t42, t43, t44, t45, t46, t47, t48, t49, t50, t51, t52, t53, t54, t55, t56, t57, t58, t59, t60, t61, t62, t63, t64, t65, t66, t67, t68, t69, t70, t71, t72, t73, t74, t75, t76, t77, t78, t79, t80, t81, t82, t83, t84, t85, t86, t87, t88, t89, t90, t91, t92, t93, t94, t95, t96, t97, t98, t99, t100, t101, t102, t103, t104, t105, t106, t107, t108, t109, t110, t111, t112, t113, t114, t115, t116, t117, t118, t119, t120, t121, t122, t123, t124, t125, t126, t127, t128, t129, t130, t131, t132, t133, t134, t135, t136, t137, t138, t139, t140, t141, t142, t143, t144, t145, t146, t147, t148, t149, t150, t151, t152, t153, t154, t155, t156, t157, t158, t159, t160, t161, t162, t163, t164, t165, t166, t167, t168, t169, t170, t171, t172, t173, t174, t175, t176, t177, t178, t179, t180, t181, t182, t183, t184, t185, t186, t187, t188, t189, t190, t191, t192, t193, t194, t195, t196, t197, t198, t199, t200, t201, t202, t203, t204, t205, t206, t207, t208, t209, t210, t211, t212, t213, t214, t215, t216, t217, t218, t219, t220, t221, t222, t223, t224, t225, t226, t227, t228, t229, t230, t231, t232, t233, t234, t235, t236, t237, t238, t239, t240, t241, t242, t243, t244, t245, t246, t247, t248, t249, t250, t251, t252, t253, t254, t255, t256, t257, t258, t259, t260, t261, t262, t263, t264, t265, t266, t267, t268, t269, t270, t271, t272, t273, t274, t275, t276, t277, t278, t279, t280, t281, t282, t283, t284, t285, t286], ds⟩ w') :
    (regOf Tryz.f8 16).wp Tryz.prog Q ⟨#[.slice A l.length c, t1, t2, t3, t4, t5, t6, t7, t8, v9, v10, t11, .int .i64 (n : Int), t13, t14, t15, t16, t17, t18, t19, t20, t21, t22, t23, t24, t25, t26, t27, t28, t29, t30, t31, t32, t33, t34, t35, t36, t37, t38, t39, t40, t41, t42, t43, t44, t45, t46, t47, t48, t49, t50, t51, t52, t53, t54, t55, t56, t57, t58, t59, t60, t61, t62, t63, t64, t65, t66, t67, t68, t69, t70, t71, t72, t73, t74, t75, t76, t77, t78, t79, t80, t81, t82, t83, t84, t85, t86, t87, t88, t89, t90, t91, t92, t93, t94, t95, t96, t97, t98, t99, t100, t101, t102, t103, t104, t105, t106, t107, t108, t109, t110, t111, t112, t113, t114, t115, t116, t117, t118, t119, t120, t121, t122, t123, t124, t125, t126, t127, t128, t129, t130, t131, t132, t133, t134, t135, t136, t137, t138, t139, t140, t141, t142, t143, t144, t145, t146, t147, t148, t149, t150, t151, t152, t153, t154, t155, t156, t157, t158, t159, t160, t161, t162, t163, t164, t165, t166, t167, t168, t169, t170, t171, t172, t173, t174, t175, t176, t177, t178, t179, t180, t181, t182, t183, t184, t185, t186, t187, t188, t189, t190, t191, t192, t193, t194, t195, t196, t197, t198, t199, t200, t201, t202, t203, t204, t205, t206, t207, t208, t209, t210, t211, t212, t213, t214, t215, t216, t217, t218, t219, t220, t221, t222, t223, t224, t225, t226, t227, t228, t229, t230, t231, t232, t233, t234, t235, t236, t237, t238, t239, t240, t241, t242, t243, t244, t245, t246, t247, t248, t249, t250, t251, t252, t253, t254, t255, t256, t257, t258, t259, t260, t261, t262, t263, t264, t265, t266, t267, t268, t269, t270, t271, t272, t273, t274, t275, t276, t277, t278, t279, t280, t281, t282, t283, t284, t285, t286], ds⟩ W := by
  have H := Lib.hid h; clear h
  obtain ⟨i0, hi, hz0, hz1, hz2⟩ := info_parts infoInt
  obtain ⟨j0, hj, jz0, jz1, jz2⟩ := info_parts infoMark
  obtain ⟨g, o, hA, hg, x0, x1, x2, x3, x4, x5⟩ := mkCells hl hn
  have i1 : ((n : Int) < (l.length : Int)) := by omega
  generalize l[n] = m at *
  obtain ⟨nm, al, ah, dl, dh, lv⟩ := m
  dsimp only at x0 x1 x2 x3 x4 x5
  subst hA
  have hwz := Below.size M.below
  have hgw : g < w0.heap.size := by omega
  have hgW : g < W.heap.size := by omega
  have ownP := M.own10
  have ownO := M.own9
  have HBL := Lib.hid M.below
  clear M
  conv in (regOf _ _) => whnf
  refine wp_region_w (fun w' => Below w0.heap.size _ w') (by kernel_rfl) (Below.refl _ _).drew ?_
  refine wpW_det (t' := ?ct0R81) 0 (by rfl) (by kernel_rfl) (NQ_free _) (by kernel_rfl) ?cw0R81 ?ch0R81 ?ca0R81 (Eq.refl _) ?cH0R81
  case cw0R81 => (go_simp; done)
  case ch0R81 =>
    intro ds w' hS K hK
    have hc := (bcellB hS).1
    have hf := (bcellB hS).2
    have hz := hS.size
    try simp at hz
    go_simp
    try go_bits
    first
      | exact hK _ hS (Gr.refl _)
      | exact hK _ (by repeat (first | (with_reducible exact Below.refl _ _) | (with_reducible assumption) | ((with_reducible refine Below.setCell ?_ ?_ _); rotate_left; · (first | exact Nat.le_refl _ | (simp; done) | (simp; omega) | omega)) | ((with_reducible refine Below.alloc ?_ ?_ _); rotate_left; · (first | exact Nat.le_refl _ | (simp; done) | (simp; omega) | omega)) | (with_reducible apply Below.drew) | (with_reducible apply below_drewN') | (refine Below.trans ?_ (Below.mono (by assumption) (by first | exact Nat.le_refl _ | (simp; done) | (simp; omega) | omega))) | exact Below.refl _ _ | assumption)) (by repeat (first | (with_reducible exact Below.refl _ _) | (with_reducible assumption) | ((with_reducible refine Below.setCell ?_ ?_ _); rotate_left; · (first | exact Nat.le_refl _ | (simp; done) | (simp; omega) | omega)) | ((with_reducible refine Below.alloc ?_ ?_ _); rotate_left; · (first | exact Nat.le_refl _ | (simp; done) | (simp; omega) | omega)) | (with_reducible apply Below.drew) | (with_reducible apply below_drewN') | (refine Below.trans ?_ (Below.mono (by assumption) (by first | exact Nat.le_refl _ | (simp; done) | (simp; omega) | omega))) | exact Below.refl _ _ | assumption))
  case ca0R81 => (first | (simp [Act.put]; done) | (simp [Act.put, *]; done))
  try dsimp only
  refine wpW_det (t' := ?ct1R81) 1 (by rfl) (by kernel_rfl) (NQ_free _) (by kernel_rfl) ?cw1R81 ?ch1R81 ?ca1R81 (Eq.refl _) ?cH1R81
  case cw1R81 => (go_simp; done)
  case ch1R81 =>
    intro ds w' hS K hK
    have hc := (bcellB hS).1
    have hf := (bcellB hS).2
    have hz := hS.size
    try simp at hz
    go_simp
    try go_bits
    first
      | exact hK _ hS (Gr.refl _)
      | exact hK _ (by repeat (first | (with_reducible exact Below.refl _ _) | (with_reducible assumption) | ((with_reducible refine Below.setCell ?_ ?_ _); rotate_left; · (first | exact Nat.le_refl _ | (simp; done) | (simp; omega) | omega)) | ((with_reducible refine Below.alloc ?_ ?_ _); rotate_left; · (first | exact Nat.le_refl _ | (simp; done) | (simp; omega) | omega)) | (with_reducible apply Below.drew) | (with_reducible apply below_drewN') | (refine Below.trans ?_ (Below.mono (by assumption) (by first | exact Nat.le_refl _ | (simp; done) | (simp; omega) | omega))) | exact Below.refl _ _ | assumption)) (by repeat (first | (with_reducible exact Below.refl _ _) | (with_reducible assumption) | ((with_reducible refine Below.setCell ?_ ?_ _); rotate_left; · (first | exact Nat.le_refl _ | (simp; done) | (simp; omega) | omega)) | ((with_reducible refine Below.alloc ?_ ?_ _); rotate_left; · (first | exact Nat.le_refl _ | (simp; done) | (simp; omega) | omega)) | (with_reducible apply Below.drew) | (with_reducible apply below_drewN') | (refine Below.trans ?_ (Below.mono (by assumption) (by first | exact Nat.le_refl _ | (simp; done) | (simp; omega) | omega))) | exact Below.refl _ _ | assumption))
  case ca1R81 => (first | (simp [Act.put]; done) | (simp [Act.put, *]; done))
  try dsimp only
  refine wpW_det (t' := ?ct4R81) 4 (by rfl) (by kernel_rfl) (NQ_free _) (by kernel_rfl) ?cw4R81 ?ch4R81 ?ca4R81 (Eq.refl _) ?cH4R81
  case cw4R81 => (go_simp; done)
  case ch4R81 =>
    intro ds w' hS K hK
    have hc := (bcellB hS).1
    have hf := (bcellB hS).2
    have hz := hS.size
    try simp at hz
    go_simp
    try go_bits
    first
      | exact hK _ hS (Gr.refl _)
      | exact hK _ (by repeat (first | (with_reducible exact Below.refl _ _) | (with_reducible assumption) | ((with_reducible refine Below.setCell ?_ ?_ _); rotate_left; · (first | exact Nat.le_refl _ | (simp; done) | (simp; omega) | omega)) | ((with_reducible refine Below.alloc ?_ ?_ _); rotate_left; · (first | exact Nat.le_refl _ | (simp; done) | (simp; omega) | omega)) | (with_reducible apply Below.drew) | (with_reducible apply below_drewN') | (refine Below.trans ?_ (Below.mono (by assumption) (by first | exact Nat.le_refl _ | (simp; done) | (simp; omega) | omega))) | exact Below.refl _ _ | assumption)) (by repeat (first | (with_reducible exact Below.refl _ _) | (with_reducible assumption) | ((with_reducible refine Below.setCell ?_ ?_ _); rotate_left; · (first | exact Nat.le_refl _ | (simp; done) | (simp; omega) | omega)) | ((with_reducible refine Below.alloc ?_ ?_ _); rotate_left; · (first | exact Nat.le_refl _ | (simp; done) | (simp; omega) | omega)) | (with_reducible apply Below.drew) | (with_reducible apply below_drewN') | (refine Below.trans ?_ (Below.mono (by assumption) (by first | exact Nat.le_refl _ | (simp; done) | (simp; omega) | omega))) | exact Below.refl _ _ | assumption))
  case ca4R81 => (first | (simp [Act.put]; done) | (simp [Act.put, *]; done))
  try dsimp only
  refine wpW_det (t' := ?ct5R81) 5 (by rfl) (by kernel_rfl) (NQ_free _) (by kernel_rfl) ?cw5R81 ?ch5R81 ?ca5R81 (Eq.refl _) ?cH5R81
  case cw5R81 => (go_simp; done)
  case ch5R81 =>
    intro ds w' hS K hK
    have hc := (bcellB hS).1
    have hf := (bcellB hS).2
    have hz := hS.size
    try simp at hz
    go_simp
    try go_bits
    first
      | exact hK _ hS (Gr.refl _)
      | exact hK _ (by repeat (first | (with_reducible exact Below.refl _ _) | (with_reducible assumption) | ((with_reducible refine Below.setCell ?_ ?_ _); rotate_left; · (first | exact Nat.le_refl _ | (simp; done) | (simp; omega) | omega)) | ((with_reducible refine Below.alloc ?_ ?_ _); rotate_left; · (first | exact Nat.le_refl _ | (simp; done) | (simp; omega) | omega)) | (with_reducible apply Below.drew) | (with_reducible apply below_drewN') | (refine Below.trans ?_ (Below.mono (by assumption) (by first | exact Nat.le_refl _ | (simp; done) | (simp; omega) | omega))) | exact Below.refl _ _ | assumption)) (by repeat (first | (with_reducible exact Below.refl _ _) | (with_reducible assumption) | ((with_reducible refine Below.setCell ?_ ?_ _); rotate_left; · (first | exact Nat.le_refl _ | (simp; done) | (simp; omega) | omega)) | ((with_reducible refine Below.alloc ?_ ?_ _); rotate_left; · (first | exact Nat.le_refl _ | (simp; done) | (simp; omega) | omega)) | (with_reducible apply Below.drew) | (with_reducible apply below_drewN') | (refine Below.trans ?_ (Below.mono (by assumption) (by first | exact Nat.le_refl _ | (simp; done) | (simp; omega) | omega))) | exact Below.refl _ _ | assumption))
  case ca5R81 => (first | (simp [Act.put]; done) | (simp [Act.put, *]; done))
  try dsimp only
  refine wpW_det (t' := ?ct6R81) 6 (by rfl) (by kernel_rfl) (NQ_free _) (by kernel_rfl) ?cw6R81 ?ch6R81 ?ca6R81 (Eq.refl _) ?cH6R81
  case cw6R81 => (go_simp; done)
  case ch6R81 =>
    intro ds w' hS K hK
    have hc := (bcellB hS).1
    have hf := (bcellB hS).2
    have hz := hS.size
    try simp at hz
    go_simp
    try go_bits
    first
      | exact hK _ hS (Gr.refl _)
      | exact hK _ (by repeat (first | (with_reducible exact Below.refl _ _) | (with_reducible assumption) | ((with_reducible refine Below.setCell ?_ ?_ _); rotate_left; · (first | exact Nat.le_refl _ | (simp; done) | (simp; omega) | omega)) | ((with_reducible refine Below.alloc ?_ ?_ _); rotate_left; · (first | exact Nat.le_refl _ | (simp; done) | (simp; omega) | omega)) | (with_reducible apply Below.drew) | (with_reducible apply below_drewN') | (refine Below.trans ?_ (Below.mono (by assumption) (by first | exact Nat.le_refl _ | (simp; done) | (simp; omega) | omega))) | exact Below.refl _ _ | assumption)) (by repeat (first | (with_reducible exact Below.refl _ _) | (with_reducible assumption) | ((with_reducible refine Below.setCell ?_ ?_ _); rotate_left; · (first | exact Nat.le_refl _ | (simp; done) | (simp; omega) | omega)) | ((with_reducible refine Below.alloc ?_ ?_ _); rotate_left; · (first | exact Nat.le_refl _ | (simp; done) | (simp; omega) | omega)) | (with_reducible apply Below.drew) | (with_reducible apply below_drewN') | (refine Below.trans ?_ (Below.mono (by assumption) (by first | exact Nat.le_refl _ | (simp; done) | (simp; omega) | omega))) | exact Below.refl _ _ | assumption))
  case ca6R81 => (first | (simp [Act.put]; done) | (simp [Act.put, *]; done))
  try dsimp only
  refine wpW_det (t' := ?ct7R81) 7 (by rfl) (by kernel_rfl) (NQ_free _) (by kernel_rfl) ?cw7R81 ?ch7R81 ?ca7R81 (Eq.refl _) ?cH7R81
  case cw7R81 => (go_simp; done)
  case ch7R81 =>
    intro ds w' hS K hK
    have hc := (bcellB hS).1
    have hf := (bcellB hS).2
    have hz := hS.size
    try simp at hz
    go_simp
    try go_bits
    first
      | exact hK _ hS (Gr.refl _)
      | exact hK _ (by repeat (first | (with_reducible exact Below.refl _ _) | (with_reducible assumption) | ((with_reducible refine Below.setCell ?_ ?_ _); rotate_left; · (first | exact Nat.le_refl _ | (simp; done) | (simp; omega) | omega)) | ((with_reducible refine Below.alloc ?_ ?_ _); rotate_left; · (first | exact Nat.le_refl _ | (simp; done) | (simp; omega) | omega)) | (with_reducible apply Below.drew) | (with_reducible apply below_drewN') | (refine Below.trans ?_ (Below.mono (by assumption) (by first | exact Nat.le_refl _ | (simp; done) | (simp; omega) | omega))) | exact Below.refl _ _ | assumption)) (by repeat (first | (with_reducible exact Below.refl _ _) | (with_reducible assumption) | ((with_reducible refine Below.setCell ?_ ?_ _); rotate_left; · (first | exact Nat.le_refl _ | (simp; done) | (simp; omega) | omega)) | ((with_reducible refine Below.alloc ?_ ?_ _); rotate_left; · (first | exact Nat.le_refl _ | (simp; done) | (simp; omega) | omega)) | (with_reducible apply Below.drew) | (with_reducible apply below_drewN') | (refine Below.trans ?_ (Below.mono (by assumption) (by first | exact Nat.le_refl _ | (simp; done) | (simp; omega) | omega))) | exact Below.refl _ _ | assumption))
  case ca7R81 => (first | (simp [Act.put]; done) | (simp [Act.put, *]; done))
  try dsimp only
  refine wpW_det (t' := ?ct8R81) 8 (by rfl) (by kernel_rfl) (NQ_free _) (by kernel_rfl) ?cw8R81 ?ch8R81 ?ca8R81 (Eq.refl _) ?cH8R81
  case cw8R81 => (go_simp; done)
  case ch8R81 =>
    intro ds w' hS K hK
    have hc := (bcellB hS).1
    have hf := (bcellB hS).2
    have hz := hS.size
    try simp at hz
    go_simp
    try go_bits
    first
      | exact hK _ hS (Gr.refl _)
      | exact hK _ (by repeat (first | (with_reducible exact Below.refl _ _) | (with_reducible assumption) | ((with_reducible refine Below.setCell ?_ ?_ _); rotate_left; · (first | exact Nat.le_refl _ | (simp; done) | (simp; omega) | omega)) | ((with_reducible refine Below.alloc ?_ ?_ _); rotate_left; · (first | exact Nat.le_refl _ | (simp; done) | (simp; omega) | omega)) | (with_reducible apply Below.drew) | (with_reducible apply below_drewN') | (refine Below.trans ?_ (Below.mono (by assumption) (by first | exact Nat.le_refl _ | (simp; done) | (simp; omega) | omega))) | exact Below.refl _ _ | assumption)) (by repeat (first | (with_reducible exact Below.refl _ _) | (with_reducible assumption) | ((with_reducible refine Below.setCell ?_ ?_ _); rotate_left; · (first | exact Nat.le_refl _ | (simp; done) | (simp; omega) | omega)) | ((with_reducible refine Below.alloc ?_ ?_ _); rotate_left; · (first | exact Nat.le_refl _ | (simp; done) | (simp; omega) | omega)) | (with_reducible apply Below.drew) | (with_reducible apply below_drewN') | (refine Below.trans ?_ (Below.mono (by assumption) (by first | exact Nat.le_refl _ | (simp; done) | (simp; omega) | omega))) | exact Below.refl _ _ | assumption))
  case ca8R81 => (first | (simp [Act.put]; done) | (simp [Act.put, *]; done))
  try dsimp only
  replace ownP := ownP.drew
  replace ownO := ownO.drew
  refine wpW_branch [2, 9] (by kernel_rfl) (by simp) ?_
  intro w1 hg1 hS1
  try replace ownP := own_below ownP hg1
  try replace ownP' := own_below ownP' hg1
  try replace ownO := own_below ownO hg1
  try replace nP := Blk.gr nP hg1
  try replace nO := Blk.gr nO hg1
  try have hsz := Nat.le_trans hwz (Below.size hS1)
  refine each_cons ?_ (each_cons ?_ (each_nil))
  · refine wpOp_go (by rfl) (Eq.refl _) (by go_simp; done) ?_
    intro K hK
    go_simp
    try simp only [Act.put]
    have nP := Blk.new w1 3 #[.int .i64 (n : Int)]
    replace ownP := ownP.alloc (.cells #[.int .i64 (n : Int)] 3)
    replace ownO := ownO.alloc (.cells #[.int .i64 (n : Int)] 3)
    try replace nO := nO.alloc (.cells #[.int .i64 (n : Int)] 3)
    obtain ⟨N, hN⟩ : ∃ N, w1.heap.size = N := ⟨_, rfl⟩
    rw [hN] at nP ⊢
    clear hN
    refine hK _ _ (Below.alloc hS1 (by have := Below.size hS1; omega) _) ?_
    clear hK K
    refine wpW_branch [3, 9] (by kernel_rfl) (by simp) ?_
    intro w2 hg2 hS2
    try replace ownP := own_below ownP hg2
    try replace ownP' := own_below ownP' hg2
    try replace ownO := own_below ownO hg2
    try replace nP := Blk.gr nP hg2
    try replace nO := Blk.gr nO hg2
    try have hsz := Nat.le_trans hwz (Below.size hS2)
    refine each_cons ?_ (each_cons ?_ (each_nil))
    · refine wpOp_go (by rfl) (Eq.refl _) (by go_simp; done) ?_
      intro K hK
      refine wp_append_own _ (.tmp 73) (.tmp 75) 37 rfl w0.heap.size 3 i0 _ 1 8 Tryz.underlying37 hi hz0 hz1 hz2 rfl (by decide) v10 pl.length (intsC pl) rfl ownP ⟨N, 0, none⟩ 1 1 [.int .i64 (n : Int)] rfl rfl ?hc (by simp [Value.oneCell']) (by unfold maxLen; omega) (by omega) (by have := Below.size hS2; omega) ?_
      case hc =>
        intro j q hj
        match j, hj with
        | 0, hj => simp at hj; subst hj; exact nP.cell 0
        | j + 1, hj => simp at hj
      intro u10 wa ownP' hgrow _
      try simp only [Act.put]
      try simp only [List.setIfInBounds_toArray]
      have hLT : ∀ q, v10.ownBlock = some q → w0.heap.size ≤ q := fun q e => (ownP.lt q e).1
      replace ownO := ownO.kept hgrow (own_two ownO ownP (by decide))
      try replace nO := nO.grown hgrow (fun e => own_blk_ne ownP nO (by decide) e.symm)
      rw [← intsC_snoc] at ownP'
      refine hK _ _ (Below.grown hS2 hgrow (by have := Below.size hS2; omega) hLT) ?_
      clear hK K ownP nP hgrow hLT
      refine wpW_branch [9] (by kernel_rfl) (by simp) ?_
      intro w3 hg3 hS3
      try replace ownP := own_below ownP hg3
      try replace ownP' := own_below ownP' hg3
      try replace ownO := own_below ownO hg3
      try replace nP := Blk.gr nP hg3
      try replace nO := Blk.gr nO hg3
      try have hsz := Nat.le_trans hwz (Below.size hS3)
      refine each_cons ?_ (each_nil)
      · refine wpOp_go (by rfl) (Eq.refl _) (by go_simp; done) ?_
        intro K hK
        go_simp
        try simp only [Act.put]
        have nO := Blk.new w3 79 #[.string nm, .int .i64 al, .int .i64 ah, .int .i64 dl, .int .i64 dh, .int .i64 lv]
        try replace ownP := ownP.alloc (.cells #[.string nm, .int .i64 al, .int .i64 ah, .int .i64 dl, .int .i64 dh, .int .i64 lv] 79)
        try replace ownP' := ownP'.alloc (.cells #[.string nm, .int .i64 al, .int .i64 ah, .int .i64 dl, .int .i64 dh, .int .i64 lv] 79)
        replace ownO := ownO.alloc (.cells #[.string nm, .int .i64 al, .int .i64 ah, .int .i64 dl, .int .i64 dh, .int .i64 lv] 79)
        try replace nP := nP.alloc (.cells #[.string nm, .int .i64 al, .int .i64 ah, .int .i64 dl, .int .i64 dh, .int .i64 lv] 79)
        obtain ⟨N2, hN2⟩ : ∃ N, w3.heap.size = N := ⟨_, rfl⟩
        rw [hN2] at nO ⊢
        clear hN2
        refine hK _ _ (Below.alloc hS3 (by have := Below.size hS3; omega) _) ?_
        clear hK K
        refine wpW_branch [10] (by kernel_rfl) (by simp) ?_
        intro w4 hg4 hS4
        try replace ownP := own_below ownP hg4
        try replace ownP' := own_below ownP' hg4
        try replace ownO := own_below ownO hg4
        try replace nP := Blk.gr nP hg4
        try replace nO := Blk.gr nO hg4
        try have hsz := Nat.le_trans hwz (Below.size hS4)
        refine each_cons ?_ (each_nil)
        · refine wpOp_go (by rfl) (Eq.refl _) (by go_simp; done) ?_
          intro K hK
          refine wp_append_own _ (.tmp 77) (.tmp 82) 60 rfl w0.heap.size 79 j0 _ 6 56 Tryz.underlying60 hj jz0 jz1 jz2 rfl (by decide) v9 ot.length (mksC ot) rfl ownO ⟨N2, 0, none⟩ 1 1 [.string nm, .int .i64 al, .int .i64 ah, .int .i64 dl, .int .i64 dh, .int .i64 lv] rfl rfl ?hc (by simp [Value.oneCell']) (by unfold maxLen; omega) (by omega) (by have := Below.size hS4; omega) ?_
          case hc =>
            intro j q hj
            rw [Addr.add_lit, Nat.zero_add]
            exact (nO.cell j).trans (by simpa using hj)
          intro u9 wb ownO' hgrow _
          try simp only [Act.put]
          try simp only [List.setIfInBounds_toArray]
          have hLT : ∀ q, v9.ownBlock = some q → w0.heap.size ≤ q := fun q e => (ownO.lt q e).1
          replace ownP' := ownP'.kept hgrow (own_two ownP' ownO (by decide))
          refine hK _ _ (Below.grown hS4 hgrow (by have := Below.size hS4; omega) hLT) ?_
          clear hK K ownO nO hgrow hLT
          refine wpW_det (t' := ?ct11R82) 11 (by rfl) (by kernel_rfl) (NQ_free _) (by kernel_rfl) ?cw11R82 ?ch11R82 ?ca11R82 (Eq.refl _) ?cH11R82
          case cw11R82 => (go_simp; done)
          case ch11R82 =>
            intro ds w' hS K hK
            have hc := (bcellB hS).1
            have hf := (bcellB hS).2
            have hz := hS.size
            try simp at hz
            go_simp
            try go_bits
            first
              | exact hK _ hS (Gr.refl _)
              | exact hK _ (by repeat (first | (with_reducible exact Below.refl _ _) | (with_reducible assumption) | ((with_reducible refine Below.setCell ?_ ?_ _); rotate_left; · (first | exact Nat.le_refl _ | (simp; done) | (simp; omega) | omega)) | ((with_reducible refine Below.alloc ?_ ?_ _); rotate_left; · (first | exact Nat.le_refl _ | (simp; done) | (simp; omega) | omega)) | (with_reducible apply Below.drew) | (with_reducible apply below_drewN') | (refine Below.trans ?_ (Below.mono (by assumption) (by first | exact Nat.le_refl _ | (simp; done) | (simp; omega) | omega))) | exact Below.refl _ _ | assumption)) (by repeat (first | (with_reducible exact Below.refl _ _) | (with_reducible assumption) | ((with_reducible refine Below.setCell ?_ ?_ _); rotate_left; · (first | exact Nat.le_refl _ | (simp; done) | (simp; omega) | omega)) | ((with_reducible refine Below.alloc ?_ ?_ _); rotate_left; · (first | exact Nat.le_refl _ | (simp; done) | (simp; omega) | omega)) | (with_reducible apply Below.drew) | (with_reducible apply below_drewN') | (refine Below.trans ?_ (Below.mono (by assumption) (by first | exact Nat.le_refl _ | (simp; done) | (simp; omega) | omega))) | exact Below.refl _ _ | assumption))
          case ca11R82 => (first | (simp [Act.put]; done) | (simp [Act.put, *]; done))
          try dsimp only
          refine wpW_det (t' := ?ct12R82) 12 (by rfl) (by kernel_rfl) (NQ_free _) (by kernel_rfl) ?cw12R82 ?ch12R82 ?ca12R82 (Eq.refl _) ?cH12R82
          case cw12R82 => (go_simp; done)
          case ch12R82 =>
            intro ds w' hS K hK
            have hc := (bcellB hS).1
            have hf := (bcellB hS).2
            have hz := hS.size
            try simp at hz
            go_simp
            try go_bits
            first
              | exact hK _ hS (Gr.refl _)
              | exact hK _ (by repeat (first | (with_reducible exact Below.refl _ _) | (with_reducible assumption) | ((with_reducible refine Below.setCell ?_ ?_ _); rotate_left; · (first | exact Nat.le_refl _ | (simp; done) | (simp; omega) | omega)) | ((with_reducible refine Below.alloc ?_ ?_ _); rotate_left; · (first | exact Nat.le_refl _ | (simp; done) | (simp; omega) | omega)) | (with_reducible apply Below.drew) | (with_reducible apply below_drewN') | (refine Below.trans ?_ (Below.mono (by assumption) (by first | exact Nat.le_refl _ | (simp; done) | (simp; omega) | omega))) | exact Below.refl _ _ | assumption)) (by repeat (first | (with_reducible exact Below.refl _ _) | (with_reducible assumption) | ((with_reducible refine Below.setCell ?_ ?_ _); rotate_left; · (first | exact Nat.le_refl _ | (simp; done) | (simp; omega) | omega)) | ((with_reducible refine Below.alloc ?_ ?_ _); rotate_left; · (first | exact Nat.le_refl _ | (simp; done) | (simp; omega) | omega)) | (with_reducible apply Below.drew) | (with_reducible apply below_drewN') | (refine Below.trans ?_ (Below.mono (by assumption) (by first | exact Nat.le_refl _ | (simp; done) | (simp; omega) | omega))) | exact Below.refl _ _ | assumption))
          case ca12R82 => (first | (simp [Act.put]; done) | (simp [Act.put, *]; done))
          try dsimp only
          refine wpW_end (by kernel_rfl) ?_
          intro we hg hS
          unfold NQ
          dsimp only
          exact H.out _ _ _ _ _ _ _ _ _ _ _ u9 u10 we ⟨by simpa using own_below ownP' hg, by rw [mksC_snoc]; simpa using own_below ownO' hg, HBL.out.trans hS⟩
    · refine wpOp_go (by rfl) (Eq.refl _) (by go_simp; done) ?_
      intro K hK
      go_simp
      try simp only [Act.put]
      have nO := Blk.new w2 79 #[.string nm, .int .i64 al, .int .i64 ah, .int .i64 dl, .int .i64 dh, .int .i64 lv]
      try replace ownP := ownP.alloc (.cells #[.string nm, .int .i64 al, .int .i64 ah, .int .i64 dl, .int .i64 dh, .int .i64 lv] 79)
      try replace ownP' := ownP'.alloc (.cells #[.string nm, .int .i64 al, .int .i64 ah, .int .i64 dl, .int .i64 dh, .int .i64 lv] 79)
      replace ownO := ownO.alloc (.cells #[.string nm, .int .i64 al, .int .i64 ah, .int .i64 dl, .int .i64 dh, .int .i64 lv] 79)
      try replace nP := nP.alloc (.cells #[.string nm, .int .i64 al, .int .i64 ah, .int .i64 dl, .int .i64 dh, .int .i64 lv] 79)
      obtain ⟨N2, hN2⟩ : ∃ N, w2.heap.size = N := ⟨_, rfl⟩
      rw [hN2] at nO ⊢
      clear hN2
      refine hK _ _ (Below.alloc hS2 (by have := Below.size hS2; omega) _) ?_
      clear hK K
      refine wpW_branch [3] (by kernel_rfl) (by simp) ?_
      intro w3 hg3 hS3
      try replace ownP := own_below ownP hg3
      try replace ownP' := own_below ownP' hg3
      try replace ownO := own_below ownO hg3
      try replace nP := Blk.gr nP hg3
      try replace nO := Blk.gr nO hg3
      try have hsz := Nat.le_trans hwz (Below.size hS3)
      refine each_cons ?_ (each_nil)
      · refine wpOp_go (by rfl) (Eq.refl _) (by go_simp; done) ?_
        intro K hK
        refine wp_append_own _ (.tmp 73) (.tmp 75) 37 rfl w0.heap.size 3 i0 _ 1 8 Tryz.underlying37 hi hz0 hz1 hz2 rfl (by decide) v10 pl.length (intsC pl) rfl ownP ⟨N, 0, none⟩ 1 1 [.int .i64 (n : Int)] rfl rfl ?hc (by simp [Value.oneCell']) (by unfold maxLen; omega) (by omega) (by have := Below.size hS3; omega) ?_
        case hc =>
          intro j q hj
          match j, hj with
          | 0, hj => simp at hj; subst hj; exact nP.cell 0
          | j + 1, hj => simp at hj
        intro u10 wa ownP' hgrow _
        try simp only [Act.put]
        try simp only [List.setIfInBounds_toArray]
        have hLT : ∀ q, v10.ownBlock = some q → w0.heap.size ≤ q := fun q e => (ownP.lt q e).1
        replace ownO := ownO.kept hgrow (own_two ownO ownP (by decide))
        try replace nO := nO.grown hgrow (fun e => own_blk_ne ownP nO (by decide) e.symm)
        rw [← intsC_snoc] at ownP'
        refine hK _ _ (Below.grown hS3 hgrow (by have := Below.size hS3; omega) hLT) ?_
        clear hK K ownP nP hgrow hLT
        refine wpW_branch [10] (by kernel_rfl) (by simp) ?_
        intro w4 hg4 hS4
        try replace ownP := own_below ownP hg4
        try replace ownP' := own_below ownP' hg4
        try replace ownO := own_below ownO hg4
        try replace nP := Blk.gr nP hg4
        try replace nO := Blk.gr nO hg4
        try have hsz := Nat.le_trans hwz (Below.size hS4)
        refine each_cons ?_ (each_nil)
        · refine wpOp_go (by rfl) (Eq.refl _) (by go_simp; done) ?_
          intro K hK
          refine wp_append_own _ (.tmp 77) (.tmp 82) 60 rfl w0.heap.size 79 j0 _ 6 56 Tryz.underlying60 hj jz0 jz1 jz2 rfl (by decide) v9 ot.length (mksC ot) rfl ownO ⟨N2, 0, none⟩ 1 1 [.string nm, .int .i64 al, .int .i64 ah, .int .i64 dl, .int .i64 dh, .int .i64 lv] rfl rfl ?hc (by simp [Value.oneCell']) (by unfold maxLen; omega) (by omega) (by have := Below.size hS4; omega) ?_
          case hc =>
            intro j q hj
            rw [Addr.add_lit, Nat.zero_add]
            exact (nO.cell j).trans (by simpa using hj)
          intro u9 wb ownO' hgrow _
          try simp only [Act.put]
          try simp only [List.setIfInBounds_toArray]
          have hLT : ∀ q, v9.ownBlock = some q → w0.heap.size ≤ q := fun q e => (ownO.lt q e).1
          replace ownP' := ownP'.kept hgrow (own_two ownP' ownO (by decide))
          refine hK _ _ (Below.grown hS4 hgrow (by have := Below.size hS4; omega) hLT) ?_
          clear hK K ownO nO hgrow hLT
          refine wpW_det (t' := ?ct11R83) 11 (by rfl) (by kernel_rfl) (NQ_free _) (by kernel_rfl) ?cw11R83 ?ch11R83 ?ca11R83 (Eq.refl _) ?cH11R83
          case cw11R83 => (go_simp; done)
          case ch11R83 =>
            intro ds w' hS K hK
            have hc := (bcellB hS).1
            have hf := (bcellB hS).2
            have hz := hS.size
            try simp at hz
            go_simp
            try go_bits
            first
              | exact hK _ hS (Gr.refl _)
              | exact hK _ (by repeat (first | (with_reducible exact Below.refl _ _) | (with_reducible assumption) | ((with_reducible refine Below.setCell ?_ ?_ _); rotate_left; · (first | exact Nat.le_refl _ | (simp; done) | (simp; omega) | omega)) | ((with_reducible refine Below.alloc ?_ ?_ _); rotate_left; · (first | exact Nat.le_refl _ | (simp; done) | (simp; omega) | omega)) | (with_reducible apply Below.drew) | (with_reducible apply below_drewN') | (refine Below.trans ?_ (Below.mono (by assumption) (by first | exact Nat.le_refl _ | (simp; done) | (simp; omega) | omega))) | exact Below.refl _ _ | assumption)) (by repeat (first | (with_reducible exact Below.refl _ _) | (with_reducible assumption) | ((with_reducible refine Below.setCell ?_ ?_ _); rotate_left; · (first | exact Nat.le_refl _ | (simp; done) | (simp; omega) | omega)) | ((with_reducible refine Below.alloc ?_ ?_ _); rotate_left; · (first | exact Nat.le_refl _ | (simp; done) | (simp; omega) | omega)) | (with_reducible apply Below.drew) | (with_reducible apply below_drewN') | (refine Below.trans ?_ (Below.mono (by assumption) (by first | exact Nat.le_refl _ | (simp; done) | (simp; omega) | omega))) | exact Below.refl _ _ | assumption))
          case ca11R83 => (first | (simp [Act.put]; done) | (simp [Act.put, *]; done))
          try dsimp only
          refine wpW_det (t' := ?ct12R83) 12 (by rfl) (by kernel_rfl) (NQ_free _) (by kernel_rfl) ?cw12R83 ?ch12R83 ?ca12R83 (Eq.refl _) ?cH12R83
          case cw12R83 => (go_simp; done)
          case ch12R83 =>
            intro ds w' hS K hK
            have hc := (bcellB hS).1
            have hf := (bcellB hS).2
            have hz := hS.size
            try simp at hz
            go_simp
            try go_bits
            first
              | exact hK _ hS (Gr.refl _)
              | exact hK _ (by repeat (first | (with_reducible exact Below.refl _ _) | (with_reducible assumption) | ((with_reducible refine Below.setCell ?_ ?_ _); rotate_left; · (first | exact Nat.le_refl _ | (simp; done) | (simp; omega) | omega)) | ((with_reducible refine Below.alloc ?_ ?_ _); rotate_left; · (first | exact Nat.le_refl _ | (simp; done) | (simp; omega) | omega)) | (with_reducible apply Below.drew) | (with_reducible apply below_drewN') | (refine Below.trans ?_ (Below.mono (by assumption) (by first | exact Nat.le_refl _ | (simp; done) | (simp; omega) | omega))) | exact Below.refl _ _ | assumption)) (by repeat (first | (with_reducible exact Below.refl _ _) | (with_reducible assumption) | ((with_reducible refine Below.setCell ?_ ?_ _); rotate_left; · (first | exact Nat.le_refl _ | (simp; done) | (simp; omega) | omega)) | ((with_reducible refine Below.alloc ?_ ?_ _); rotate_left; · (first | exact Nat.le_refl _ | (simp; done) | (simp; omega) | omega)) | (with_reducible apply Below.drew) | (with_reducible apply below_drewN') | (refine Below.trans ?_ (Below.mono (by assumption) (by first | exact Nat.le_refl _ | (simp; done) | (simp; omega) | omega))) | exact Below.refl _ _ | assumption))
          case ca12R83 => (first | (simp [Act.put]; done) | (simp [Act.put, *]; done))
          try dsimp only
          refine wpW_end (by kernel_rfl) ?_
          intro we hg hS
          unfold NQ
          dsimp only
          exact H.out _ _ _ _ _ _ _ _ _ _ _ u9 u10 we ⟨by simpa using own_below ownP' hg, by rw [mksC_snoc]; simpa using own_below ownO' hg, HBL.out.trans hS⟩
  · refine wpOp_go (by rfl) (Eq.refl _) (by go_simp; done) ?_
    intro K hK
    go_simp
    try simp only [Act.put]
    have nO := Blk.new w1 79 #[.string nm, .int .i64 al, .int .i64 ah, .int .i64 dl, .int .i64 dh, .int .i64 lv]
    try replace ownP := ownP.alloc (.cells #[.string nm, .int .i64 al, .int .i64 ah, .int .i64 dl, .int .i64 dh, .int .i64 lv] 79)
    try replace ownP' := ownP'.alloc (.cells #[.string nm, .int .i64 al, .int .i64 ah, .int .i64 dl, .int .i64 dh, .int .i64 lv] 79)
    replace ownO := ownO.alloc (.cells #[.string nm, .int .i64 al, .int .i64 ah, .int .i64 dl, .int .i64 dh, .int .i64 lv] 79)
    try replace nP := nP.alloc (.cells #[.string nm, .int .i64 al, .int .i64 ah, .int .i64 dl, .int .i64 dh, .int .i64 lv] 79)
    obtain ⟨N2, hN2⟩ : ∃ N, w1.heap.size = N := ⟨_, rfl⟩
    rw [hN2] at nO ⊢
    clear hN2
    refine hK _ _ (Below.alloc hS1 (by have := Below.size hS1; omega) _) ?_
    clear hK K
    refine wpW_branch [2] (by kernel_rfl) (by simp) ?_
    intro w2 hg2 hS2
    try replace ownP := own_below ownP hg2
    try replace ownP' := own_below ownP' hg2
    try replace ownO := own_below ownO hg2
    try replace nP := Blk.gr nP hg2
    try replace nO := Blk.gr nO hg2
    try have hsz := Nat.le_trans hwz (Below.size hS2)
    refine each_cons ?_ (each_nil)
    · refine wpOp_go (by rfl) (Eq.refl _) (by go_simp; done) ?_
      intro K hK
      go_simp
      try simp only [Act.put]
      have nP := Blk.new w2 3 #[.int .i64 (n : Int)]
      replace ownP := ownP.alloc (.cells #[.int .i64 (n : Int)] 3)
      replace ownO := ownO.alloc (.cells #[.int .i64 (n : Int)] 3)
      try replace nO := nO.alloc (.cells #[.int .i64 (n : Int)] 3)
      obtain ⟨N, hN⟩ : ∃ N, w2.heap.size = N := ⟨_, rfl⟩
      rw [hN] at nP ⊢
      clear hN
      refine hK _ _ (Below.alloc hS2 (by have := Below.size hS2; omega) _) ?_
      clear hK K
      refine wpW_branch [3] (by kernel_rfl) (by simp) ?_
      intro w3 hg3 hS3
      try replace ownP := own_below ownP hg3
      try replace ownP' := own_below ownP' hg3
      try replace ownO := own_below ownO hg3
      try replace nP := Blk.gr nP hg3
      try replace nO := Blk.gr nO hg3
      try have hsz := Nat.le_trans hwz (Below.size hS3)
      refine each_cons ?_ (each_nil)
      · refine wpOp_go (by rfl) (Eq.refl _) (by go_simp; done) ?_
        intro K hK
        refine wp_append_own _ (.tmp 73) (.tmp 75) 37 rfl w0.heap.size 3 i0 _ 1 8 Tryz.underlying37 hi hz0 hz1 hz2 rfl (by decide) v10 pl.length (intsC pl) rfl ownP ⟨N, 0, none⟩ 1 1 [.int .i64 (n : Int)] rfl rfl ?hc (by simp [Value.oneCell']) (by unfold maxLen; omega) (by omega) (by have := Below.size hS3; omega) ?_
        case hc =>
          intro j q hj
          match j, hj with
          | 0, hj => simp at hj; subst hj; exact nP.cell 0
          | j + 1, hj => simp at hj
        intro u10 wa ownP' hgrow _
        try simp only [Act.put]
        try simp only [List.setIfInBounds_toArray]
        have hLT : ∀ q, v10.ownBlock = some q → w0.heap.size ≤ q := fun q e => (ownP.lt q e).1
        replace ownO := ownO.kept hgrow (own_two ownO ownP (by decide))
        try replace nO := nO.grown hgrow (fun e => own_blk_ne ownP nO (by decide) e.symm)
        rw [← intsC_snoc] at ownP'
        refine hK _ _ (Below.grown hS3 hgrow (by have := Below.size hS3; omega) hLT) ?_
        clear hK K ownP nP hgrow hLT
        refine wpW_branch [10] (by kernel_rfl) (by simp) ?_
        intro w4 hg4 hS4
        try replace ownP := own_below ownP hg4
        try replace ownP' := own_below ownP' hg4
        try replace ownO := own_below ownO hg4
        try replace nP := Blk.gr nP hg4
        try replace nO := Blk.gr nO hg4
        try have hsz := Nat.le_trans hwz (Below.size hS4)
        refine each_cons ?_ (each_nil)
        · refine wpOp_go (by rfl) (Eq.refl _) (by go_simp; done) ?_
          intro K hK
          refine wp_append_own _ (.tmp 77) (.tmp 82) 60 rfl w0.heap.size 79 j0 _ 6 56 Tryz.underlying60 hj jz0 jz1 jz2 rfl (by decide) v9 ot.length (mksC ot) rfl ownO ⟨N2, 0, none⟩ 1 1 [.string nm, .int .i64 al, .int .i64 ah, .int .i64 dl, .int .i64 dh, .int .i64 lv] rfl rfl ?hc (by simp [Value.oneCell']) (by unfold maxLen; omega) (by omega) (by have := Below.size hS4; omega) ?_
          case hc =>
            intro j q hj
            rw [Addr.add_lit, Nat.zero_add]
            exact (nO.cell j).trans (by simpa using hj)
          intro u9 wb ownO' hgrow _
          try simp only [Act.put]
          try simp only [List.setIfInBounds_toArray]
          have hLT : ∀ q, v9.ownBlock = some q → w0.heap.size ≤ q := fun q e => (ownO.lt q e).1
          replace ownP' := ownP'.kept hgrow (own_two ownP' ownO (by decide))
          refine hK _ _ (Below.grown hS4 hgrow (by have := Below.size hS4; omega) hLT) ?_
          clear hK K ownO nO hgrow hLT
          refine wpW_det (t' := ?ct11R84) 11 (by rfl) (by kernel_rfl) (NQ_free _) (by kernel_rfl) ?cw11R84 ?ch11R84 ?ca11R84 (Eq.refl _) ?cH11R84
          case cw11R84 => (go_simp; done)
          case ch11R84 =>
            intro ds w' hS K hK
            have hc := (bcellB hS).1
            have hf := (bcellB hS).2
            have hz := hS.size
            try simp at hz
            go_simp
            try go_bits
            first
              | exact hK _ hS (Gr.refl _)
              | exact hK _ (by repeat (first | (with_reducible exact Below.refl _ _) | (with_reducible assumption) | ((with_reducible refine Below.setCell ?_ ?_ _); rotate_left; · (first | exact Nat.le_refl _ | (simp; done) | (simp; omega) | omega)) | ((with_reducible refine Below.alloc ?_ ?_ _); rotate_left; · (first | exact Nat.le_refl _ | (simp; done) | (simp; omega) | omega)) | (with_reducible apply Below.drew) | (with_reducible apply below_drewN') | (refine Below.trans ?_ (Below.mono (by assumption) (by first | exact Nat.le_refl _ | (simp; done) | (simp; omega) | omega))) | exact Below.refl _ _ | assumption)) (by repeat (first | (with_reducible exact Below.refl _ _) | (with_reducible assumption) | ((with_reducible refine Below.setCell ?_ ?_ _); rotate_left; · (first | exact Nat.le_refl _ | (simp; done) | (simp; omega) | omega)) | ((with_reducible refine Below.alloc ?_ ?_ _); rotate_left; · (first | exact Nat.le_refl _ | (simp; done) | (simp; omega) | omega)) | (with_reducible apply Below.drew) | (with_reducible apply below_drewN') | (refine Below.trans ?_ (Below.mono (by assumption) (by first | exact Nat.le_refl _ | (simp; done) | (simp; omega) | omega))) | exact Below.refl _ _ | assumption))
          case ca11R84 => (first | (simp [Act.put]; done) | (simp [Act.put, *]; done))
          try dsimp only
          refine wpW_det (t' := ?ct12R84) 12 (by rfl) (by kernel_rfl) (NQ_free _) (by kernel_rfl) ?cw12R84 ?ch12R84 ?ca12R84 (Eq.refl _) ?cH12R84
          case cw12R84 => (go_simp; done)
          case ch12R84 =>
            intro ds w' hS K hK
            have hc := (bcellB hS).1
            have hf := (bcellB hS).2
            have hz := hS.size
            try simp at hz
            go_simp
            try go_bits
            first
              | exact hK _ hS (Gr.refl _)
              | exact hK _ (by repeat (first | (with_reducible exact Below.refl _ _) | (with_reducible assumption) | ((with_reducible refine Below.setCell ?_ ?_ _); rotate_left; · (first | exact Nat.le_refl _ | (simp; done) | (simp; omega) | omega)) | ((with_reducible refine Below.alloc ?_ ?_ _); rotate_left; · (first | exact Nat.le_refl _ | (simp; done) | (simp; omega) | omega)) | (with_reducible apply Below.drew) | (with_reducible apply below_drewN') | (refine Below.trans ?_ (Below.mono (by assumption) (by first | exact Nat.le_refl _ | (simp; done) | (simp; omega) | omega))) | exact Below.refl _ _ | assumption)) (by repeat (first | (with_reducible exact Below.refl _ _) | (with_reducible assumption) | ((with_reducible refine Below.setCell ?_ ?_ _); rotate_left; · (first | exact Nat.le_refl _ | (simp; done) | (simp; omega) | omega)) | ((with_reducible refine Below.alloc ?_ ?_ _); rotate_left; · (first | exact Nat.le_refl _ | (simp; done) | (simp; omega) | omega)) | (with_reducible apply Below.drew) | (with_reducible apply below_drewN') | (refine Below.trans ?_ (Below.mono (by assumption) (by first | exact Nat.le_refl _ | (simp; done) | (simp; omega) | omega))) | exact Below.refl _ _ | assumption))
          case ca12R84 => (first | (simp [Act.put]; done) | (simp [Act.put, *]; done))
          try dsimp only
          refine wpW_end (by kernel_rfl) ?_
          intro we hg hS
          unfold NQ
          dsimp only
          exact H.out _ _ _ _ _ _ _ _ _ _ _ u9 u10 we ⟨by simpa using own_below ownP' hg, by rw [mksC_snoc]; simpa using own_below ownO' hg, HBL.out.trans hS⟩
end Go.Proofs.YtidgeagpgllkeaaGreat
