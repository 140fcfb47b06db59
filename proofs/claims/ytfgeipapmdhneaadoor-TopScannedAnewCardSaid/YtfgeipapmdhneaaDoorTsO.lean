/- The last loops of the law TopScannedAnew: each range of all lies within one of those that the found readings leave. -/
import Derived.Test.YtfgeipapmdhneaaDoorTsN
import Derived.Test.YtfgeipapmdhneaaDoorZsCwB
namespace Go.Proofs.YtfgeipapmdhneaaDoor
open Go.RowKit Go.Lib Go.Shelf

/-- Whether a range lies within one of a list. -/
def inB (M : List (Int × Int)) (r : Int × Int) : Bool := M.any fun q => decide (q.1 ≤ r.1) && decide (r.2 ≤ q.2)
theorem inB_of {M : List (Int × Int)} {r : Int × Int} (h : ∃ q ∈ M, q.1 ≤ r.1 ∧ r.2 ≤ q.2) : inB M r = true := by
  obtain ⟨q, hq, h1, h2⟩ := h
  exact List.any_eq_true.2 ⟨q, hq, by simp [h1, h2]⟩
theorem inB_take (M : List (Int × Int)) (r : Int × Int) (k : Nat) (h : k < M.length) : inB (M.take (k + 1)) r = (inB (M.take k) r || (decide (M[k].1 ≤ r.1) && decide (r.2 ≤ M[k].2))) := any_take_snoc M k h _

set_option maxRecDepth 100000 in
set_option maxHeartbeats 8000000 in
theorem saIn {L M : List (Int × Int)} {A A' : Option Addr} {c c' B i : Nat} {W : World} (hL : Row W B 2 A L.length (rngsC L)) (hM : Row W B 2 A' M.length (rngsC M)) (hB : B ≤ W.heap.size) (_l7 : L.length ≤ 7) (m7 : M.length ≤ 7) (hi : i < L.length) {t0 t1 t2 t3 t4 t5 t6 t7 t8 t9 t10 t11 t12 t13 t14 t15 t17 t18 t19 t21 t25 t26 t27 t28 t29 t30 t31 t32 t33 t34 t35 t36 t37 t38 t39 t40 t41 t42 t43 t44 t45 t46 t47 t48 t49 t50 t51 t52 t53 t54 t55 t56 t57 t58 t59 t60 t61 t62 t63 t64 t65 t66 t67 t68 t69 t70 t71 t72 t73 t74 t75 t76 t77 t78 t79 t80 t81 t82 t83 t84 t85 t86 t87 t88 t89 t90 t91 t92 t93 t94 t95 t96 t97 t98 t99 t100 t101 t102 t103 t104 t105 t106 t107 t108 t109 t110 t111 t112 t113 t114 t115 t116 t117 t118 t119 t120 t121 t122 t123 t124 t125 t126 t127 t128 t129 t130 t131 t132 t133 t134 t135 t136 t137 t138 t139 t140 t141 t142 t143 t144 t145 t146 t147 t148 t149 t150 t151 t152 t153 t154 t155 t156 t157 t158 t159 t160 t161 t162 t163 t164 t165 t166 t167 t168 t169 t170 t171 t172 t173 t174 t175 t176 t177 t178 t179 t180 t181 t182 t183 t184 t185 t186 t187 t188 t189 t190 t191 t192 t193 t194 t195 t196 t197 t198 t199 t200 t201 t202 t203 : Value} {ds : List Deferred} (Q' : Exit → Act → World → Prop)
    (h : ∀ (t172 t173 t174 t175 t176 t177 t178 t179 t180 t181 t182 t183 t184 t185 t186 t187 t188 t189 t190 t191 t192 t193 t194 t195 t196 t197 t198 t199 t200 t201 : Value) (w' : World), Gr W w' → Q' (.exit 6) ⟨#[t0, t1, t2, t3, t4, t5, t6, t7, t8, t9, t10, t11, t12, t13, t14, t15, .slice A' M.length c', t17, t18, t19, .slice A L.length c, t21, .int .i64 (i : Int), .bool (inB M L[i]), .int .i64 (M.length : Int), t25, t26, t27, t28, t29, t30, t31, t32, t33, t34, t35, t36, t37, t38, t39, t40, t41, t42, t43, t44, t45, t46, t47, t48, t49, t50, t51, t52, t53, t54, t55, t56, t57, t58, t59, t60, t61, t62, t63, t64, t65, t66, t67, t68, t69, t70, t71, t72, t73, t74, t75, t76, t77, t78, t79, t80, t81, t82, t83, t84, t85, t86, t87, t88, t89, t90, t91, t92, t93, t94, t95, t96, t97, t98, t99, t100, t101, t102, t103, t104, t105, t106, t107, t108, t109, t110, t111, t112, t113, t114, t115, t116, t117, t118, t119, t120, t121, t122, t123, t124, t125, t126, t127, t128, t129, t130, t131, t132, t133, t134, t135, t136, t137, t138, t139, t140, t141, t142, t143, t144, t145, t146, t147, t148, t149, t150, t151, t152, t153, t154, t155, t156, t157, t158, t159, t160, t161, t162, t163, t164, t165, t166, t167, t168, t169, t170, t171, t172, t173, t174, t175, t176, t177, t178, t179, t180, t181, t182, t183, t184, t185, t186, t187, t188, t189, t190, t191, t192, t193, t194, t195, t196, t197, t198, t199, t200, t201, t202, t203], ds⟩ w') :
    (Code.loop (bodyOf Tryd.f3 3)).wp Tryd.prog Q' ⟨#[t0, t1, t2, t3, t4, t5, t6, t7, t8, t9, t10, t11, t12, t13, t14, t15, .slice A' M.length c', t17, t18, t19, .slice A L.length c, t21, .int .i64 (i : Int), .bool false, .int .i64 0, t25, t26, t27, t28, t29, t30, t31, t32, t33, t34, t35, t36, t37, t38, t39, t40, t41, t42, t43, t44, t45, t46, t47, t48, t49, t50, t51, t52, t53, t54, t55, t56, t57, t58, t59, t60, t61, t62, t63, t64, t65, t66, t67, t68, t69, t70, t71, t72, t73, t74, t75, t76, t77, t78, t79, t80, t81, t82, t83, t84, t85, t86, t87, t88, t89, t90, t91, t92, t93, t94, t95, t96, t97, t98, t99, t100, t101, t102, t103, t104, t105, t106, t107, t108, t109, t110, t111, t112, t113, t114, t115, t116, t117, t118, t119, t120, t121, t122, t123, t124, t125, t126, t127, t128, t129, t130, t131, t132, t133, t134, t135, t136, t137, t138, t139, t140, t141, t142, t143, t144, t145, t146, t147, t148, t149, t150, t151, t152, t153, t154, t155, t156, t157, t158, t159, t160, t161, t162, t163, t164, t165, t166, t167, t168, t169, t170, t171, t172, t173, t174, t175, t176, t177, t178, t179, t180, t181, t182, t183, t184, t185, t186, t187, t188, t189, t190, t191, t192, t193, t194, t195, t196, t197, t198, t199, t200, t201, t202, t203], ds⟩ W := by
  try dsimp only at h ⊢
  have H := Lib.hid h; clear h
  conv in (bodyOf _ _) => whnf
  try dsimp only
  go_loopw [23, 24] (fun s23 s24 wr => ∃ k : Nat, s24 = .int .i64 k ∧ k ≤ M.length ∧ s23 = .bool (inB (M.take k) L[i]) ∧ Gr W wr) (fun _ s24 _ => M.length - (RowKit.intOf s24).toNat)
  case atStart => exact ⟨0, rfl, Nat.zero_le _, rfl, Gr.refl _⟩
  case round =>
    obtain ⟨k, rfl, hk, rfl, hG⟩ := hrel
    by_cases hlt : k < M.length
    · obtain ⟨g, o, hA, hg, r0, r1⟩ := rngsC_cells (hL.below hG hB) hi
      obtain ⟨g', o', hA', hg', s0, s1⟩ := rngsC_cells (hM.below hG hB) hlt
      subst hA hA'
      have hsr := Below.size hG
      have lg : g < wr.heap.size := by omega
      have lg' : g' < wr.heap.size := by omega
      have k0 : (0 : Int) ≤ (k : Int) := by omega
      have k1 : (k : Int) < (M.length : Int) := by omega
      have k2 : (0 : Int) ≤ (i : Int) := by omega
      have k3 : (i : Int) < (L.length : Int) := by omega
      have HT := Lib.hid (inB_take M L[i] k hlt)
      generalize hbb : inB (M.take k) L[i] = bb at *
      generalize L[i] = p at *
      generalize M[k] = q at *
      obtain ⟨p1, p2⟩ := p
      obtain ⟨q1, q2⟩ := q
      simp only at r0 r1 s0 s1 HT
      clear hbb
      by_cases e1 : q1 ≤ p1
      · have d1 : decide (q1 ≤ p1) = true := decide_eq_true e1
        by_cases e2 : p2 ≤ q2
        · have d2 : decide (p2 ≤ q2) = true := decide_eq_true e2
          have HX := Lib.hid (show inB (M.take (k + 1)) (p1, p2) = true by rw [HT.out, d1, d2]; simp)
          clear e1 e2
          go_wp2_with fail
          go_quiet (fail)
          go_wp2
          go_roundw
          case rel => exact ⟨k + 1, by go_num, by omega, by rw [HX.out], below_drewN' hG _⟩
          case measure => simp [RowKit.intOf]; omega
        · have d2 : decide (p2 ≤ q2) = false := decide_eq_false e2
          have HX := Lib.hid (show inB (M.take (k + 1)) (p1, p2) = bb by rw [HT.out, d1, d2]; simp)
          clear e1 e2
          go_wp2_with fail
          go_quiet (fail)
          go_wp2
          go_roundw
          case rel => exact ⟨k + 1, by go_num, by omega, by rw [HX.out], below_drewN' hG _⟩
          case measure => simp [RowKit.intOf]; omega
      · have d1 : decide (q1 ≤ p1) = false := decide_eq_false e1
        have HX := Lib.hid (show inB (M.take (k + 1)) (p1, p2) = bb by rw [HT.out, d1]; simp)
        clear e1
        go_wp2_with fail
        go_quiet (fail)
        go_wp2
        go_roundw
        case rel => exact ⟨k + 1, by go_num, by omega, by rw [HX.out], below_drewN' hG _⟩
        case measure => simp [RowKit.intOf]; omega
    · obtain rfl : k = M.length := by omega
      rw [List.take_length]
      go_wp2
      exact H.out _ _ _ _ _ _ _ _ _ _ _ _ _ _ _ _ _ _ _ _ _ _ _ _ _ _ _ _ _ _ _ hG

set_option maxRecDepth 100000 in
set_option maxHeartbeats 8000000 in
theorem saOut {L M : List (Int × Int)} {A A' : Option Addr} {c c' B : Nat} {W : World} (hL : Row W B 2 A L.length (rngsC L)) (hM : Row W B 2 A' M.length (rngsC M)) (hB : B ≤ W.heap.size) (l7 : L.length ≤ 7) (m7 : M.length ≤ 7) (HW : Hid (∀ r ∈ L, ∃ q ∈ M, q.1 ≤ r.1 ∧ r.2 ≤ q.2)) {t0 t1 t2 t3 t4 t5 t6 t7 t8 t9 t10 t11 t12 t13 t14 t15 t17 t18 t19 t21 t23 t24 t25 t26 t27 t28 t29 t30 t31 t32 t33 t34 t35 t36 t37 t38 t39 t40 t41 t42 t43 t44 t45 t46 t47 t48 t49 t50 t51 t52 t53 t54 t55 t56 t57 t58 t59 t60 t61 t62 t63 t64 t65 t66 t67 t68 t69 t70 t71 t72 t73 t74 t75 t76 t77 t78 t79 t80 t81 t82 t83 t84 t85 t86 t87 t88 t89 t90 t91 t92 t93 t94 t95 t96 t97 t98 t99 t100 t101 t102 t103 t104 t105 t106 t107 t108 t109 t110 t111 t112 t113 t114 t115 t116 t117 t118 t119 t120 t121 t122 t123 t124 t125 t126 t127 t128 t129 t130 t131 t132 t133 t134 t135 t136 t137 t138 t139 t140 t141 t142 t143 t144 t145 t146 t147 t148 t149 t150 t151 t152 t153 t154 t155 t156 t157 t158 t159 t160 t161 t162 t163 t164 t165 t166 t167 t168 t169 t170 t171 t172 t173 t174 t175 t176 t177 t178 t179 t180 t181 t182 t183 t184 t185 t186 t187 t188 t189 t190 t191 t192 t193 t194 t195 t196 t197 t198 t199 t200 t201 t202 t203 : Value} {ds : List Deferred} (Q' : Exit → Act → World → Prop)
    (h : ∀ (t6 t23 t24 t166 t167 t168 t169 t170 t171 t172 t173 t174 t175 t176 t177 t178 t179 t180 t181 t182 t183 t184 t185 t186 t187 t188 t189 t190 t191 t192 t193 t194 t195 t196 t197 t198 t199 t200 t201 t202 t203 : Value) (w' : World), Gr W w' → Q' (.exit 4) ⟨#[t0, t1, t2, t3, t4, t5, t6, t7, t8, t9, t10, t11, t12, t13, t14, t15, .slice A' M.length c', t17, t18, t19, .slice A L.length c, t21, .int .i64 (L.length : Int), t23, t24, t25, t26, t27, t28, t29, t30, t31, t32, t33, t34, t35, t36, t37, t38, t39, t40, t41, t42, t43, t44, t45, t46, t47, t48, t49, t50, t51, t52, t53, t54, t55, t56, t57, t58, t59, t60, t61, t62, t63, t64, t65, t66, t67, t68, t69, t70, t71, t72, t73, t74, t75, t76, t77, t78, t79, t80, t81, t82, t83, t84, t85, t86, t87, t88, t89, t90, t91, t92, t93, t94, t95, t96, t97, t98, t99, t100, t101, t102, t103, t104, t105, t106, t107, t108, t109, t110, t111, t112, t113, t114, t115, t116, t117, t118, t119, t120, t121, t122, t123, t124, t125, t126, t127, t128, t129, t130, t131, t132, t133, t134, t135, t136, t137, t138, t139, t140, t141, t142, t143, t144, t145, t146, t147, t148, t149, t150, t151, t152, t153, t154, t155, t156, t157, t158, t159, t160, t161, t162, t163, t164, t165, t166, t167, t168, t169, t170, t171, t172, t173, t174, t175, t176, t177, t178, t179, t180, t181, t182, t183, t184, t185, t186, t187, t188, t189, t190, t191, t192, t193, t194, t195, t196, t197, t198, t199, t200, t201, t202, t203], ds⟩ w') :
    (Code.loop (bodyOf Tryd.f3 2)).wp Tryd.prog Q' ⟨#[t0, t1, t2, t3, t4, t5, t6, t7, t8, t9, t10, t11, t12, t13, t14, t15, .slice A' M.length c', t17, t18, t19, .slice A L.length c, t21, .int .i64 0, t23, t24, t25, t26, t27, t28, t29, t30, t31, t32, t33, t34, t35, t36, t37, t38, t39, t40, t41, t42, t43, t44, t45, t46, t47, t48, t49, t50, t51, t52, t53, t54, t55, t56, t57, t58, t59, t60, t61, t62, t63, t64, t65, t66, t67, t68, t69, t70, t71, t72, t73, t74, t75, t76, t77, t78, t79, t80, t81, t82, t83, t84, t85, t86, t87, t88, t89, t90, t91, t92, t93, t94, t95, t96, t97, t98, t99, t100, t101, t102, t103, t104, t105, t106, t107, t108, t109, t110, t111, t112, t113, t114, t115, t116, t117, t118, t119, t120, t121, t122, t123, t124, t125, t126, t127, t128, t129, t130, t131, t132, t133, t134, t135, t136, t137, t138, t139, t140, t141, t142, t143, t144, t145, t146, t147, t148, t149, t150, t151, t152, t153, t154, t155, t156, t157, t158, t159, t160, t161, t162, t163, t164, t165, t166, t167, t168, t169, t170, t171, t172, t173, t174, t175, t176, t177, t178, t179, t180, t181, t182, t183, t184, t185, t186, t187, t188, t189, t190, t191, t192, t193, t194, t195, t196, t197, t198, t199, t200, t201, t202, t203], ds⟩ W := by
  try dsimp only at h ⊢
  have H := Lib.hid h; clear h
  conv in (bodyOf _ _) => whnf
  try dsimp only
  go_loopw [22] (fun s22 wr => ∃ i : Nat, s22 = .int .i64 i ∧ i ≤ L.length ∧ Gr W wr) (fun s22 _ => L.length - (RowKit.intOf s22).toNat)
  case atStart => exact ⟨0, rfl, Nat.zero_le _, Gr.refl _⟩
  case round =>
    obtain ⟨i, rfl, hi, hG⟩ := hrel
    by_cases hlt : i < L.length
    · have k3 : (i : Int) < (L.length : Int) := by omega
      have HX := Lib.hid (inB_of (HW.out _ (List.getElem_mem hlt)))
      go_wp2
      have hl := saIn (i := i) (c := c) (c' := c') (hL.below hG hB) (hM.below hG hB) (Nat.le_trans hB (Below.size hG)) l7 m7
      unfold bodyOf at hl
      conv at hl in (Option.getD _ Code.skip) => whnf
      refine hl hlt _ ?_
      clear hl
      intro t172 t173 t174 t175 t176 t177 t178 t179 t180 t181 t182 t183 t184 t185 t186 t187 t188 t189 t190 t191 t192 t193 t194 t195 t196 t197 t198 t199 t200 t201 w2 hG2
      rw [HX.out]
      go_wp2
      go_roundw
      case rel => exact ⟨i + 1, by go_num, by omega, Gr.trans hG hG2⟩
      case measure => simp [RowKit.intOf]; omega
    · obtain rfl : i = L.length := by omega
      go_wp2
      exact H.out _ _ _ _ _ _ _ _ _ _ _ _ _ _ _ _ _ _ _ _ _ _ _ _ _ _ _ _ _ _ _ _ _ _ _ _ _ _ _ _ _ _ hG
end Go.Proofs.YtfgeipapmdhneaaDoor
