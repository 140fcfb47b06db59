/- TopAreasInGroups: the numbers of an area's cells (loops 4 and 5). Contract: the reference's two ascending lists in one. Contract: the reference's groups of which two are one. Contracts: the code's groups where the marks or the rule are not right; the reference's groups. The law FlawGroups answers true. TopAreasInGroups: whether a group has all numbers (loops 6 and 7). TopAreasInGroups: all areas (loop 3). TopAreasInGroups: what holds of the areas; the areas are found (region 25). -/
import Derived.Deep.DeepCutAuto
import Derived.Test.YtclpljbllnhhbaaGreatZeFrD
import Derived.Test.YtclpljbllnhhbaaGreatZeFjG
import Derived.Test.YtclpljbllnhhbaaGreatZeFfA
import Derived.Test.YtclpljbllnhhbaaGreatZeFgA
import Derived.Test.YtclpljbllnhhbaaGreatZeFfD
import Derived.Test.YtclpljbllnhhbaaGreatZeFcG
import Derived.Test.YtclpljbllnhhbaaGreatZeFeA
import Derived.Test.YtclpljbllnhhbaaGreatZeFcD
import Derived.Test.YtclpljbllnhhbaaGreatZeFfE
import Derived.Test.YtclpljbllnhhbaaGreatZeFkB
import Derived.Test.YtclpljbllnhhbaaGreatZeFrI
import Derived.Test.YtclpljbllnhhbaaGreatZeFmC
import Derived.Test.YtclpljbllnhhbaaGreatZeFgD
namespace Go.Proofs.YtclpljbllnhhbaaGreat
open Go.RowKit

theorem numsV_succ (n : Nat) (x : Nat → Bool) : numsV (n + 1) x = numsV n x ++ if x n = true then [(n : Int)] else [] := by
  unfold numsV
  rw [List.range_succ, List.filter_append, List.map_append, List.filter_cons, List.filter_nil]
  cases h : x n <;> rfl
theorem numsV_le (n : Nat) (x : Nat → Bool) : (numsV n x).length ≤ n := by
  unfold numsV
  rw [List.length_map]
  exact Nat.le_trans (List.length_filter_le _ _) (by simp)
theorem ownV_snoc (C cs : List (Int × Int)) (x : Int × Int) : ownV C (cs ++ [x]) = ownV C cs ++ oneV C x := by
  unfold ownV; rw [List.flatMap_append]; simp
theorem own_ints_push {w : World} {base : Nat} {v : Value} {L : List Int} (x : Int) (h : w.ownsRow base 3 1 v (L.length + 1) (intsC L ++ [.int .i64 x])) : w.ownsRow base 3 1 v (L ++ [x]).length (intsC (L ++ [x])) := by
  rw [show intsC (L ++ [x]) = intsC L ++ [.int .i64 x] by simp [intsC], show (L ++ [x]).length = L.length + 1 by simp]; exact h

set_option maxRecDepth 100000 in
set_option maxHeartbeats 32000000 in
theorem topLoop4Z (g : Int → Int → Int) (AC AA : Option Addr) (cC cA B : Nat) (C : List (Int × Int)) (As : List ArA) (L0 : List Int) {V wr0 : World} (hV : Below V.heap.size V wr0) (hC : Row V B 2 AC C.length (cellsC C)) (hA : ArsOk g As AA B V) (hB : B ≤ V.heap.size) (hn : C.length ≤ 20) {i k : Nat} (hi : i < As.length) (hin : As.length ≤ 1000000) (hk : k < As[i].2.length) (hkn : As[i].2.length ≤ 1000) (hL : L0.length ≤ 1000) {vo : Value} (ho : wr0.ownsRow V.heap.size 3 1 vo L0.length (intsC L0)) {z : Nat → Value} {ds : List Deferred} (Q' : Exit → Act → World → Prop)
    (h : ∀ (y : Nat → Value) (v : Value) (w' : World), Below V.heap.size V w' → w'.ownsRow V.heap.size 3 1 v (L0 ++ oneV C As[i].2[k]).length (intsC (L0 ++ oneV C As[i].2[k])) → Q' (.exit 8) ⟨#[z 0, z 1, z 2, z 3, z 4, z 5, z 6, z 7, z 8, z 9, .slice AC C.length cC, z 11, z 12, z 13, z 14, z 15, .slice AA As.length cA, z 17, z 18, z 19, .int .i64 i, v, .int .i64 k, y 23, z 24, z 25, z 26, z 27, z 28, z 29, z 30, z 31, z 32, z 33, z 34, z 35, z 36, z 37, z 38, z 39, z 40, z 41, z 42, z 43, z 44, z 45, z 46, z 47, z 48, z 49, z 50, z 51, z 52, z 53, z 54, z 55, z 56, z 57, z 58, z 59, z 60, z 61, z 62, z 63, z 64, z 65, z 66, z 67, z 68, z 69, z 70, z 71, z 72, z 73, z 74, z 75, z 76, z 77, z 78, z 79, z 80, z 81, z 82, z 83, z 84, z 85, z 86, z 87, z 88, z 89, z 90, z 91, z 92, z 93, z 94, z 95, z 96, z 97, z 98, z 99, z 100, z 101, z 102, z 103, z 104, z 105, z 106, z 107, z 108, z 109, z 110, z 111, z 112, z 113, z 114, z 115, z 116, z 117, z 118, z 119, z 120, z 121, z 122, z 123, z 124, z 125, z 126, z 127, z 128, z 129, z 130, z 131, z 132, z 133, z 134, z 135, z 136, z 137, z 138, z 139, z 140, z 141, z 142, z 143, z 144, z 145, z 146, z 147, z 148, z 149, z 150, z 151, z 152, z 153, z 154, z 155, z 156, z 157, z 158, z 159, z 160, z 161, z 162, z 163, z 164, z 165, z 166, z 167, z 168, z 169, z 170, z 171, z 172, z 173, z 174, y 175, y 176, y 177, y 178, y 179, y 180, y 181, y 182, y 183, y 184, y 185, y 186, y 187, y 188, y 189, y 190, y 191, y 192, y 193, y 194, y 195, y 196, y 197, z 198, z 199, z 200, z 201, z 202, z 203, z 204, z 205, z 206, z 207, z 208, z 209, z 210, z 211, z 212, z 213, z 214, z 215, z 216, z 217, z 218, z 219, z 220, z 221, z 222, z 223, z 224, z 225, z 226, z 227, z 228, z 229, z 230, z 231, z 232, z 233, z 234, z 235, z 236, z 237, z 238, z 239, z 240, z 241, z 242, z 243, z 244, z 245, z 246, z 247, z 248, z 249, z 250, z 251, z 252, z 253, z 254, z 255, z 256, z 257, z 258, z 259, z 260, z 261, z 262, z 263, z 264], ds⟩ w') :
    (Code.loop (bodyOf Tryz.f3 4)).wp Tryz.prog Q' ⟨#[z 0, z 1, z 2, z 3, z 4, z 5, z 6, z 7, z 8, z 9, .slice AC C.length cC, z 11, z 12, z 13, z 14, z 15, .slice AA As.length cA, z 17, z 18, z 19, .int .i64 i, vo, .int .i64 k, .int .i64 0, z 24, z 25, z 26, z 27, z 28, z 29, z 30, z 31, z 32, z 33, z 34, z 35, z 36, z 37, z 38, z 39, z 40, z 41, z 42, z 43, z 44, z 45, z 46, z 47, z 48, z 49, z 50, z 51, z 52, z 53, z 54, z 55, z 56, z 57, z 58, z 59, z 60, z 61, z 62, z 63, z 64, z 65, z 66, z 67, z 68, z 69, z 70, z 71, z 72, z 73, z 74, z 75, z 76, z 77, z 78, z 79, z 80, z 81, z 82, z 83, z 84, z 85, z 86, z 87, z 88, z 89, z 90, z 91, z 92, z 93, z 94, z 95, z 96, z 97, z 98, z 99, z 100, z 101, z 102, z 103, z 104, z 105, z 106, z 107, z 108, z 109, z 110, z 111, z 112, z 113, z 114, z 115, z 116, z 117, z 118, z 119, z 120, z 121, z 122, z 123, z 124, z 125, z 126, z 127, z 128, z 129, z 130, z 131, z 132, z 133, z 134, z 135, z 136, z 137, z 138, z 139, z 140, z 141, z 142, z 143, z 144, z 145, z 146, z 147, z 148, z 149, z 150, z 151, z 152, z 153, z 154, z 155, z 156, z 157, z 158, z 159, z 160, z 161, z 162, z 163, z 164, z 165, z 166, z 167, z 168, z 169, z 170, z 171, z 172, z 173, z 174, z 175, z 176, z 177, z 178, z 179, z 180, z 181, z 182, z 183, z 184, z 185, z 186, z 187, z 188, z 189, z 190, z 191, z 192, z 193, z 194, z 195, z 196, z 197, z 198, z 199, z 200, z 201, z 202, z 203, z 204, z 205, z 206, z 207, z 208, z 209, z 210, z 211, z 212, z 213, z 214, z 215, z 216, z 217, z 218, z 219, z 220, z 221, z 222, z 223, z 224, z 225, z 226, z 227, z 228, z 229, z 230, z 231, z 232, z 233, z 234, z 235, z 236, z 237, z 238, z 239, z 240, z 241, z 242, z 243, z 244, z 245, z 246, z 247, z 248, z 249, z 250, z 251, z 252, z 253, z 254, z 255, z 256, z 257, z 258, z 259, z 260, z 261, z 262, z 263, z 264], ds⟩ wr0 := by
  have H := Lib.hid h; clear h
  obtain ⟨i0, hif, hz0, hz1, hz2⟩ := info_parts infoInt
  obtain ⟨y0, hy⟩ : ∃ y, As[i].2[k] = y := ⟨_, rfl⟩
  rw [hy] at H
  refine wp_loop_ghost (fun m a' wr => ∃ (y : Nat → Value) (v : Value) (n : Nat), a' = ⟨#[z 0, z 1, z 2, z 3, z 4, z 5, z 6, z 7, z 8, z 9, .slice AC C.length cC, z 11, z 12, z 13, z 14, z 15, .slice AA As.length cA, z 17, z 18, z 19, .int .i64 i, v, .int .i64 k, .int .i64 (n : Int), z 24, z 25, z 26, z 27, z 28, z 29, z 30, z 31, z 32, z 33, z 34, z 35, z 36, z 37, z 38, z 39, z 40, z 41, z 42, z 43, z 44, z 45, z 46, z 47, z 48, z 49, z 50, z 51, z 52, z 53, z 54, z 55, z 56, z 57, z 58, z 59, z 60, z 61, z 62, z 63, z 64, z 65, z 66, z 67, z 68, z 69, z 70, z 71, z 72, z 73, z 74, z 75, z 76, z 77, z 78, z 79, z 80, z 81, z 82, z 83, z 84, z 85, z 86, z 87, z 88, z 89, z 90, z 91, z 92, z 93, z 94, z 95, z 96, z 97, z 98, z 99, z 100, z 101, z 102, z 103, z 104, z 105, z 106, z 107, z 108, z 109, z 110, z 111, z 112, z 113, z 114, z 115, z 116, z 117, z 118, z 119, z 120, z 121, z 122, z 123, z 124, z 125, z 126, z 127, z 128, z 129, z 130, z 131, z 132, z 133, z 134, z 135, z 136, z 137, z 138, z 139, z 140, z 141, z 142, z 143, z 144, z 145, z 146, z 147, z 148, z 149, z 150, z 151, z 152, z 153, z 154, z 155, z 156, z 157, z 158, z 159, z 160, z 161, z 162, z 163, z 164, z 165, z 166, z 167, z 168, z 169, z 170, z 171, z 172, z 173, z 174, y 175, y 176, y 177, y 178, y 179, y 180, y 181, y 182, y 183, y 184, y 185, y 186, y 187, y 188, y 189, y 190, y 191, y 192, y 193, y 194, y 195, y 196, y 197, z 198, z 199, z 200, z 201, z 202, z 203, z 204, z 205, z 206, z 207, z 208, z 209, z 210, z 211, z 212, z 213, z 214, z 215, z 216, z 217, z 218, z 219, z 220, z 221, z 222, z 223, z 224, z 225, z 226, z 227, z 228, z 229, z 230, z 231, z 232, z 233, z 234, z 235, z 236, z 237, z 238, z 239, z 240, z 241, z 242, z 243, z 244, z 245, z 246, z 247, z 248, z 249, z 250, z 251, z 252, z 253, z 254, z 255, z 256, z 257, z 258, z 259, z 260, z 261, z 262, z 263, z 264], ds⟩ ∧ m + n = C.length ∧ Below V.heap.size V wr ∧ wr.ownsRow V.heap.size 3 1 v (L0 ++ numsV n (fun n => decide (C[n]?.getD (0, 0) = y0))).length (intsC (L0 ++ numsV n (fun n => decide (C[n]?.getD (0, 0) = y0))))) C.length ⟨z, vo, 0, rfl, by omega, hV, by simpa [numsV] using ho⟩ ?_
  clear hV ho
  rintro m a' wr ⟨y, v, n, rfl, hm, hV, ho⟩
  have hzV := Below.size hV
  conv in (bodyOf _ _) => whnf
  dsimp only
  by_cases hlt : n < C.length
  · have j1 : ((n : Int) < (C.length : Int)) := by omega
    have j2 : ((i : Int) < (As.length : Int)) := by omega
    have j3 : ((k : Int) < (As[i].2.length : Int)) := by omega
    obtain ⟨gc, oc, hAC, hgc, x0, x1⟩ := cellPair (hC.below hV hB) hlt
    obtain ⟨ga, oa, hAA, hga, yy, _, _, _⟩ := (hA.below hV hB).cell hi
    obtain ⟨Ai, ci, hai, hRi⟩ := ((hA.below hV hB).each _ (List.getElem_mem hi)).row
    obtain ⟨gi, oi, hAi, hgi, u0, u1⟩ := cellPair hRi hk
    rw [hy] at u0 u1
    rw [hai] at yy
    have hsu := numsV_succ n (fun n => decide (C[n]?.getD (0, 0) = y0))
    have hle := numsV_le n (fun n => decide (C[n]?.getD (0, 0) = y0))
    rw [List.getElem?_eq_getElem hlt] at hsu
    obtain ⟨x, hx⟩ : ∃ x, C[n] = x := ⟨_, rfl⟩
    have hsu : numsV (n + 1) (fun n => decide (C[n]?.getD (0, 0) = y0)) = numsV n (fun n => decide (C[n]?.getD (0, 0) = y0)) ++ if decide (C[n] = y0) = true then [(n : Int)] else [] := hsu
    rw [hx] at x0 x1 hsu
    have hgw : gc < wr.heap.size := by omega
    have hgw2 : ga < wr.heap.size := by omega
    have hgw3 : gi < wr.heap.size := by omega
    obtain ⟨E, hE⟩ : ∃ E, (decide (x.1 = y0.1) && decide (x.2 = y0.2)) = E := ⟨_, rfl⟩
    have hq := fun w => (eq_cell x.1 x.2 y0.1 y0.2 w).trans (by rw [hE])
    have hEd : decide (x = y0) = E := by
      rw [← hE, Bool.eq_iff_iff, decide_eq_true_iff, Bool.and_eq_true, decide_eq_true_iff, decide_eq_true_iff]
      exact Prod.ext_iff
    rw [hEd] at hsu
    have HSU := Lib.hid hsu
    clear hsu hEd hE hx hai hRi
    obtain ⟨ns, hns⟩ : ∃ ns, numsV n (fun n => decide (C[n]?.getD (0, 0) = y0)) = ns := ⟨_, rfl⟩
    rw [hns] at ho hle HSU
    clear hns hy
    generalize As[i].2.length = la at *
    subst hAC
    subst hAA
    subst hAi
    cases E with
    | false =>
      have HX : Hid (numsV (n + 1) (fun n => decide (C[n]?.getD (0, 0) = y0)) = ns) := Lib.hid (by rw [HSU.out]; simp)
      clear HSU
      go_wp2_with fail
      go_quiet (fail)
      go_wp2
      exact ⟨m - 1, by omega, (frA [(175, _), (176, _), (177, _), (178, _), (179, _), (180, _), (181, _), (182, _), (183, _), (184, _), (185, _), (186, _), (187, _), (188, _), (189, _), (190, _), (191, _), (192, _), (193, _), (194, _), (195, _), (196, _), (197, _)]), _, n + 1, rfl, by omega, below_drewN' hV _, (by rw [HX.out]; exact ho)⟩
    | true =>
      have HX : Hid (numsV (n + 1) (fun n => decide (C[n]?.getD (0, 0) = y0)) = ns ++ [(n : Int)]) := Lib.hid (by rw [HSU.out]; simp)
      clear HSU
      go_wp2_with fail
      go_quiet (fail)
      have hD := below_drewN' hV nq
      replace ho := (show (wr.drewN nq).ownsRow V.heap.size 3 1 v (L0 ++ ns).length (intsC (L0 ++ ns)) from ho)
      generalize wr.drewN nq = wz at *
      have hzz := Below.size hD
      go_wp2_with (at_builtin; refine wpList_append_own _ rfl _ _ 30 rfl V.heap.size 3 i0 (.int .i64 0) 1 8 Tryz.underlying30 hif hz0 hz1 hz2 rfl (by decide) _ _ _ rfl (ho.alloc _) ⟨wz.heap.size, 0, none⟩ 1 1 [.int .i64 n] rfl rfl (cell_one_new _ _ _) (by simp [Value.oneCell']) (by simp only [List.length_append]; unfold maxLen; omega) (by simp only [List.length_append]; omega) (by simp; omega) ?_; intro v2 W5 hown' hgrow _)
      have hGa : Below V.heap.size V (wz.alloc (.cells #[.int .i64 (n : Int)] 3)) := hD.alloc hzz _
      have hb5 : Below V.heap.size V W5 := Below.grown hGa hgrow (Below.size hGa) (fun r e => ((ho.alloc (.cells #[.int .i64 (n : Int)] 3)).lt r e).1)
      exact ⟨m - 1, by omega, (frA [(175, _), (176, _), (177, _), (178, _), (179, _), (180, _), (181, _), (182, _), (183, _), (184, _), (185, _), (186, _), (187, _), (188, _), (189, _), (190, _), (191, _), (192, _), (193, _), (194, _), (195, _), (196, _), (197, _)]), v2, n + 1, rfl, by omega, hb5, (by rw [HX.out, ← List.append_assoc]; exact own_ints_push _ hown')⟩
  · obtain rfl : n = C.length := by omega
    go_wp2
    exact H.out (frA [(23, _), (175, _), (176, _), (177, _), (178, _), (179, _), (180, _), (181, _), (182, _), (183, _), (184, _), (185, _), (186, _), (187, _), (188, _), (189, _), (190, _), (191, _), (192, _), (193, _), (194, _), (195, _), (196, _), (197, _)]) _ wr hV ho

set_option maxRecDepth 100000 in
set_option maxHeartbeats 32000000 in
theorem topLoop4 (g : Int → Int → Int) (AC AA : Option Addr) (cC cA B : Nat) (C : List (Int × Int)) (As : List ArA) (L0 : List Int) {V wr0 : World} (hV : Below V.heap.size V wr0) (hC : Row V B 2 AC C.length (cellsC C)) (hA : ArsOk g As AA B V) (hB : B ≤ V.heap.size) (hn : C.length ≤ 20) {i k : Nat} (hi : i < As.length) (hin : As.length ≤ 1000000) (hk : k < As[i].2.length) (hkn : As[i].2.length ≤ 1000) (hL : L0.length ≤ 1000) {vo : Value} (ho : wr0.ownsRow V.heap.size 3 1 vo L0.length (intsC L0)) {t0 t1 t2 t3 t4 t5 t6 t7 t8 t9 t11 t12 t13 t14 t15 t17 t18 t19 t24 t25 t26 t27 t28 t29 t30 t31 t32 t33 t34 t35 t36 t37 t38 t39 t40 t41 t42 t43 t44 t45 t46 t47 t48 t49 t50 t51 t52 t53 t54 t55 t56 t57 t58 t59 t60 t61 t62 t63 t64 t65 t66 t67 t68 t69 t70 t71 t72 t73 t74 t75 t76 t77 t78 t79 t80 t81 t82 t83 t84 t85 t86 t87 t88 t89 t90 t91 t92 t93 t94 t95 t96 t97 t98 t99 t100 t101 t102 t103 t104 t105 t106 t107 t108 t109 t110 t111 t112 t113 t114 t115 t116 t117 t118 t119 t120 t121 t122 t123 t124 t125 t126 t127 t128 t129 t130 t131 t132 t133 t134 t135 t136 t137 t138 t139 t140 t141 t142 t143 t144 t145 t146 t147 t148 t149 t150 t151 t152 t153 t154 t155 t156 t157 t158 t159 t160 t161 t162 t163 t164 t165 t166 t167 t168 t169 t170 t171 t172 t173 t174 t175 t176 t177 t178 t179 t180 t181 t182 t183 t184 t185 t186 t187 t188 t189 t190 t191 t192 t193 t194 t195 t196 t197 t198 t199 t200 t201 t202 t203 t204 t205 t206 t207 t208 t209 t210 t211 t212 t213 t214 t215 t216 t217 t218 t219 t220 t221 t222 t223 t224 t225 t226 t227 t228 t229 t230 t231 t232 t233 t234 t235 t236 t237 t238 t239 t240 t241 t242 t243 t244 t245 t246 t247 t248 t249 t250 t251 t252 t253 t254 t255 t256 t257 t258 t259 t260 t261 t262 t263 t264 : Value} {ds : List Deferred} (Q' : Exit → Act → World → Prop)
    (h : ∀ (y : Nat → Value) (v : Value) (w' : World), Below V.heap.size V w' → w'.ownsRow V.heap.size 3 1 v (L0 ++ oneV C As[i].2[k]).length (intsC (L0 ++ oneV C As[i].2[k])) → Q' (.exit 8) ⟨#[t0, t1, t2, t3, t4, t5, t6, t7, t8, t9, .slice AC C.length cC, t11, t12, t13, t14, t15, .slice AA As.length cA, t17, t18, t19, .int .i64 i, v, .int .i64 k, y 23, t24, t25, t26, t27, t28, t29, t30, t31, t32, t33, t34, t35, t36, t37, t38, t39, t40, t41, t42, t43, t44, t45, t46, t47, t48, t49, t50, t51, t52, t53, t54, t55, t56, t57, t58, t59, t60, t61, t62, t63, t64, t65, t66, t67, t68, t69, t70, t71, t72, t73, t74, t75, t76, t77, t78, t79, t80, t81, t82, t83, t84, t85, t86, t87, t88, t89, t90, t91, t92, t93, t94, t95, t96, t97, t98, t99, t100, t101, t102, t103, t104, t105, t106, t107, t108, t109, t110, t111, t112, t113, t114, t115, t116, t117, t118, t119, t120, t121, t122, t123, t124, t125, t126, t127, t128, t129, t130, t131, t132, t133, t134, t135, t136, t137, t138, t139, t140, t141, t142, t143, t144, t145, t146, t147, t148, t149, t150, t151, t152, t153, t154, t155, t156, t157, t158, t159, t160, t161, t162, t163, t164, t165, t166, t167, t168, t169, t170, t171, t172, t173, t174, y 175, y 176, y 177, y 178, y 179, y 180, y 181, y 182, y 183, y 184, y 185, y 186, y 187, y 188, y 189, y 190, y 191, y 192, y 193, y 194, y 195, y 196, y 197, t198, t199, t200, t201, t202, t203, t204, t205, t206, t207, t208, t209, t210, t211, t212, t213, t214, t215, t216, t217, t218, t219, t220, t221, t222, t223, t224, t225, t226, t227, t228, t229, t230, t231, t232, t233, t234, t235, t236, t237, t238, t239, t240, t241, t242, t243, t244, t245, t246, t247, t248, t249, t250, t251, t252, t253, t254, t255, t256, t257, t258, t259, t260, t261, t262, t263, t264], ds⟩ w') :
    (Code.loop (bodyOf Tryz.f3 4)).wp Tryz.prog Q' ⟨#[t0, t1, t2, t3, t4, t5, t6, t7, t8, t9, .slice AC C.length cC, t11, t12, t13, t14, t15, .slice AA As.length cA, t17, t18, t19, .int .i64 i, vo, .int .i64 k, .int .i64 0, t24, t25, t26, t27, t28, t29, t30, t31, t32, t33, t34, t35, t36, t37, t38, t39, t40, t41, t42, t43, t44, t45, t46, t47, t48, t49, t50, t51, t52, t53, t54, t55, t56, t57, t58, t59, t60, t61, t62, t63, t64, t65, t66, t67, t68, t69, t70, t71, t72, t73, t74, t75, t76, t77, t78, t79, t80, t81, t82, t83, t84, t85, t86, t87, t88, t89, t90, t91, t92, t93, t94, t95, t96, t97, t98, t99, t100, t101, t102, t103, t104, t105, t106, t107, t108, t109, t110, t111, t112, t113, t114, t115, t116, t117, t118, t119, t120, t121, t122, t123, t124, t125, t126, t127, t128, t129, t130, t131, t132, t133, t134, t135, t136, t137, t138, t139, t140, t141, t142, t143, t144, t145, t146, t147, t148, t149, t150, t151, t152, t153, t154, t155, t156, t157, t158, t159, t160, t161, t162, t163, t164, t165, t166, t167, t168, t169, t170, t171, t172, t173, t174, t175, t176, t177, t178, t179, t180, t181, t182, t183, t184, t185, t186, t187, t188, t189, t190, t191, t192, t193, t194, t195, t196, t197, t198, t199, t200, t201, t202, t203, t204, t205, t206, t207, t208, t209, t210, t211, t212, t213, t214, t215, t216, t217, t218, t219, t220, t221, t222, t223, t224, t225, t226, t227, t228, t229, t230, t231, t232, t233, t234, t235, t236, t237, t238, t239, t240, t241, t242, t243, t244, t245, t246, t247, t248, t249, t250, t251, t252, t253, t254, t255, t256, t257, t258, t259, t260, t261, t262, t263, t264], ds⟩ wr0 :=
  topLoop4Z (z := (frA [(0, t0), (1, t1), (2, t2), (3, t3), (4, t4), (5, t5), (6, t6), (7, t7), (8, t8), (9, t9), (11, t11), (12, t12), (13, t13), (14, t14), (15, t15), (17, t17), (18, t18), (19, t19), (24, t24), (25, t25), (26, t26), (27, t27), (28, t28), (29, t29), (30, t30), (31, t31), (32, t32), (33, t33), (34, t34), (35, t35), (36, t36), (37, t37), (38, t38), (39, t39), (40, t40), (41, t41), (42, t42), (43, t43), (44, t44), (45, t45), (46, t46), (47, t47), (48, t48), (49, t49), (50, t50), (51, t51), (52, t52), (53, t53), (54, t54), (55, t55), (56, t56), (57, t57), (58, t58), (59, t59), (60, t60), (61, t61), (62, t62), (63, t63), (64, t64), (65, t65), (66, t66), (67, t67), (68, t68), (69, t69), (70, t70), (71, t71), (72, t72), (73, t73), (74, t74), (75, t75), (76, t76), (77, t77), (78, t78), (79, t79), (80, t80), (81, t81), (82, t82), (83, t83), (84, t84), (85, t85), (86, t86), (87, t87), (88, t88), (89, t89), (90, t90), (91, t91), (92, t92), (93, t93), (94, t94), (95, t95), (96, t96), (97, t97), (98, t98), (99, t99), (100, t100), (101, t101), (102, t102), (103, t103), (104, t104), (105, t105), (106, t106), (107, t107), (108, t108), (109, t109), (110, t110), (111, t111), (112, t112), (113, t113), (114, t114), (115, t115), (116, t116), (117, t117), (118, t118), (119, t119), (120, t120), (121, t121), (122, t122), (123, t123), (124, t124), (125, t125), (126, t126), (127, t127), (128, t128), (129, t129), (130, t130), (131, t131), (132, t132), (133, t133), (134, t134), (135, t135), (136, t136), (137, t137), (138, t138), (139, t139), (140, t140), (141, t141), (142, t142), (143, t143), (144, t144), (145, t145), (146, t146), (147, t147), (148, t148), (149, t149), (150, t150), (151, t151), (152, t152), (153, t153), (154, t154), (155, t155), (156, t156), (157, t157), (158, t158), (159, t159), (160, t160), (161, t161), (162, t162), (163, t163), (164, t164), (165, t165), (166, t166), (167, t167), (168, t168), (169, t169), (170, t170), (171, t171), (172, t172), (173, t173), (174, t174), (175, t175), (176, t176), (177, t177), (178, t178), (179, t179), (180, t180), (181, t181), (182, t182), (183, t183), (184, t184), (185, t185), (186, t186), (187, t187), (188, t188), (189, t189), (190, t190), (191, t191), (192, t192), (193, t193), (194, t194), (195, t195), (196, t196), (197, t197), (198, t198), (199, t199), (200, t200), (201, t201), (202, t202), (203, t203), (204, t204), (205, t205), (206, t206), (207, t207), (208, t208), (209, t209), (210, t210), (211, t211), (212, t212), (213, t213), (214, t214), (215, t215), (216, t216), (217, t217), (218, t218), (219, t219), (220, t220), (221, t221), (222, t222), (223, t223), (224, t224), (225, t225), (226, t226), (227, t227), (228, t228), (229, t229), (230, t230), (231, t231), (232, t232), (233, t233), (234, t234), (235, t235), (236, t236), (237, t237), (238, t238), (239, t239), (240, t240), (241, t241), (242, t242), (243, t243), (244, t244), (245, t245), (246, t246), (247, t247), (248, t248), (249, t249), (250, t250), (251, t251), (252, t252), (253, t253), (254, t254), (255, t255), (256, t256), (257, t257), (258, t258), (259, t259), (260, t260), (261, t261), (262, t262), (263, t263), (264, t264)])) g AC AA cC cA B C As L0 hV hC hA hB hn hi hin hk hkn hL ho Q' h

set_option maxRecDepth 100000 in
set_option maxHeartbeats 32000000 in
theorem topLoop3Z (g : Int → Int → Int) (AC AA : Option Addr) (cC cA B : Nat) (C : List (Int × Int)) (As : List ArA) {V wr0 : World} (hV : Below V.heap.size V wr0) (hC : Row V B 2 AC C.length (cellsC C)) (hA : ArsOk g As AA B V) (hB : B ≤ V.heap.size) (hn : C.length ≤ 20) {i : Nat} (hi : i < As.length) (hin : As.length ≤ 1000000) (hkn : As[i].2.length ≤ 1000) (HLE : Hid (∀ k, k ≤ As[i].2.length → (ownV C (As[i].2.take k)).length ≤ 1000)) {z : Nat → Value} {ds : List Deferred} (Q' : Exit → Act → World → Prop)
    (h : ∀ (y : Nat → Value) (v : Value) (w' : World), Below V.heap.size V w' → w'.ownsRow V.heap.size 3 1 v (ownV C As[i].2).length (intsC (ownV C As[i].2)) → Q' (.exit 6) ⟨#[z 0, z 1, z 2, z 3, z 4, z 5, z 6, z 7, z 8, z 9, .slice AC C.length cC, z 11, z 12, z 13, z 14, z 15, .slice AA As.length cA, z 17, z 18, z 19, .int .i64 i, v, y 22, y 23, z 24, z 25, z 26, z 27, z 28, z 29, z 30, z 31, z 32, z 33, z 34, z 35, z 36, z 37, z 38, z 39, z 40, z 41, z 42, z 43, z 44, z 45, z 46, z 47, z 48, z 49, z 50, z 51, z 52, z 53, z 54, z 55, z 56, z 57, z 58, z 59, z 60, z 61, z 62, z 63, z 64, z 65, z 66, z 67, z 68, z 69, z 70, z 71, z 72, z 73, z 74, z 75, z 76, z 77, z 78, z 79, z 80, z 81, z 82, z 83, z 84, z 85, z 86, z 87, z 88, z 89, z 90, z 91, z 92, z 93, z 94, z 95, z 96, z 97, z 98, z 99, z 100, z 101, z 102, z 103, z 104, z 105, z 106, z 107, z 108, z 109, z 110, z 111, z 112, z 113, z 114, z 115, z 116, z 117, z 118, z 119, z 120, z 121, z 122, z 123, z 124, z 125, z 126, z 127, z 128, z 129, z 130, z 131, z 132, z 133, z 134, z 135, z 136, z 137, z 138, z 139, z 140, z 141, z 142, z 143, z 144, z 145, z 146, z 147, z 148, z 149, z 150, z 151, z 152, z 153, z 154, z 155, z 156, z 157, z 158, z 159, z 160, z 161, z 162, z 163, z 164, y 165, y 166, y 167, y 168, y 169, y 170, y 171, y 172, y 173, y 174, y 175, y 176, y 177, y 178, y 179, y 180, y 181, y 182, y 183, y 184, y 185, y 186, y 187, y 188, y 189, y 190, y 191, y 192, y 193, y 194, y 195, y 196, y 197, z 198, z 199, z 200, z 201, z 202, z 203, z 204, z 205, z 206, z 207, z 208, z 209, z 210, z 211, z 212, z 213, z 214, z 215, z 216, z 217, z 218, z 219, z 220, z 221, z 222, z 223, z 224, z 225, z 226, z 227, z 228, z 229, z 230, z 231, z 232, z 233, z 234, z 235, z 236, z 237, z 238, z 239, z 240, z 241, z 242, z 243, z 244, z 245, z 246, z 247, z 248, z 249, z 250, z 251, z 252, z 253, z 254, z 255, z 256, z 257, z 258, z 259, z 260, z 261, z 262, z 263, z 264], ds⟩ w') :
    (Code.loop (bodyOf Tryz.f3 3)).wp Tryz.prog Q' ⟨#[z 0, z 1, z 2, z 3, z 4, z 5, z 6, z 7, z 8, z 9, .slice AC C.length cC, z 11, z 12, z 13, z 14, z 15, .slice AA As.length cA, z 17, z 18, z 19, .int .i64 i, .slice none 0 0, .int .i64 0, z 23, z 24, z 25, z 26, z 27, z 28, z 29, z 30, z 31, z 32, z 33, z 34, z 35, z 36, z 37, z 38, z 39, z 40, z 41, z 42, z 43, z 44, z 45, z 46, z 47, z 48, z 49, z 50, z 51, z 52, z 53, z 54, z 55, z 56, z 57, z 58, z 59, z 60, z 61, z 62, z 63, z 64, z 65, z 66, z 67, z 68, z 69, z 70, z 71, z 72, z 73, z 74, z 75, z 76, z 77, z 78, z 79, z 80, z 81, z 82, z 83, z 84, z 85, z 86, z 87, z 88, z 89, z 90, z 91, z 92, z 93, z 94, z 95, z 96, z 97, z 98, z 99, z 100, z 101, z 102, z 103, z 104, z 105, z 106, z 107, z 108, z 109, z 110, z 111, z 112, z 113, z 114, z 115, z 116, z 117, z 118, z 119, z 120, z 121, z 122, z 123, z 124, z 125, z 126, z 127, z 128, z 129, z 130, z 131, z 132, z 133, z 134, z 135, z 136, z 137, z 138, z 139, z 140, z 141, z 142, z 143, z 144, z 145, z 146, z 147, z 148, z 149, z 150, z 151, z 152, z 153, z 154, z 155, z 156, z 157, z 158, z 159, z 160, z 161, z 162, z 163, z 164, z 165, z 166, z 167, z 168, z 169, z 170, z 171, z 172, z 173, z 174, z 175, z 176, z 177, z 178, z 179, z 180, z 181, z 182, z 183, z 184, z 185, z 186, z 187, z 188, z 189, z 190, z 191, z 192, z 193, z 194, z 195, z 196, z 197, z 198, z 199, z 200, z 201, z 202, z 203, z 204, z 205, z 206, z 207, z 208, z 209, z 210, z 211, z 212, z 213, z 214, z 215, z 216, z 217, z 218, z 219, z 220, z 221, z 222, z 223, z 224, z 225, z 226, z 227, z 228, z 229, z 230, z 231, z 232, z 233, z 234, z 235, z 236, z 237, z 238, z 239, z 240, z 241, z 242, z 243, z 244, z 245, z 246, z 247, z 248, z 249, z 250, z 251, z 252, z 253, z 254, z 255, z 256, z 257, z 258, z 259, z 260, z 261, z 262, z 263, z 264], ds⟩ wr0 := by
  have H := Lib.hid h; clear h
  refine wp_loop_ghost (fun m a' wr => ∃ (y : Nat → Value) (v : Value) (k : Nat), a' = ⟨#[z 0, z 1, z 2, z 3, z 4, z 5, z 6, z 7, z 8, z 9, .slice AC C.length cC, z 11, z 12, z 13, z 14, z 15, .slice AA As.length cA, z 17, z 18, z 19, .int .i64 i, v, .int .i64 (k : Int), y 23, z 24, z 25, z 26, z 27, z 28, z 29, z 30, z 31, z 32, z 33, z 34, z 35, z 36, z 37, z 38, z 39, z 40, z 41, z 42, z 43, z 44, z 45, z 46, z 47, z 48, z 49, z 50, z 51, z 52, z 53, z 54, z 55, z 56, z 57, z 58, z 59, z 60, z 61, z 62, z 63, z 64, z 65, z 66, z 67, z 68, z 69, z 70, z 71, z 72, z 73, z 74, z 75, z 76, z 77, z 78, z 79, z 80, z 81, z 82, z 83, z 84, z 85, z 86, z 87, z 88, z 89, z 90, z 91, z 92, z 93, z 94, z 95, z 96, z 97, z 98, z 99, z 100, z 101, z 102, z 103, z 104, z 105, z 106, z 107, z 108, z 109, z 110, z 111, z 112, z 113, z 114, z 115, z 116, z 117, z 118, z 119, z 120, z 121, z 122, z 123, z 124, z 125, z 126, z 127, z 128, z 129, z 130, z 131, z 132, z 133, z 134, z 135, z 136, z 137, z 138, z 139, z 140, z 141, z 142, z 143, z 144, z 145, z 146, z 147, z 148, z 149, z 150, z 151, z 152, z 153, z 154, z 155, z 156, z 157, z 158, z 159, z 160, z 161, z 162, z 163, z 164, y 165, y 166, y 167, y 168, y 169, y 170, y 171, y 172, y 173, y 174, y 175, y 176, y 177, y 178, y 179, y 180, y 181, y 182, y 183, y 184, y 185, y 186, y 187, y 188, y 189, y 190, y 191, y 192, y 193, y 194, y 195, y 196, y 197, z 198, z 199, z 200, z 201, z 202, z 203, z 204, z 205, z 206, z 207, z 208, z 209, z 210, z 211, z 212, z 213, z 214, z 215, z 216, z 217, z 218, z 219, z 220, z 221, z 222, z 223, z 224, z 225, z 226, z 227, z 228, z 229, z 230, z 231, z 232, z 233, z 234, z 235, z 236, z 237, z 238, z 239, z 240, z 241, z 242, z 243, z 244, z 245, z 246, z 247, z 248, z 249, z 250, z 251, z 252, z 253, z 254, z 255, z 256, z 257, z 258, z 259, z 260, z 261, z 262, z 263, z 264], ds⟩ ∧ m + k = As[i].2.length ∧ Below V.heap.size V wr ∧ wr.ownsRow V.heap.size 3 1 v (ownV C (As[i].2.take k)).length (intsC (ownV C (As[i].2.take k)))) As[i].2.length ⟨z, _, 0, rfl, by omega, hV, World.ownsRow_nil _ _ _ _⟩ ?_
  clear hV
  rintro m a' wr ⟨y, v, k, rfl, hm, hV, ho⟩
  have hzV := Below.size hV
  conv in (bodyOf _ _) => whnf
  dsimp only
  have j2 : ((i : Int) < (As.length : Int)) := by omega
  obtain ⟨ga, oa, hAA, hga, yy, _, _, _⟩ := (hA.below hV hB).cell hi
  obtain ⟨Ai, ci, hai, _⟩ := ((hA.below hV hB).each _ (List.getElem_mem hi)).row
  rw [hai] at yy
  have hgw2 : ga < wr.heap.size := by omega
  by_cases hlt : k < As[i].2.length
  · have j3 : ((k : Int) < (As[i].2.length : Int)) := by omega
    have HT : Hid (ownV C (As[i].2.take (k + 1)) = ownV C (As[i].2.take k) ++ oneV C As[i].2[k]) := Lib.hid (by
      rw [List.take_succ_eq_append_getElem hlt, ownV_snoc])
    have hLk := HLE.out k (by omega)
    subst hAA
    clear hai
    go_wp2_with fail
    have hl := topLoop4 g AC (some ⟨ga, oa, none⟩) cC cA B C As (ownV C (As[i].2.take k)) hV hC hA hB hn hi hin hlt hkn hLk (vo := v)
    unfold bodyOf at hl
    conv at hl in (Option.getD _ Code.skip) => whnf
    refine hl ho _ ?_
    clear hl yy ho
    intro y' v' w5 hV5 ho5
    go_wp2
    exact ⟨m - 1, by omega, (frA [(23, _), (165, _), (166, _), (167, _), (168, _), (169, _), (170, _), (171, _), (172, _), (173, _), (174, _), (175, _), (176, _), (177, _), (178, _), (179, _), (180, _), (181, _), (182, _), (183, _), (184, _), (185, _), (186, _), (187, _), (188, _), (189, _), (190, _), (191, _), (192, _), (193, _), (194, _), (195, _), (196, _), (197, _)]), v', k + 1, rfl, by omega, hV5, (by rw [HT.out]; exact ho5)⟩
  · obtain rfl : k = As[i].2.length := by omega
    rw [List.take_length] at ho
    subst hAA
    clear hai
    go_wp2
    exact H.out (frA [(22, _), (23, _), (165, _), (166, _), (167, _), (168, _), (169, _), (170, _), (171, _), (172, _), (173, _), (174, _), (175, _), (176, _), (177, _), (178, _), (179, _), (180, _), (181, _), (182, _), (183, _), (184, _), (185, _), (186, _), (187, _), (188, _), (189, _), (190, _), (191, _), (192, _), (193, _), (194, _), (195, _), (196, _), (197, _)]) _ wr hV ho

set_option maxRecDepth 100000 in
set_option maxHeartbeats 32000000 in
theorem topLoop3 (g : Int → Int → Int) (AC AA : Option Addr) (cC cA B : Nat) (C : List (Int × Int)) (As : List ArA) {V wr0 : World} (hV : Below V.heap.size V wr0) (hC : Row V B 2 AC C.length (cellsC C)) (hA : ArsOk g As AA B V) (hB : B ≤ V.heap.size) (hn : C.length ≤ 20) {i : Nat} (hi : i < As.length) (hin : As.length ≤ 1000000) (hkn : As[i].2.length ≤ 1000) (HLE : Hid (∀ k, k ≤ As[i].2.length → (ownV C (As[i].2.take k)).length ≤ 1000)) {t0 t1 t2 t3 t4 t5 t6 t7 t8 t9 t11 t12 t13 t14 t15 t17 t18 t19 t23 t24 t25 t26 t27 t28 t29 t30 t31 t32 t33 t34 t35 t36 t37 t38 t39 t40 t41 t42 t43 t44 t45 t46 t47 t48 t49 t50 t51 t52 t53 t54 t55 t56 t57 t58 t59 t60 t61 t62 t63 t64 t65 t66 t67 t68 t69 t70 t71 t72 t73 t74 t75 t76 t77 t78 t79 t80 t81 t82 t83 t84 t85 t86 t87 t88 t89 t90 t91 t92 t93 t94 t95 t96 t97 t98 t99 t100 t101 t102 t103 t104 t105 t106 t107 t108 t109 t110 t111 t112 t113 t114 t115 t116 t117 t118 t119 t120 t121 t122 t123 t124 t125 t126 t127 t128 t129 t130 t131 t132 t133 t134 t135 t136 t137 t138 t139 t140 t141 t142 t143 t144 t145 t146 t147 t148 t149 t150 t151 t152 t153 t154 t155 t156 t157 t158 t159 t160 t161 t162 t163 t164 t165 t166 t167 t168 t169 t170 t171 t172 t173 t174 t175 t176 t177 t178 t179 t180 t181 t182 t183 t184 t185 t186 t187 t188 t189 t190 t191 t192 t193 t194 t195 t196 t197 t198 t199 t200 t201 t202 t203 t204 t205 t206 t207 t208 t209 t210 t211 t212 t213 t214 t215 t216 t217 t218 t219 t220 t221 t222 t223 t224 t225 t226 t227 t228 t229 t230 t231 t232 t233 t234 t235 t236 t237 t238 t239 t240 t241 t242 t243 t244 t245 t246 t247 t248 t249 t250 t251 t252 t253 t254 t255 t256 t257 t258 t259 t260 t261 t262 t263 t264 : Value} {ds : List Deferred} (Q' : Exit → Act → World → Prop)
    (h : ∀ (y : Nat → Value) (v : Value) (w' : World), Below V.heap.size V w' → w'.ownsRow V.heap.size 3 1 v (ownV C As[i].2).length (intsC (ownV C As[i].2)) → Q' (.exit 6) ⟨#[t0, t1, t2, t3, t4, t5, t6, t7, t8, t9, .slice AC C.length cC, t11, t12, t13, t14, t15, .slice AA As.length cA, t17, t18, t19, .int .i64 i, v, y 22, y 23, t24, t25, t26, t27, t28, t29, t30, t31, t32, t33, t34, t35, t36, t37, t38, t39, t40, t41, t42, t43, t44, t45, t46, t47, t48, t49, t50, t51, t52, t53, t54, t55, t56, t57, t58, t59, t60, t61, t62, t63, t64, t65, t66, t67, t68, t69, t70, t71, t72, t73, t74, t75, t76, t77, t78, t79, t80, t81, t82, t83, t84, t85, t86, t87, t88, t89, t90, t91, t92, t93, t94, t95, t96, t97, t98, t99, t100, t101, t102, t103, t104, t105, t106, t107, t108, t109, t110, t111, t112, t113, t114, t115, t116, t117, t118, t119, t120, t121, t122, t123, t124, t125, t126, t127, t128, t129, t130, t131, t132, t133, t134, t135, t136, t137, t138, t139, t140, t141, t142, t143, t144, t145, t146, t147, t148, t149, t150, t151, t152, t153, t154, t155, t156, t157, t158, t159, t160, t161, t162, t163, t164, y 165, y 166, y 167, y 168, y 169, y 170, y 171, y 172, y 173, y 174, y 175, y 176, y 177, y 178, y 179, y 180, y 181, y 182, y 183, y 184, y 185, y 186, y 187, y 188, y 189, y 190, y 191, y 192, y 193, y 194, y 195, y 196, y 197, t198, t199, t200, t201, t202, t203, t204, t205, t206, t207, t208, t209, t210, t211, t212, t213, t214, t215, t216, t217, t218, t219, t220, t221, t222, t223, t224, t225, t226, t227, t228, t229, t230, t231, t232, t233, t234, t235, t236, t237, t238, t239, t240, t241, t242, t243, t244, t245, t246, t247, t248, t249, t250, t251, t252, t253, t254, t255, t256, t257, t258, t259, t260, t261, t262, t263, t264], ds⟩ w') :
    (Code.loop (bodyOf Tryz.f3 3)).wp Tryz.prog Q' ⟨#[t0, t1, t2, t3, t4, t5, t6, t7, t8, t9, .slice AC C.length cC, t11, t12, t13, t14, t15, .slice AA As.length cA, t17, t18, t19, .int .i64 i, .slice none 0 0, .int .i64 0, t23, t24, t25, t26, t27, t28, t29, t30, t31, t32, t33, t34, t35, t36, t37, t38, t39, t40, t41, t42, t43, t44, t45, t46, t47, t48, t49, t50, t51, t52, t53, t54, t55, t56, t57, t58, t59, t60, t61, t62, t63, t64, t65, t66, t67, t68, t69, t70, t71, t72, t73, t74, t75, t76, t77, t78, t79, t80, t81, t82, t83, t84, t85, t86, t87, t88, t89, t90, t91, t92, t93, t94, t95, t96, t97, t98, t99, t100, t101, t102, t103, t104, t105, t106, t107, t108, t109, t110, t111, t112, t113, t114, t115, t116, t117, t118, t119, t120, t121, t122, t123, t124, t125, t126, t127, t128, t129, t130, t131, t132, t133, t134, t135, t136, t137, t138, t139, t140, t141, t142, t143, t144, t145, t146, t147, t148, t149, t150, t151, t152, t153, t154, t155, t156, t157, t158, t159, t160, t161, t162, t163, t164, t165, t166, t167, t168, t169, t170, t171, t172, t173, t174, t175, t176, t177, t178, t179, t180, t181, t182, t183, t184, t185, t186, t187, t188, t189, t190, t191, t192, t193, t194, t195, t196, t197, t198, t199, t200, t201, t202, t203, t204, t205, t206, t207, t208, t209, t210, t211, t212, t213, t214, t215, t216, t217, t218, t219, t220, t221, t222, t223, t224, t225, t226, t227, t228, t229, t230, t231, t232, t233, t234, t235, t236, t237, t238, t239, t240, t241, t242, t243, t244, t245, t246, t247, t248, t249, t250, t251, t252, t253, t254, t255, t256, t257, t258, t259, t260, t261, t262, t263, t264], ds⟩ wr0 :=
  topLoop3Z (z := (frA [(0, t0), (1, t1), (2, t2), (3, t3), (4, t4), (5, t5), (6, t6), (7, t7), (8, t8), (9, t9), (11, t11), (12, t12), (13, t13), (14, t14), (15, t15), (17, t17), (18, t18), (19, t19), (23, t23), (24, t24), (25, t25), (26, t26), (27, t27), (28, t28), (29, t29), (30, t30), (31, t31), (32, t32), (33, t33), (34, t34), (35, t35), (36, t36), (37, t37), (38, t38), (39, t39), (40, t40), (41, t41), (42, t42), (43, t43), (44, t44), (45, t45), (46, t46), (47, t47), (48, t48), (49, t49), (50, t50), (51, t51), (52, t52), (53, t53), (54, t54), (55, t55), (56, t56), (57, t57), (58, t58), (59, t59), (60, t60), (61, t61), (62, t62), (63, t63), (64, t64), (65, t65), (66, t66), (67, t67), (68, t68), (69, t69), (70, t70), (71, t71), (72, t72), (73, t73), (74, t74), (75, t75), (76, t76), (77, t77), (78, t78), (79, t79), (80, t80), (81, t81), (82, t82), (83, t83), (84, t84), (85, t85), (86, t86), (87, t87), (88, t88), (89, t89), (90, t90), (91, t91), (92, t92), (93, t93), (94, t94), (95, t95), (96, t96), (97, t97), (98, t98), (99, t99), (100, t100), (101, t101), (102, t102), (103, t103), (104, t104), (105, t105), (106, t106), (107, t107), (108, t108), (109, t109), (110, t110), (111, t111), (112, t112), (113, t113), (114, t114), (115, t115), (116, t116), (117, t117), (118, t118), (119, t119), (120, t120), (121, t121), (122, t122), (123, t123), (124, t124), (125, t125), (126, t126), (127, t127), (128, t128), (129, t129), (130, t130), (131, t131), (132, t132), (133, t133), (134, t134), (135, t135), (136, t136), (137, t137), (138, t138), (139, t139), (140, t140), (141, t141), (142, t142), (143, t143), (144, t144), (145, t145), (146, t146), (147, t147), (148, t148), (149, t149), (150, t150), (151, t151), (152, t152), (153, t153), (154, t154), (155, t155), (156, t156), (157, t157), (158, t158), (159, t159), (160, t160), (161, t161), (162, t162), (163, t163), (164, t164), (165, t165), (166, t166), (167, t167), (168, t168), (169, t169), (170, t170), (171, t171), (172, t172), (173, t173), (174, t174), (175, t175), (176, t176), (177, t177), (178, t178), (179, t179), (180, t180), (181, t181), (182, t182), (183, t183), (184, t184), (185, t185), (186, t186), (187, t187), (188, t188), (189, t189), (190, t190), (191, t191), (192, t192), (193, t193), (194, t194), (195, t195), (196, t196), (197, t197), (198, t198), (199, t199), (200, t200), (201, t201), (202, t202), (203, t203), (204, t204), (205, t205), (206, t206), (207, t207), (208, t208), (209, t209), (210, t210), (211, t211), (212, t212), (213, t213), (214, t214), (215, t215), (216, t216), (217, t217), (218, t218), (219, t219), (220, t220), (221, t221), (222, t222), (223, t223), (224, t224), (225, t225), (226, t226), (227, t227), (228, t228), (229, t229), (230, t230), (231, t231), (232, t232), (233, t233), (234, t234), (235, t235), (236, t236), (237, t237), (238, t238), (239, t239), (240, t240), (241, t241), (242, t242), (243, t243), (244, t244), (245, t245), (246, t246), (247, t247), (248, t248), (249, t249), (250, t250), (251, t251), (252, t252), (253, t253), (254, t254), (255, t255), (256, t256), (257, t257), (258, t258), (259, t259), (260, t260), (261, t261), (262, t262), (263, t263), (264, t264)])) g AC AA cC cA B C As hV hC hA hB hn hi hin hkn HLE Q' h

end Go.Proofs.YtclpljbllnhhbaaGreat

namespace Go.Proofs.YtclpljbllnhhbaaGreat
open Go.RowKit

def tlA (g o c : Nat) : Option Addr := if c = 1 then some ⟨g, o, none⟩ else some ⟨g, o + 1, none⟩
theorem Row.tail {w : World} {B n c g o : Nat} {xs : List Value} (h : Row w B 1 (some ⟨g, o, none⟩) n xs) (hc : n ≤ c) : Row w B 1 (tlA g o c) (n - 1) (xs.drop 1) := by
  refine ⟨by rw [List.length_drop, h.1]; omega, fun hn => ?_⟩
  obtain ⟨g', o', e, hg, hx⟩ := h.2 (by omega)
  injection e with e; injection e with e1 e2 e3
  subst e1 e2
  refine ⟨g, o + 1, ?_, hg, fun j u hj => ?_⟩
  · unfold tlA; rw [if_neg (by omega)]
  · rw [List.getElem?_drop] at hj
    have := hx _ u hj
    rwa [show o + 1 + j = o + (1 + j) by omega]

end Go.Proofs.YtclpljbllnhhbaaGreat

namespace Go.Proofs.YtclpljbllnhhbaaGreat
open Go.RowKit

/-- A list of lists, given to read. -/
structure RwOk (D : List Rw) (A : Option Addr) (B : Nat) (w : World) : Prop where
  row : Row w B 1 A D.length (D.map rwV)
  each : ∀ q ∈ D, Row w B 1 (some ⟨q.b, 0, none⟩) q.ns.length (intsC q.ns)
  cap : ∀ q ∈ D, q.ns.length ≤ q.cap
theorem RwOk.below {D : List Rw} {A : Option Addr} {B C : Nat} {w w' : World} (h : RwOk D A B w) (hb : Below C w w') (hC : B ≤ C) : RwOk D A B w' :=
  ⟨h.row.below hb hC, fun q hq => (h.each q hq).below hb hC, h.cap⟩
theorem RwOk.cell {D : List Rw} {A : Option Addr} {B : Nat} {w : World} (h : RwOk D A B w) {k : Nat} (hk : k < D.length) : ∃ g o, A = some ⟨g, o, none⟩ ∧ g < B ∧ w.cell? ⟨g, o + k, none⟩ = some (rwV D[k]) := by
  obtain ⟨g, o, e, hg, hx⟩ := h.row.2 (by omega)
  exact ⟨g, o, e, hg, hx k _ (by simp [hk])⟩

end Go.Proofs.YtclpljbllnhhbaaGreat

namespace Go.Proofs.YtclpljbllnhhbaaGreat
open Go.RowKit Go.Shelf

theorem MkS.hullR {l : List Mk} (hm : ∀ m ∈ l, MkS m) {g : List Int} (hp : g ≠ []) (hb : ∀ i ∈ g, 0 ≤ i ∧ i < l.length) : MkS (Proofs.YtclpljbllnhhbaaGreat.hullR l g) := by
  cases g with
  | nil => exact absurd rfl hp
  | cons i t =>
    have hi := hb i (by simp)
    have e : l[i.toNat]? = some (l[i.toNat]'(by omega)) := List.getElem?_eq_getElem _
    unfold Proofs.YtclpljbllnhhbaaGreat.hullR
    dsimp only
    rw [e]
    have h0 : MkS (l[i.toNat]'(by omega)) := hm _ (List.getElem_mem _)
    show MkS (t.foldl (fun o j => hullV o (l[j.toNat]?.getD o)) (l[i.toNat]'(by omega)))
    have key : ∀ (t : List Int) (o : Mk), MkS o → (∀ i ∈ t, 0 ≤ i ∧ i < l.length) → MkS (t.foldl (fun o j => hullV o (l[j.toNat]?.getD o)) o) := by
      intro t
      induction t with
      | nil => intro o h _; exact h
      | cons j t ih =>
        intro o h hb
        have hj := hb j (by simp)
        simp only [List.foldl_cons]
        have e : l[j.toNat]? = some (l[j.toNat]'(by omega)) := List.getElem?_eq_getElem _
        rw [e]
        exact ih _ (h.hull (hm _ (List.getElem_mem _))) fun i hi => hb i (List.mem_cons_of_mem _ hi)
    exact key t _ h0 fun j hj => hb j (List.mem_cons_of_mem _ hj)

end Go.Proofs.YtclpljbllnhhbaaGreat

namespace Go.Proofs.YtclpljbllnhhbaaGreat
open Go.RowKit Go.Shelf

theorem own_rws {w : World} {base : Nat} {v : Value} {D : List Rw} (ho : w.ownsRow base 30 1 v D.length (D.map rwV)) (he : ∀ q ∈ D, w.ownsRow base 3 1 (rwV q) q.ns.length (intsC q.ns)) : ∃ A c, v = .slice A D.length c ∧ RwOk D A w.heap.size w := by
  obtain ⟨A, c, rfl, hR, _, _⟩ := own_row2 ho
  refine ⟨A, c, rfl, hR, fun q hq => ?_, fun q hq => ?_⟩
  · have := he q hq
    obtain ⟨A', c', e, hR', _, _⟩ := own_row2 this
    unfold rwV at e
    injection e with e1 e2 e3
    subst e1
    exact hR'
  · have := he q hq
    obtain ⟨A', c', e, _, hc, _⟩ := own_row2 this
    unfold rwV at e
    injection e with e1 e2 e3
    omega
theorem RwOk.more {D : List Rw} {A : Option Addr} {B B' : Nat} {w : World} (h : RwOk D A B w) (hB : B ≤ B') : RwOk D A B' w := ⟨h.row.more hB, fun q hq => (h.each q hq).more hB, h.cap⟩
theorem res_short {l : List Mk} {r : Ru} {D : List Rw} (h : ResG l r (D.map (·.ns))) : D.length ≤ l.length ∧ ∀ q ∈ D, q.ns.length ≤ l.length := by
  have M : RI l r (D.map (·.ns)) := ⟨h.canon, h.fit⟩
  have hp := h.canon.perm.length_eq
  have hl : (numsTo l.length).length = l.length := by simp [numsTo]
  have key : ∀ L : List (List Int), (∀ g ∈ L, g ≠ []) → L.length ≤ L.flatten.length := by
    intro L
    induction L with
    | nil => intro _; simp
    | cons g L ih =>
      intro hg
      have := ih fun g h => hg g (List.mem_cons_of_mem _ h)
      have h1 : 0 < g.length := List.length_pos_iff.2 (hg g (by simp))
      rw [List.flatten_cons, List.length_append, List.length_cons]; omega
  have key2 : ∀ (L : List (List Int)) (g : List Int), g ∈ L → g.length ≤ L.flatten.length := by
    intro L g
    induction L with
    | nil => intro h; cases h
    | cons a L ih =>
      intro h
      rw [List.flatten_cons, List.length_append]
      rcases List.mem_cons.1 h with rfl | h
      · omega
      · have := ih h; omega
  refine ⟨?_, fun q hq => ?_⟩
  · have := key _ h.canon.pos
    rw [hp, hl] at this
    simpa using this
  · have := key2 _ _ (List.mem_map_of_mem (f := (·.ns)) hq)
    omega

end Go.Proofs.YtclpljbllnhhbaaGreat

namespace Go.Proofs.YtclpljbllnhhbaaGreat
open Go.RowKit

theorem all_snoc {own : List Int} {n : Nat} (h : n < own.length) (f : Int → Bool) : (own.take (n + 1)).all f = ((own.take n).all f && f own[n]) := by
  rw [List.take_succ_eq_append_getElem h, List.all_append]; simp
theorem any_snoc {D : List Rw} {n : Nat} (h : n < D.length) (f : Rw → Bool) : (D.take (n + 1)).any f = ((D.take n).any f || f D[n]) := by
  rw [List.take_succ_eq_append_getElem h, List.any_append]; simp

set_option maxRecDepth 100000 in
set_option maxHeartbeats 32000000 in
theorem topLoop6Z (AG AO : Option Addr) (cG cO B BO : Nat) (Ds : List Rw) (own : List Int) {V wr0 : World} (hV : Gr V wr0) (hG : RwOk Ds AG B V) (hO : Row V BO 1 AO own.length (intsC own)) (hB : B ≤ V.heap.size) (hBO : BO ≤ V.heap.size) {k : Nat} (hk : k < Ds.length) (_hkn : Ds.length ≤ 1000) (hon : own.length ≤ 1000) (hl : Ds[k].ns.length ≤ 1000) {z : Nat → Value} {ds : List Deferred} (Q' : Exit → Act → World → Prop)
    (h : ∀ (y : Nat → Value) (w' : World), Gr V w' → Q' (.exit 12) ⟨#[z 0, z 1, z 2, z 3, z 4, z 5, z 6, z 7, z 8, z 9, z 10, z 11, z 12, z 13, z 14, z 15, z 16, z 17, .slice AG Ds.length cG, z 19, z 20, .slice AO own.length cO, z 22, z 23, z 24, .int .i64 k, .bool (own.all fun x => Ds[k].ns.contains x), y 27, z 28, z 29, z 30, z 31, z 32, z 33, z 34, z 35, z 36, z 37, z 38, z 39, z 40, z 41, z 42, z 43, z 44, z 45, z 46, z 47, z 48, z 49, z 50, z 51, z 52, z 53, z 54, z 55, z 56, z 57, z 58, z 59, z 60, z 61, z 62, z 63, z 64, z 65, z 66, z 67, z 68, z 69, z 70, z 71, z 72, z 73, z 74, z 75, z 76, z 77, z 78, z 79, z 80, z 81, z 82, z 83, z 84, z 85, z 86, z 87, z 88, z 89, z 90, z 91, z 92, z 93, z 94, z 95, z 96, z 97, z 98, z 99, z 100, z 101, z 102, z 103, z 104, z 105, z 106, z 107, z 108, z 109, z 110, z 111, z 112, z 113, z 114, z 115, z 116, z 117, z 118, z 119, z 120, z 121, z 122, z 123, z 124, z 125, z 126, z 127, z 128, z 129, z 130, z 131, z 132, z 133, z 134, z 135, z 136, z 137, z 138, z 139, z 140, z 141, z 142, z 143, z 144, z 145, z 146, z 147, z 148, z 149, z 150, z 151, z 152, z 153, z 154, z 155, z 156, z 157, z 158, z 159, z 160, z 161, z 162, z 163, z 164, z 165, z 166, z 167, z 168, z 169, z 170, z 171, z 172, z 173, z 174, z 175, z 176, z 177, z 178, z 179, z 180, z 181, z 182, z 183, z 184, z 185, z 186, z 187, z 188, z 189, z 190, z 191, z 192, z 193, z 194, z 195, z 196, z 197, z 198, z 199, z 200, z 201, z 202, z 203, z 204, z 205, z 206, z 207, z 208, z 209, z 210, z 211, z 212, z 213, z 214, z 215, z 216, z 217, y 218, y 219, y 220, y 221, y 222, y 223, y 224, y 225, y 226, y 227, y 228, y 229, y 230, y 231, y 232, y 233, y 234, y 235, z 236, z 237, z 238, z 239, z 240, z 241, z 242, z 243, z 244, z 245, z 246, z 247, z 248, z 249, z 250, z 251, z 252, z 253, z 254, z 255, z 256, z 257, z 258, z 259, z 260, z 261, z 262, z 263, z 264], ds⟩ w') :
    (Code.loop (bodyOf Tryz.f3 6)).wp Tryz.prog Q' ⟨#[z 0, z 1, z 2, z 3, z 4, z 5, z 6, z 7, z 8, z 9, z 10, z 11, z 12, z 13, z 14, z 15, z 16, z 17, .slice AG Ds.length cG, z 19, z 20, .slice AO own.length cO, z 22, z 23, z 24, .int .i64 k, .bool true, .int .i64 0, z 28, z 29, z 30, z 31, z 32, z 33, z 34, z 35, z 36, z 37, z 38, z 39, z 40, z 41, z 42, z 43, z 44, z 45, z 46, z 47, z 48, z 49, z 50, z 51, z 52, z 53, z 54, z 55, z 56, z 57, z 58, z 59, z 60, z 61, z 62, z 63, z 64, z 65, z 66, z 67, z 68, z 69, z 70, z 71, z 72, z 73, z 74, z 75, z 76, z 77, z 78, z 79, z 80, z 81, z 82, z 83, z 84, z 85, z 86, z 87, z 88, z 89, z 90, z 91, z 92, z 93, z 94, z 95, z 96, z 97, z 98, z 99, z 100, z 101, z 102, z 103, z 104, z 105, z 106, z 107, z 108, z 109, z 110, z 111, z 112, z 113, z 114, z 115, z 116, z 117, z 118, z 119, z 120, z 121, z 122, z 123, z 124, z 125, z 126, z 127, z 128, z 129, z 130, z 131, z 132, z 133, z 134, z 135, z 136, z 137, z 138, z 139, z 140, z 141, z 142, z 143, z 144, z 145, z 146, z 147, z 148, z 149, z 150, z 151, z 152, z 153, z 154, z 155, z 156, z 157, z 158, z 159, z 160, z 161, z 162, z 163, z 164, z 165, z 166, z 167, z 168, z 169, z 170, z 171, z 172, z 173, z 174, z 175, z 176, z 177, z 178, z 179, z 180, z 181, z 182, z 183, z 184, z 185, z 186, z 187, z 188, z 189, z 190, z 191, z 192, z 193, z 194, z 195, z 196, z 197, z 198, z 199, z 200, z 201, z 202, z 203, z 204, z 205, z 206, z 207, z 208, z 209, z 210, z 211, z 212, z 213, z 214, z 215, z 216, z 217, z 218, z 219, z 220, z 221, z 222, z 223, z 224, z 225, z 226, z 227, z 228, z 229, z 230, z 231, z 232, z 233, z 234, z 235, z 236, z 237, z 238, z 239, z 240, z 241, z 242, z 243, z 244, z 245, z 246, z 247, z 248, z 249, z 250, z 251, z 252, z 253, z 254, z 255, z 256, z 257, z 258, z 259, z 260, z 261, z 262, z 263, z 264], ds⟩ wr0 := by
  have H := Lib.hid h; clear h
  obtain ⟨EE, hEE⟩ : ∃ E, (own.all fun x => Ds[k].ns.contains x) = E := ⟨_, rfl⟩
  rw [hEE] at H
  have HEE := Lib.hid hEE
  clear hEE
  refine wp_loop_ghost (fun m a' wr => ∃ (y : Nat → Value) (n : Nat), a' = ⟨#[z 0, z 1, z 2, z 3, z 4, z 5, z 6, z 7, z 8, z 9, z 10, z 11, z 12, z 13, z 14, z 15, z 16, z 17, .slice AG Ds.length cG, z 19, z 20, .slice AO own.length cO, z 22, z 23, z 24, .int .i64 k, .bool ((own.take n).all fun x => Ds[k].ns.contains x), .int .i64 (n : Int), z 28, z 29, z 30, z 31, z 32, z 33, z 34, z 35, z 36, z 37, z 38, z 39, z 40, z 41, z 42, z 43, z 44, z 45, z 46, z 47, z 48, z 49, z 50, z 51, z 52, z 53, z 54, z 55, z 56, z 57, z 58, z 59, z 60, z 61, z 62, z 63, z 64, z 65, z 66, z 67, z 68, z 69, z 70, z 71, z 72, z 73, z 74, z 75, z 76, z 77, z 78, z 79, z 80, z 81, z 82, z 83, z 84, z 85, z 86, z 87, z 88, z 89, z 90, z 91, z 92, z 93, z 94, z 95, z 96, z 97, z 98, z 99, z 100, z 101, z 102, z 103, z 104, z 105, z 106, z 107, z 108, z 109, z 110, z 111, z 112, z 113, z 114, z 115, z 116, z 117, z 118, z 119, z 120, z 121, z 122, z 123, z 124, z 125, z 126, z 127, z 128, z 129, z 130, z 131, z 132, z 133, z 134, z 135, z 136, z 137, z 138, z 139, z 140, z 141, z 142, z 143, z 144, z 145, z 146, z 147, z 148, z 149, z 150, z 151, z 152, z 153, z 154, z 155, z 156, z 157, z 158, z 159, z 160, z 161, z 162, z 163, z 164, z 165, z 166, z 167, z 168, z 169, z 170, z 171, z 172, z 173, z 174, z 175, z 176, z 177, z 178, z 179, z 180, z 181, z 182, z 183, z 184, z 185, z 186, z 187, z 188, z 189, z 190, z 191, z 192, z 193, z 194, z 195, z 196, z 197, z 198, z 199, z 200, z 201, z 202, z 203, z 204, z 205, z 206, z 207, z 208, z 209, z 210, z 211, z 212, z 213, z 214, z 215, z 216, z 217, y 218, y 219, y 220, y 221, y 222, y 223, y 224, y 225, y 226, y 227, y 228, y 229, y 230, y 231, y 232, y 233, y 234, y 235, z 236, z 237, z 238, z 239, z 240, z 241, z 242, z 243, z 244, z 245, z 246, z 247, z 248, z 249, z 250, z 251, z 252, z 253, z 254, z 255, z 256, z 257, z 258, z 259, z 260, z 261, z 262, z 263, z 264], ds⟩ ∧ m + n = own.length ∧ Gr V wr) own.length ⟨z, 0, rfl, by omega, hV⟩ ?_
  clear hV
  rintro m a' wr ⟨y, n, rfl, hm, hV⟩
  have hzV := Below.size hV
  conv in (bodyOf _ _) => whnf
  dsimp only
  by_cases hlt : n < own.length
  · have j1 : ((n : Int) < (own.length : Int)) := by omega
    have j2 : ((k : Int) < (Ds.length : Int)) := by omega
    have HSN := Lib.hid (all_snoc hlt (fun x => Ds[k].ns.contains x))
    obtain ⟨b, hb⟩ : ∃ b, ((own.take n).all fun x => Ds[k].ns.contains x) = b := ⟨_, rfl⟩
    rw [hb] at HSN ⊢
    clear hb
    cases b with
    | false =>
      have HX : Hid (((own.take (n + 1)).all fun x => Ds[k].ns.contains x) = false) := Lib.hid (by rw [HSN.out]; rfl)
      clear HSN
      go_wp2_with fail
      go_quiet (fail)
      go_wp2
      exact ⟨m - 1, by omega, (frA [(218, _), (219, _), (220, _), (221, _), (222, _), (223, _), (224, _), (225, _), (226, _), (227, _), (228, _), (229, _), (230, _), (231, _), (232, _), (233, _), (234, _), (235, _)]), n + 1, (by rw [HX.out]; rfl), by omega, hV.trans (gr_drewN _ _)⟩
    | true =>
      obtain ⟨E, hE⟩ : ∃ E, Ds[k].ns.contains own[n] = E := ⟨_, rfl⟩
      rw [hE] at HSN
      have HX : Hid (((own.take (n + 1)).all fun x => Ds[k].ns.contains x) = E) := Lib.hid (by rw [HSN.out]; rfl)
      clear HSN
      obtain ⟨gg, og, hAG, hgg, y0⟩ := (hG.below hV hB).cell hk
      obtain ⟨go, oo, hAO, hgo, z0⟩ := intCell (hO.below hV hBO) hlt
      have hR := (hG.below hV hB).each _ (List.getElem_mem hk)
      have HQ := fun (m : Nat) => bHas_any Ds[k].ns (some ⟨Ds[k].b, 0, none⟩) Ds[k].cap B own[n] (wr.drewN m) (hR.drewN m) (by omega) (show B ≤ wr.heap.size by omega)
      rw [hE] at HQ
      unfold rwV at y0
      generalize own[n] = x at *
      have hgw : gg < wr.heap.size := by omega
      have hgw2 : go < wr.heap.size := by omega
      subst hAG
      subst hAO
      clear hE
      go_wp2_with fail
      go_quiet ((go_at_call 18; exact Calls.quiet_of_same ((HQ _).mono fun e w' ⟨h1, h2⟩ => ⟨h1, h2.symm⟩)))
      go_wp2
      exact ⟨m - 1, by omega, (frA [(218, _), (219, _), (220, _), (221, _), (222, _), (223, _), (224, _), (225, _), (226, _), (227, _), (228, _), (229, _), (230, _), (231, _), (232, _), (233, _), (234, _), (235, _)]), n + 1, (by rw [HX.out]; rfl), by omega, hV.trans (gr_drewN _ _)⟩
  · obtain rfl : n = own.length := by omega
    rw [List.take_length, HEE.out]
    go_wp2
    exact H.out (frA [(27, _), (218, _), (219, _), (220, _), (221, _), (222, _), (223, _), (224, _), (225, _), (226, _), (227, _), (228, _), (229, _), (230, _), (231, _), (232, _), (233, _), (234, _), (235, _)]) wr hV

set_option maxRecDepth 100000 in
set_option maxHeartbeats 32000000 in
theorem topLoop6 (AG AO : Option Addr) (cG cO B BO : Nat) (Ds : List Rw) (own : List Int) {V wr0 : World} (hV : Gr V wr0) (hG : RwOk Ds AG B V) (hO : Row V BO 1 AO own.length (intsC own)) (hB : B ≤ V.heap.size) (hBO : BO ≤ V.heap.size) {k : Nat} (hk : k < Ds.length) (hkn : Ds.length ≤ 1000) (hon : own.length ≤ 1000) (hl : Ds[k].ns.length ≤ 1000) {t0 t1 t2 t3 t4 t5 t6 t7 t8 t9 t10 t11 t12 t13 t14 t15 t16 t17 t19 t20 t22 t23 t24 t28 t29 t30 t31 t32 t33 t34 t35 t36 t37 t38 t39 t40 t41 t42 t43 t44 t45 t46 t47 t48 t49 t50 t51 t52 t53 t54 t55 t56 t57 t58 t59 t60 t61 t62 t63 t64 t65 t66 t67 t68 t69 t70 t71 t72 t73 t74 t75 t76 t77 t78 t79 t80 t81 t82 t83 t84 t85 t86 t87 t88 t89 t90 t91 t92 t93 t94 t95 t96 t97 t98 t99 t100 t101 t102 t103 t104 t105 t106 t107 t108 t109 t110 t111 t112 t113 t114 t115 t116 t117 t118 t119 t120 t121 t122 t123 t124 t125 t126 t127 t128 t129 t130 t131 t132 t133 t134 t135 t136 t137 t138 t139 t140 t141 t142 t143 t144 t145 t146 t147 t148 t149 t150 t151 t152 t153 t154 t155 t156 t157 t158 t159 t160 t161 t162 t163 t164 t165 t166 t167 t168 t169 t170 t171 t172 t173 t174 t175 t176 t177 t178 t179 t180 t181 t182 t183 t184 t185 t186 t187 t188 t189 t190 t191 t192 t193 t194 t195 t196 t197 t198 t199 t200 t201 t202 t203 t204 t205 t206 t207 t208 t209 t210 t211 t212 t213 t214 t215 t216 t217 t218 t219 t220 t221 t222 t223 t224 t225 t226 t227 t228 t229 t230 t231 t232 t233 t234 t235 t236 t237 t238 t239 t240 t241 t242 t243 t244 t245 t246 t247 t248 t249 t250 t251 t252 t253 t254 t255 t256 t257 t258 t259 t260 t261 t262 t263 t264 : Value} {ds : List Deferred} (Q' : Exit → Act → World → Prop)
    (h : ∀ (y : Nat → Value) (w' : World), Gr V w' → Q' (.exit 12) ⟨#[t0, t1, t2, t3, t4, t5, t6, t7, t8, t9, t10, t11, t12, t13, t14, t15, t16, t17, .slice AG Ds.length cG, t19, t20, .slice AO own.length cO, t22, t23, t24, .int .i64 k, .bool (own.all fun x => Ds[k].ns.contains x), y 27, t28, t29, t30, t31, t32, t33, t34, t35, t36, t37, t38, t39, t40, t41, t42, t43, t44, t45, t46, t47, t48, t49, t50, t51, t52, t53, t54, t55, t56, t57, t58, t59, t60, t61, t62, t63, t64, t65, t66, t67, t68, t69, t70, t71, t72, t73, t74, t75, t76, t77, t78, t79, t80, t81, t82, t83, t84, t85, t86, t87, t88, t89, t90, t91, t92, t93, t94, t95, t96, t97, t98, t99, t100, t101, t102, t103, t104, t105, t106, t107, t108, t109, t110, t111, t112, t113, t114, t115, t116, t117, t118, t119, t120, t121, t122, t123, t124, t125, t126, t127, t128, t129, t130, t131, t132, t133, t134, t135, t136, t137, t138, t139, t140, t141, t142, t143, t144, t145, t146, t147, t148, t149, t150, t151, t152, t153, t154, t155, t156, t157, t158, t159, t160, t161, t162, t163, t164, t165, t166, t167, t168, t169, t170, t171, t172, t173, t174, t175, t176, t177, t178, t179, t180, t181, t182, t183, t184, t185, t186, t187, t188, t189, t190, t191, t192, t193, t194, t195, t196, t197, t198, t199, t200, t201, t202, t203, t204, t205, t206, t207, t208, t209, t210, t211, t212, t213, t214, t215, t216, t217, y 218, y 219, y 220, y 221, y 222, y 223, y 224, y 225, y 226, y 227, y 228, y 229, y 230, y 231, y 232, y 233, y 234, y 235, t236, t237, t238, t239, t240, t241, t242, t243, t244, t245, t246, t247, t248, t249, t250, t251, t252, t253, t254, t255, t256, t257, t258, t259, t260, t261, t262, t263, t264], ds⟩ w') :
    (Code.loop (bodyOf Tryz.f3 6)).wp Tryz.prog Q' ⟨#[t0, t1, t2, t3, t4, t5, t6, t7, t8, t9, t10, t11, t12, t13, t14, t15, t16, t17, .slice AG Ds.length cG, t19, t20, .slice AO own.length cO, t22, t23, t24, .int .i64 k, .bool true, .int .i64 0, t28, t29, t30, t31, t32, t33, t34, t35, t36, t37, t38, t39, t40, t41, t42, t43, t44, t45, t46, t47, t48, t49, t50, t51, t52, t53, t54, t55, t56, t57, t58, t59, t60, t61, t62, t63, t64, t65, t66, t67, t68, t69, t70, t71, t72, t73, t74, t75, t76, t77, t78, t79, t80, t81, t82, t83, t84, t85, t86, t87, t88, t89, t90, t91, t92, t93, t94, t95, t96, t97, t98, t99, t100, t101, t102, t103, t104, t105, t106, t107, t108, t109, t110, t111, t112, t113, t114, t115, t116, t117, t118, t119, t120, t121, t122, t123, t124, t125, t126, t127, t128, t129, t130, t131, t132, t133, t134, t135, t136, t137, t138, t139, t140, t141, t142, t143, t144, t145, t146, t147, t148, t149, t150, t151, t152, t153, t154, t155, t156, t157, t158, t159, t160, t161, t162, t163, t164, t165, t166, t167, t168, t169, t170, t171, t172, t173, t174, t175, t176, t177, t178, t179, t180, t181, t182, t183, t184, t185, t186, t187, t188, t189, t190, t191, t192, t193, t194, t195, t196, t197, t198, t199, t200, t201, t202, t203, t204, t205, t206, t207, t208, t209, t210, t211, t212, t213, t214, t215, t216, t217, t218, t219, t220, t221, t222, t223, t224, t225, t226, t227, t228, t229, t230, t231, t232, t233, t234, t235, t236, t237, t238, t239, t240, t241, t242, t243, t244, t245, t246, t247, t248, t249, t250, t251, t252, t253, t254, t255, t256, t257, t258, t259, t260, t261, t262, t263, t264], ds⟩ wr0 :=
  topLoop6Z (z := (frA [(0, t0), (1, t1), (2, t2), (3, t3), (4, t4), (5, t5), (6, t6), (7, t7), (8, t8), (9, t9), (10, t10), (11, t11), (12, t12), (13, t13), (14, t14), (15, t15), (16, t16), (17, t17), (19, t19), (20, t20), (22, t22), (23, t23), (24, t24), (28, t28), (29, t29), (30, t30), (31, t31), (32, t32), (33, t33), (34, t34), (35, t35), (36, t36), (37, t37), (38, t38), (39, t39), (40, t40), (41, t41), (42, t42), (43, t43), (44, t44), (45, t45), (46, t46), (47, t47), (48, t48), (49, t49), (50, t50), (51, t51), (52, t52), (53, t53), (54, t54), (55, t55), (56, t56), (57, t57), (58, t58), (59, t59), (60, t60), (61, t61), (62, t62), (63, t63), (64, t64), (65, t65), (66, t66), (67, t67), (68, t68), (69, t69), (70, t70), (71, t71), (72, t72), (73, t73), (74, t74), (75, t75), (76, t76), (77, t77), (78, t78), (79, t79), (80, t80), (81, t81), (82, t82), (83, t83), (84, t84), (85, t85), (86, t86), (87, t87), (88, t88), (89, t89), (90, t90), (91, t91), (92, t92), (93, t93), (94, t94), (95, t95), (96, t96), (97, t97), (98, t98), (99, t99), (100, t100), (101, t101), (102, t102), (103, t103), (104, t104), (105, t105), (106, t106), (107, t107), (108, t108), (109, t109), (110, t110), (111, t111), (112, t112), (113, t113), (114, t114), (115, t115), (116, t116), (117, t117), (118, t118), (119, t119), (120, t120), (121, t121), (122, t122), (123, t123), (124, t124), (125, t125), (126, t126), (127, t127), (128, t128), (129, t129), (130, t130), (131, t131), (132, t132), (133, t133), (134, t134), (135, t135), (136, t136), (137, t137), (138, t138), (139, t139), (140, t140), (141, t141), (142, t142), (143, t143), (144, t144), (145, t145), (146, t146), (147, t147), (148, t148), (149, t149), (150, t150), (151, t151), (152, t152), (153, t153), (154, t154), (155, t155), (156, t156), (157, t157), (158, t158), (159, t159), (160, t160), (161, t161), (162, t162), (163, t163), (164, t164), (165, t165), (166, t166), (167, t167), (168, t168), (169, t169), (170, t170), (171, t171), (172, t172), (173, t173), (174, t174), (175, t175), (176, t176), (177, t177), (178, t178), (179, t179), (180, t180), (181, t181), (182, t182), (183, t183), (184, t184), (185, t185), (186, t186), (187, t187), (188, t188), (189, t189), (190, t190), (191, t191), (192, t192), (193, t193), (194, t194), (195, t195), (196, t196), (197, t197), (198, t198), (199, t199), (200, t200), (201, t201), (202, t202), (203, t203), (204, t204), (205, t205), (206, t206), (207, t207), (208, t208), (209, t209), (210, t210), (211, t211), (212, t212), (213, t213), (214, t214), (215, t215), (216, t216), (217, t217), (218, t218), (219, t219), (220, t220), (221, t221), (222, t222), (223, t223), (224, t224), (225, t225), (226, t226), (227, t227), (228, t228), (229, t229), (230, t230), (231, t231), (232, t232), (233, t233), (234, t234), (235, t235), (236, t236), (237, t237), (238, t238), (239, t239), (240, t240), (241, t241), (242, t242), (243, t243), (244, t244), (245, t245), (246, t246), (247, t247), (248, t248), (249, t249), (250, t250), (251, t251), (252, t252), (253, t253), (254, t254), (255, t255), (256, t256), (257, t257), (258, t258), (259, t259), (260, t260), (261, t261), (262, t262), (263, t263), (264, t264)])) AG AO cG cO B BO Ds own hV hG hO hB hBO hk hkn hon hl Q' h

set_option maxRecDepth 100000 in
set_option maxHeartbeats 32000000 in
theorem topLoop5Z (AG AO : Option Addr) (cG cO B BO : Nat) (Ds : List Rw) (own : List Int) {V wr0 : World} (hV : Gr V wr0) (hG : RwOk Ds AG B V) (hO : Row V BO 1 AO own.length (intsC own)) (hB : B ≤ V.heap.size) (hBO : BO ≤ V.heap.size) (hkn : Ds.length ≤ 1000) (hon : own.length ≤ 1000) (HL : Hid (∀ q ∈ Ds, q.ns.length ≤ 1000)) {z : Nat → Value} {ds : List Deferred} (Q' : Exit → Act → World → Prop)
    (h : ∀ (y : Nat → Value) (w' : World), Gr V w' → Q' (.exit 10) ⟨#[z 0, z 1, z 2, z 3, z 4, z 5, z 6, z 7, z 8, z 9, z 10, z 11, z 12, z 13, z 14, z 15, z 16, z 17, .slice AG Ds.length cG, z 19, z 20, .slice AO own.length cO, z 22, z 23, .bool (Ds.any fun q => own.all fun x => q.ns.contains x), y 25, y 26, y 27, z 28, z 29, z 30, z 31, z 32, z 33, z 34, z 35, z 36, z 37, z 38, z 39, z 40, z 41, z 42, z 43, z 44, z 45, z 46, z 47, z 48, z 49, z 50, z 51, z 52, z 53, z 54, z 55, z 56, z 57, z 58, z 59, z 60, z 61, z 62, z 63, z 64, z 65, z 66, z 67, z 68, z 69, z 70, z 71, z 72, z 73, z 74, z 75, z 76, z 77, z 78, z 79, z 80, z 81, z 82, z 83, z 84, z 85, z 86, z 87, z 88, z 89, z 90, z 91, z 92, z 93, z 94, z 95, z 96, z 97, z 98, z 99, z 100, z 101, z 102, z 103, z 104, z 105, z 106, z 107, z 108, z 109, z 110, z 111, z 112, z 113, z 114, z 115, z 116, z 117, z 118, z 119, z 120, z 121, z 122, z 123, z 124, z 125, z 126, z 127, z 128, z 129, z 130, z 131, z 132, z 133, z 134, z 135, z 136, z 137, z 138, z 139, z 140, z 141, z 142, z 143, z 144, z 145, z 146, z 147, z 148, z 149, z 150, z 151, z 152, z 153, z 154, z 155, z 156, z 157, z 158, z 159, z 160, z 161, z 162, z 163, z 164, z 165, z 166, z 167, z 168, z 169, z 170, z 171, z 172, z 173, z 174, z 175, z 176, z 177, z 178, z 179, z 180, z 181, z 182, z 183, z 184, z 185, z 186, z 187, z 188, z 189, z 190, z 191, z 192, z 193, z 194, z 195, z 196, z 197, z 198, z 199, z 200, z 201, z 202, z 203, z 204, z 205, z 206, z 207, z 208, z 209, z 210, z 211, y 212, y 213, y 214, y 215, y 216, y 217, y 218, y 219, y 220, y 221, y 222, y 223, y 224, y 225, y 226, y 227, y 228, y 229, y 230, y 231, y 232, y 233, y 234, y 235, y 236, y 237, y 238, y 239, z 240, z 241, z 242, z 243, z 244, z 245, z 246, z 247, z 248, z 249, z 250, z 251, z 252, z 253, z 254, z 255, z 256, z 257, z 258, z 259, z 260, z 261, z 262, z 263, z 264], ds⟩ w') :
    (Code.loop (bodyOf Tryz.f3 5)).wp Tryz.prog Q' ⟨#[z 0, z 1, z 2, z 3, z 4, z 5, z 6, z 7, z 8, z 9, z 10, z 11, z 12, z 13, z 14, z 15, z 16, z 17, .slice AG Ds.length cG, z 19, z 20, .slice AO own.length cO, z 22, z 23, .bool false, .int .i64 0, z 26, z 27, z 28, z 29, z 30, z 31, z 32, z 33, z 34, z 35, z 36, z 37, z 38, z 39, z 40, z 41, z 42, z 43, z 44, z 45, z 46, z 47, z 48, z 49, z 50, z 51, z 52, z 53, z 54, z 55, z 56, z 57, z 58, z 59, z 60, z 61, z 62, z 63, z 64, z 65, z 66, z 67, z 68, z 69, z 70, z 71, z 72, z 73, z 74, z 75, z 76, z 77, z 78, z 79, z 80, z 81, z 82, z 83, z 84, z 85, z 86, z 87, z 88, z 89, z 90, z 91, z 92, z 93, z 94, z 95, z 96, z 97, z 98, z 99, z 100, z 101, z 102, z 103, z 104, z 105, z 106, z 107, z 108, z 109, z 110, z 111, z 112, z 113, z 114, z 115, z 116, z 117, z 118, z 119, z 120, z 121, z 122, z 123, z 124, z 125, z 126, z 127, z 128, z 129, z 130, z 131, z 132, z 133, z 134, z 135, z 136, z 137, z 138, z 139, z 140, z 141, z 142, z 143, z 144, z 145, z 146, z 147, z 148, z 149, z 150, z 151, z 152, z 153, z 154, z 155, z 156, z 157, z 158, z 159, z 160, z 161, z 162, z 163, z 164, z 165, z 166, z 167, z 168, z 169, z 170, z 171, z 172, z 173, z 174, z 175, z 176, z 177, z 178, z 179, z 180, z 181, z 182, z 183, z 184, z 185, z 186, z 187, z 188, z 189, z 190, z 191, z 192, z 193, z 194, z 195, z 196, z 197, z 198, z 199, z 200, z 201, z 202, z 203, z 204, z 205, z 206, z 207, z 208, z 209, z 210, z 211, z 212, z 213, z 214, z 215, z 216, z 217, z 218, z 219, z 220, z 221, z 222, z 223, z 224, z 225, z 226, z 227, z 228, z 229, z 230, z 231, z 232, z 233, z 234, z 235, z 236, z 237, z 238, z 239, z 240, z 241, z 242, z 243, z 244, z 245, z 246, z 247, z 248, z 249, z 250, z 251, z 252, z 253, z 254, z 255, z 256, z 257, z 258, z 259, z 260, z 261, z 262, z 263, z 264], ds⟩ wr0 := by
  have H := Lib.hid h; clear h
  obtain ⟨EE, hEE⟩ : ∃ E, (Ds.any fun q => own.all fun x => q.ns.contains x) = E := ⟨_, rfl⟩
  rw [hEE] at H
  have HEE := Lib.hid hEE
  clear hEE
  refine wp_loop_ghost (fun m a' wr => ∃ (y : Nat → Value) (k : Nat), a' = ⟨#[z 0, z 1, z 2, z 3, z 4, z 5, z 6, z 7, z 8, z 9, z 10, z 11, z 12, z 13, z 14, z 15, z 16, z 17, .slice AG Ds.length cG, z 19, z 20, .slice AO own.length cO, z 22, z 23, .bool ((Ds.take k).any fun q => own.all fun x => q.ns.contains x), .int .i64 (k : Int), y 26, y 27, z 28, z 29, z 30, z 31, z 32, z 33, z 34, z 35, z 36, z 37, z 38, z 39, z 40, z 41, z 42, z 43, z 44, z 45, z 46, z 47, z 48, z 49, z 50, z 51, z 52, z 53, z 54, z 55, z 56, z 57, z 58, z 59, z 60, z 61, z 62, z 63, z 64, z 65, z 66, z 67, z 68, z 69, z 70, z 71, z 72, z 73, z 74, z 75, z 76, z 77, z 78, z 79, z 80, z 81, z 82, z 83, z 84, z 85, z 86, z 87, z 88, z 89, z 90, z 91, z 92, z 93, z 94, z 95, z 96, z 97, z 98, z 99, z 100, z 101, z 102, z 103, z 104, z 105, z 106, z 107, z 108, z 109, z 110, z 111, z 112, z 113, z 114, z 115, z 116, z 117, z 118, z 119, z 120, z 121, z 122, z 123, z 124, z 125, z 126, z 127, z 128, z 129, z 130, z 131, z 132, z 133, z 134, z 135, z 136, z 137, z 138, z 139, z 140, z 141, z 142, z 143, z 144, z 145, z 146, z 147, z 148, z 149, z 150, z 151, z 152, z 153, z 154, z 155, z 156, z 157, z 158, z 159, z 160, z 161, z 162, z 163, z 164, z 165, z 166, z 167, z 168, z 169, z 170, z 171, z 172, z 173, z 174, z 175, z 176, z 177, z 178, z 179, z 180, z 181, z 182, z 183, z 184, z 185, z 186, z 187, z 188, z 189, z 190, z 191, z 192, z 193, z 194, z 195, z 196, z 197, z 198, z 199, z 200, z 201, z 202, z 203, z 204, z 205, z 206, z 207, z 208, z 209, z 210, z 211, y 212, y 213, y 214, y 215, y 216, y 217, y 218, y 219, y 220, y 221, y 222, y 223, y 224, y 225, y 226, y 227, y 228, y 229, y 230, y 231, y 232, y 233, y 234, y 235, y 236, y 237, y 238, y 239, z 240, z 241, z 242, z 243, z 244, z 245, z 246, z 247, z 248, z 249, z 250, z 251, z 252, z 253, z 254, z 255, z 256, z 257, z 258, z 259, z 260, z 261, z 262, z 263, z 264], ds⟩ ∧ m + k = Ds.length ∧ Gr V wr) Ds.length ⟨z, 0, rfl, by omega, hV⟩ ?_
  clear hV
  rintro m a' wr ⟨y, k, rfl, hm, hV⟩
  conv in (bodyOf _ _) => whnf
  dsimp only
  by_cases hlt : k < Ds.length
  · have j2 : ((k : Int) < (Ds.length : Int)) := by omega
    have HSN := Lib.hid (any_snoc hlt (fun q => own.all fun x => q.ns.contains x))
    obtain ⟨b, hb⟩ : ∃ b, ((Ds.take k).any fun q => own.all fun x => q.ns.contains x) = b := ⟨_, rfl⟩
    rw [hb] at HSN ⊢
    clear hb
    go_wp2_with fail
    have hl := topLoop6 AG AO cG cO B BO Ds own hV hG hO hB hBO hlt hkn hon
    unfold bodyOf at hl
    conv at hl in (Option.getD _ Code.skip) => whnf
    refine hl (HL.out _ (List.getElem_mem hlt)) _ ?_
    clear hl
    intro y' w5 hV5
    obtain ⟨E, hE⟩ : ∃ E, (own.all fun x => Ds[k].ns.contains x) = E := ⟨_, rfl⟩
    rw [hE] at HSN ⊢
    clear hE
    cases b
    · go_wp2
      exact ⟨m - 1, by omega, (frA [(26, _), (27, _), (212, _), (213, _), (214, _), (215, _), (216, _), (217, _), (218, _), (219, _), (220, _), (221, _), (222, _), (223, _), (224, _), (225, _), (226, _), (227, _), (228, _), (229, _), (230, _), (231, _), (232, _), (233, _), (234, _), (235, _), (236, _), (237, _), (238, _), (239, _)]), k + 1, (by rw [HSN.out]; rfl), by omega, hV5⟩
    · go_wp2
      exact ⟨m - 1, by omega, (frA [(26, _), (27, _), (212, _), (213, _), (214, _), (215, _), (216, _), (217, _), (218, _), (219, _), (220, _), (221, _), (222, _), (223, _), (224, _), (225, _), (226, _), (227, _), (228, _), (229, _), (230, _), (231, _), (232, _), (233, _), (234, _), (235, _), (236, _), (237, _), (238, _), (239, _)]), k + 1, (by rw [HSN.out]; rfl), by omega, hV5⟩
  · obtain rfl : k = Ds.length := by omega
    rw [List.take_length, HEE.out]
    go_wp2
    exact H.out (frA [(25, _), (26, _), (27, _), (212, _), (213, _), (214, _), (215, _), (216, _), (217, _), (218, _), (219, _), (220, _), (221, _), (222, _), (223, _), (224, _), (225, _), (226, _), (227, _), (228, _), (229, _), (230, _), (231, _), (232, _), (233, _), (234, _), (235, _), (236, _), (237, _), (238, _), (239, _)]) wr hV

set_option maxRecDepth 100000 in
set_option maxHeartbeats 32000000 in
theorem topLoop5 (AG AO : Option Addr) (cG cO B BO : Nat) (Ds : List Rw) (own : List Int) {V wr0 : World} (hV : Gr V wr0) (hG : RwOk Ds AG B V) (hO : Row V BO 1 AO own.length (intsC own)) (hB : B ≤ V.heap.size) (hBO : BO ≤ V.heap.size) (hkn : Ds.length ≤ 1000) (hon : own.length ≤ 1000) (HL : Hid (∀ q ∈ Ds, q.ns.length ≤ 1000)) {t0 t1 t2 t3 t4 t5 t6 t7 t8 t9 t10 t11 t12 t13 t14 t15 t16 t17 t19 t20 t22 t23 t26 t27 t28 t29 t30 t31 t32 t33 t34 t35 t36 t37 t38 t39 t40 t41 t42 t43 t44 t45 t46 t47 t48 t49 t50 t51 t52 t53 t54 t55 t56 t57 t58 t59 t60 t61 t62 t63 t64 t65 t66 t67 t68 t69 t70 t71 t72 t73 t74 t75 t76 t77 t78 t79 t80 t81 t82 t83 t84 t85 t86 t87 t88 t89 t90 t91 t92 t93 t94 t95 t96 t97 t98 t99 t100 t101 t102 t103 t104 t105 t106 t107 t108 t109 t110 t111 t112 t113 t114 t115 t116 t117 t118 t119 t120 t121 t122 t123 t124 t125 t126 t127 t128 t129 t130 t131 t132 t133 t134 t135 t136 t137 t138 t139 t140 t141 t142 t143 t144 t145 t146 t147 t148 t149 t150 t151 t152 t153 t154 t155 t156 t157 t158 t159 t160 t161 t162 t163 t164 t165 t166 t167 t168 t169 t170 t171 t172 t173 t174 t175 t176 t177 t178 t179 t180 t181 t182 t183 t184 t185 t186 t187 t188 t189 t190 t191 t192 t193 t194 t195 t196 t197 t198 t199 t200 t201 t202 t203 t204 t205 t206 t207 t208 t209 t210 t211 t212 t213 t214 t215 t216 t217 t218 t219 t220 t221 t222 t223 t224 t225 t226 t227 t228 t229 t230 t231 t232 t233 t234 t235 t236 t237 t238 t239 t240 t241 t242 t243 t244 t245 t246 t247 t248 t249 t250 t251 t252 t253 t254 t255 t256 t257 t258 t259 t260 t261 t262 t263 t264 : Value} {ds : List Deferred} (Q' : Exit → Act → World → Prop)
    (h : ∀ (y : Nat → Value) (w' : World), Gr V w' → Q' (.exit 10) ⟨#[t0, t1, t2, t3, t4, t5, t6, t7, t8, t9, t10, t11, t12, t13, t14, t15, t16, t17, .slice AG Ds.length cG, t19, t20, .slice AO own.length cO, t22, t23, .bool (Ds.any fun q => own.all fun x => q.ns.contains x), y 25, y 26, y 27, t28, t29, t30, t31, t32, t33, t34, t35, t36, t37, t38, t39, t40, t41, t42, t43, t44, t45, t46, t47, t48, t49, t50, t51, t52, t53, t54, t55, t56, t57, t58, t59, t60, t61, t62, t63, t64, t65, t66, t67, t68, t69, t70, t71, t72, t73, t74, t75, t76, t77, t78, t79, t80, t81, t82, t83, t84, t85, t86, t87, t88, t89, t90, t91, t92, t93, t94, t95, t96, t97, t98, t99, t100, t101, t102, t103, t104, t105, t106, t107, t108, t109, t110, t111, t112, t113, t114, t115, t116, t117, t118, t119, t120, t121, t122, t123, t124, t125, t126, t127, t128, t129, t130, t131, t132, t133, t134, t135, t136, t137, t138, t139, t140, t141, t142, t143, t144, t145, t146, t147, t148, t149, t150, t151, t152, t153, t154, t155, t156, t157, t158, t159, t160, t161, t162, t163, t164, t165, t166, t167, t168, t169, t170, t171, t172, t173, t174, t175, t176, t177, t178, t179, t180, t181, t182, t183, t184, t185, t186, t187, t188, t189, t190, t191, t192, t193, t194, t195, t196, t197, t198, t199, t200, t201, t202, t203, t204, t205, t206, t207, t208, t209, t210, t211, y 212, y 213, y 214, y 215, y 216, y 217, y 218, y 219, y 220, y 221, y 222, y 223, y 224, y 225, y 226, y 227, y 228, y 229, y 230, y 231, y 232, y 233, y 234, y 235, y 236, y 237, y 238, y 239, t240, t241, t242, t243, t244, t245, t246, t247, t248, t249, t250, t251, t252, t253, t254, t255, t256, t257, t258, t259, t260, t261, t262, t263, t264], ds⟩ w') :
    (Code.loop (bodyOf Tryz.f3 5)).wp Tryz.prog Q' ⟨#[t0, t1, t2, t3, t4, t5, t6, t7, t8, t9, t10, t11, t12, t13, t14, t15, t16, t17, .slice AG Ds.length cG, t19, t20, .slice AO own.length cO, t22, t23, .bool false, .int .i64 0, t26, t27, t28, t29, t30, t31, t32, t33, t34, t35, t36, t37, t38, t39, t40, t41, t42, t43, t44, t45, t46, t47, t48, t49, t50, t51, t52, t53, t54, t55, t56, t57, t58, t59, t60, t61, t62, t63, t64, t65, t66, t67, t68, t69, t70, t71, t72, t73, t74, t75, t76, t77, t78, t79, t80, t81, t82, t83, t84, t85, t86, t87, t88, t89, t90, t91, t92, t93, t94, t95, t96, t97, t98, t99, t100, t101, t102, t103, t104, t105, t106, t107, t108, t109, t110, t111, t112, t113, t114, t115, t116, t117, t118, t119, t120, t121, t122, t123, t124, t125, t126, t127, t128, t129, t130, t131, t132, t133, t134, t135, t136, t137, t138, t139, t140, t141, t142, t143, t144, t145, t146, t147, t148, t149, t150, t151, t152, t153, t154, t155, t156, t157, t158, t159, t160, t161, t162, t163, t164, t165, t166, t167, t168, t169, t170, t171, t172, t173, t174, t175, t176, t177, t178, t179, t180, t181, t182, t183, t184, t185, t186, t187, t188, t189, t190, t191, t192, t193, t194, t195, t196, t197, t198, t199, t200, t201, t202, t203, t204, t205, t206, t207, t208, t209, t210, t211, t212, t213, t214, t215, t216, t217, t218, t219, t220, t221, t222, t223, t224, t225, t226, t227, t228, t229, t230, t231, t232, t233, t234, t235, t236, t237, t238, t239, t240, t241, t242, t243, t244, t245, t246, t247, t248, t249, t250, t251, t252, t253, t254, t255, t256, t257, t258, t259, t260, t261, t262, t263, t264], ds⟩ wr0 :=
  topLoop5Z (z := (frA [(0, t0), (1, t1), (2, t2), (3, t3), (4, t4), (5, t5), (6, t6), (7, t7), (8, t8), (9, t9), (10, t10), (11, t11), (12, t12), (13, t13), (14, t14), (15, t15), (16, t16), (17, t17), (19, t19), (20, t20), (22, t22), (23, t23), (26, t26), (27, t27), (28, t28), (29, t29), (30, t30), (31, t31), (32, t32), (33, t33), (34, t34), (35, t35), (36, t36), (37, t37), (38, t38), (39, t39), (40, t40), (41, t41), (42, t42), (43, t43), (44, t44), (45, t45), (46, t46), (47, t47), (48, t48), (49, t49), (50, t50), (51, t51), (52, t52), (53, t53), (54, t54), (55, t55), (56, t56), (57, t57), (58, t58), (59, t59), (60, t60), (61, t61), (62, t62), (63, t63), (64, t64), (65, t65), (66, t66), (67, t67), (68, t68), (69, t69), (70, t70), (71, t71), (72, t72), (73, t73), (74, t74), (75, t75), (76, t76), (77, t77), (78, t78), (79, t79), (80, t80), (81, t81), (82, t82), (83, t83), (84, t84), (85, t85), (86, t86), (87, t87), (88, t88), (89, t89), (90, t90), (91, t91), (92, t92), (93, t93), (94, t94), (95, t95), (96, t96), (97, t97), (98, t98), (99, t99), (100, t100), (101, t101), (102, t102), (103, t103), (104, t104), (105, t105), (106, t106), (107, t107), (108, t108), (109, t109), (110, t110), (111, t111), (112, t112), (113, t113), (114, t114), (115, t115), (116, t116), (117, t117), (118, t118), (119, t119), (120, t120), (121, t121), (122, t122), (123, t123), (124, t124), (125, t125), (126, t126), (127, t127), (128, t128), (129, t129), (130, t130), (131, t131), (132, t132), (133, t133), (134, t134), (135, t135), (136, t136), (137, t137), (138, t138), (139, t139), (140, t140), (141, t141), (142, t142), (143, t143), (144, t144), (145, t145), (146, t146), (147, t147), (148, t148), (149, t149), (150, t150), (151, t151), (152, t152), (153, t153), (154, t154), (155, t155), (156, t156), (157, t157), (158, t158), (159, t159), (160, t160), (161, t161), (162, t162), (163, t163), (164, t164), (165, t165), (166, t166), (167, t167), (168, t168), (169, t169), (170, t170), (171, t171), (172, t172), (173, t173), (174, t174), (175, t175), (176, t176), (177, t177), (178, t178), (179, t179), (180, t180), (181, t181), (182, t182), (183, t183), (184, t184), (185, t185), (186, t186), (187, t187), (188, t188), (189, t189), (190, t190), (191, t191), (192, t192), (193, t193), (194, t194), (195, t195), (196, t196), (197, t197), (198, t198), (199, t199), (200, t200), (201, t201), (202, t202), (203, t203), (204, t204), (205, t205), (206, t206), (207, t207), (208, t208), (209, t209), (210, t210), (211, t211), (212, t212), (213, t213), (214, t214), (215, t215), (216, t216), (217, t217), (218, t218), (219, t219), (220, t220), (221, t221), (222, t222), (223, t223), (224, t224), (225, t225), (226, t226), (227, t227), (228, t228), (229, t229), (230, t230), (231, t231), (232, t232), (233, t233), (234, t234), (235, t235), (236, t236), (237, t237), (238, t238), (239, t239), (240, t240), (241, t241), (242, t242), (243, t243), (244, t244), (245, t245), (246, t246), (247, t247), (248, t248), (249, t249), (250, t250), (251, t251), (252, t252), (253, t253), (254, t254), (255, t255), (256, t256), (257, t257), (258, t258), (259, t259), (260, t260), (261, t261), (262, t262), (263, t263), (264, t264)])) AG AO cG cO B BO Ds own hV hG hO hB hBO hkn hon HL Q' h

end Go.Proofs.YtclpljbllnhhbaaGreat

namespace Go.Proofs.YtclpljbllnhhbaaGreat
open Go.RowKit

theorem own_sliceT {W : World} {B e size n : Nat} {v : Value} {xs : List Value} (h : W.ownsRow B e size v n xs) : ∃ A c, v = .slice A n c := by
  obtain ⟨A, c, e, _⟩ := own_row2 h
  exact ⟨A, c, e⟩
/-- What holds of the areas, the marks and the groups. -/
structure TopP (g : Int → Int → Int) (C : List (Int × Int)) (d0 d1 : Int) (L : List Mk) (Ds : List Rw) (As : List ArA) : Prop where
  pos : ∀ a ∈ As, 0 < a.2.length ∧ a.2.length ≤ 1000
  own : ∀ a ∈ As, (ownV C a.2).length = a.2.length
  part : ∀ a ∈ As, ∀ k, k ≤ a.2.length → (ownV C (a.2.take k)).length ≤ 1000
  bd : ∀ a ∈ As, ∀ i ∈ ownV C a.2, 0 ≤ i ∧ i < (L.length : Int)
  whole : ∀ a ∈ As, (Ds.any fun q => (ownV C a.2).all fun x => q.ns.contains x) = true
  mark : ∀ a ∈ As, markOfV a.2 d0 d1 arN (g (peakV g a.2).1 (peakV g a.2).2) = (⟨arN, (hullR L (ownV C a.2)).al, (hullR L (ownV C a.2)).ah, (hullR L (ownV C a.2)).dl, (hullR L (ownV C a.2)).dh, (hullR L (ownV C a.2)).lv⟩, 0)
  cap : ∀ a ∈ As, ∀ A c, a.1 = .slice A a.2.length c → a.2.length ≤ c ∧ (A = none → c = 0)

set_option maxRecDepth 100000 in
set_option maxHeartbeats 32000000 in
theorem topLoop2Z (g : Int → Int → Int) (AC AM AA AG : Option Addr) (cC cM cA cG B z5 : Nat) (C : List (Int × Int)) (d0 d1 : Int) (L : List Mk) (Ds : List Rw) (As : List ArA) {V : World} (hC : Row V B 2 AC C.length (cellsC C)) (hA : ArsOk g As AA B V) (hG : RwOk Ds AG B V) (hM : MkOk L AM B V) (b5 : Blk V z5 26 #[.int .i64 d0, .int .i64 d1]) (hB : B ≤ V.heap.size) (hn : C.length ≤ 20) (hin : As.length ≤ 1000000) (hkn : Ds.length ≤ 1000) (HDS : Hid (∀ q ∈ Ds, q.ns.length ≤ 1000)) (HP : Hid (TopP g C d0 d1 L Ds As)) {z : Nat → Value} {ds : List Deferred} (Q' : Exit → Act → World → Prop)
    (h : ∀ (y : Nat → Value) (w' : World), Gr V w' → Q' (.exit 4) ⟨#[z 0, z 1, z 2, z 3, z 4, .pointer (some ⟨z5, 0, none⟩), y 6, z 7, z 8, z 9, .slice AC C.length cC, .slice AM L.length cM, z 12, z 13, z 14, z 15, .slice AA As.length cA, z 17, .slice AG Ds.length cG, z 19, y 20, y 21, y 22, y 23, y 24, y 25, y 26, y 27, y 28, y 29, y 30, z 31, z 32, z 33, z 34, z 35, z 36, z 37, z 38, z 39, z 40, z 41, z 42, z 43, z 44, z 45, z 46, z 47, z 48, z 49, z 50, z 51, z 52, z 53, z 54, z 55, z 56, z 57, z 58, z 59, z 60, z 61, z 62, z 63, z 64, z 65, z 66, z 67, z 68, z 69, z 70, z 71, z 72, z 73, z 74, z 75, z 76, z 77, z 78, z 79, z 80, z 81, z 82, z 83, z 84, z 85, z 86, z 87, z 88, z 89, z 90, z 91, z 92, z 93, z 94, z 95, z 96, z 97, z 98, z 99, z 100, z 101, z 102, z 103, z 104, z 105, z 106, z 107, z 108, z 109, z 110, z 111, z 112, z 113, z 114, z 115, z 116, z 117, z 118, z 119, z 120, z 121, z 122, z 123, z 124, z 125, z 126, z 127, z 128, z 129, z 130, z 131, z 132, z 133, z 134, z 135, z 136, z 137, z 138, z 139, z 140, z 141, z 142, z 143, z 144, z 145, z 146, z 147, z 148, z 149, z 150, z 151, z 152, z 153, z 154, z 155, z 156, z 157, z 158, y 159, y 160, y 161, y 162, y 163, y 164, y 165, y 166, y 167, y 168, y 169, y 170, y 171, y 172, y 173, y 174, y 175, y 176, y 177, y 178, y 179, y 180, y 181, y 182, y 183, y 184, y 185, y 186, y 187, y 188, y 189, y 190, y 191, y 192, y 193, y 194, y 195, y 196, y 197, y 198, y 199, y 200, y 201, y 202, y 203, y 204, y 205, y 206, y 207, y 208, y 209, y 210, y 211, y 212, y 213, y 214, y 215, y 216, y 217, y 218, y 219, y 220, y 221, y 222, y 223, y 224, y 225, y 226, y 227, y 228, y 229, y 230, y 231, y 232, y 233, y 234, y 235, y 236, y 237, y 238, y 239, y 240, y 241, y 242, y 243, y 244, y 245, y 246, y 247, y 248, y 249, y 250, y 251, y 252, y 253, y 254, y 255, y 256, y 257, y 258, y 259, y 260, y 261, y 262, y 263, y 264], ds⟩ w') :
    (Code.loop (bodyOf Tryz.f3 2)).wp Tryz.prog Q' ⟨#[z 0, z 1, z 2, z 3, z 4, .pointer (some ⟨z5, 0, none⟩), z 6, z 7, z 8, z 9, .slice AC C.length cC, .slice AM L.length cM, z 12, z 13, z 14, z 15, .slice AA As.length cA, z 17, .slice AG Ds.length cG, z 19, .int .i64 0, z 21, z 22, z 23, z 24, z 25, z 26, z 27, z 28, z 29, z 30, z 31, z 32, z 33, z 34, z 35, z 36, z 37, z 38, z 39, z 40, z 41, z 42, z 43, z 44, z 45, z 46, z 47, z 48, z 49, z 50, z 51, z 52, z 53, z 54, z 55, z 56, z 57, z 58, z 59, z 60, z 61, z 62, z 63, z 64, z 65, z 66, z 67, z 68, z 69, z 70, z 71, z 72, z 73, z 74, z 75, z 76, z 77, z 78, z 79, z 80, z 81, z 82, z 83, z 84, z 85, z 86, z 87, z 88, z 89, z 90, z 91, z 92, z 93, z 94, z 95, z 96, z 97, z 98, z 99, z 100, z 101, z 102, z 103, z 104, z 105, z 106, z 107, z 108, z 109, z 110, z 111, z 112, z 113, z 114, z 115, z 116, z 117, z 118, z 119, z 120, z 121, z 122, z 123, z 124, z 125, z 126, z 127, z 128, z 129, z 130, z 131, z 132, z 133, z 134, z 135, z 136, z 137, z 138, z 139, z 140, z 141, z 142, z 143, z 144, z 145, z 146, z 147, z 148, z 149, z 150, z 151, z 152, z 153, z 154, z 155, z 156, z 157, z 158, z 159, z 160, z 161, z 162, z 163, z 164, z 165, z 166, z 167, z 168, z 169, z 170, z 171, z 172, z 173, z 174, z 175, z 176, z 177, z 178, z 179, z 180, z 181, z 182, z 183, z 184, z 185, z 186, z 187, z 188, z 189, z 190, z 191, z 192, z 193, z 194, z 195, z 196, z 197, z 198, z 199, z 200, z 201, z 202, z 203, z 204, z 205, z 206, z 207, z 208, z 209, z 210, z 211, z 212, z 213, z 214, z 215, z 216, z 217, z 218, z 219, z 220, z 221, z 222, z 223, z 224, z 225, z 226, z 227, z 228, z 229, z 230, z 231, z 232, z 233, z 234, z 235, z 236, z 237, z 238, z 239, z 240, z 241, z 242, z 243, z 244, z 245, z 246, z 247, z 248, z 249, z 250, z 251, z 252, z 253, z 254, z 255, z 256, z 257, z 258, z 259, z 260, z 261, z 262, z 263, z 264], ds⟩ V := by
  have H := Lib.hid h; clear h
  refine wp_loop_ghost (fun m a' wr => ∃ (y : Nat → Value) (i : Nat), a' = ⟨#[z 0, z 1, z 2, z 3, z 4, .pointer (some ⟨z5, 0, none⟩), y 6, z 7, z 8, z 9, .slice AC C.length cC, .slice AM L.length cM, z 12, z 13, z 14, z 15, .slice AA As.length cA, z 17, .slice AG Ds.length cG, z 19, .int .i64 (i : Int), y 21, y 22, y 23, y 24, y 25, y 26, y 27, y 28, y 29, y 30, z 31, z 32, z 33, z 34, z 35, z 36, z 37, z 38, z 39, z 40, z 41, z 42, z 43, z 44, z 45, z 46, z 47, z 48, z 49, z 50, z 51, z 52, z 53, z 54, z 55, z 56, z 57, z 58, z 59, z 60, z 61, z 62, z 63, z 64, z 65, z 66, z 67, z 68, z 69, z 70, z 71, z 72, z 73, z 74, z 75, z 76, z 77, z 78, z 79, z 80, z 81, z 82, z 83, z 84, z 85, z 86, z 87, z 88, z 89, z 90, z 91, z 92, z 93, z 94, z 95, z 96, z 97, z 98, z 99, z 100, z 101, z 102, z 103, z 104, z 105, z 106, z 107, z 108, z 109, z 110, z 111, z 112, z 113, z 114, z 115, z 116, z 117, z 118, z 119, z 120, z 121, z 122, z 123, z 124, z 125, z 126, z 127, z 128, z 129, z 130, z 131, z 132, z 133, z 134, z 135, z 136, z 137, z 138, z 139, z 140, z 141, z 142, z 143, z 144, z 145, z 146, z 147, z 148, z 149, z 150, z 151, z 152, z 153, z 154, z 155, z 156, z 157, z 158, y 159, y 160, y 161, y 162, y 163, y 164, y 165, y 166, y 167, y 168, y 169, y 170, y 171, y 172, y 173, y 174, y 175, y 176, y 177, y 178, y 179, y 180, y 181, y 182, y 183, y 184, y 185, y 186, y 187, y 188, y 189, y 190, y 191, y 192, y 193, y 194, y 195, y 196, y 197, y 198, y 199, y 200, y 201, y 202, y 203, y 204, y 205, y 206, y 207, y 208, y 209, y 210, y 211, y 212, y 213, y 214, y 215, y 216, y 217, y 218, y 219, y 220, y 221, y 222, y 223, y 224, y 225, y 226, y 227, y 228, y 229, y 230, y 231, y 232, y 233, y 234, y 235, y 236, y 237, y 238, y 239, y 240, y 241, y 242, y 243, y 244, y 245, y 246, y 247, y 248, y 249, y 250, y 251, y 252, y 253, y 254, y 255, y 256, y 257, y 258, y 259, y 260, y 261, y 262, y 263, y 264], ds⟩ ∧ m + i = As.length ∧ Gr V wr) As.length ⟨z, 0, rfl, by omega, Gr.refl _⟩ ?_
  rintro m a' wr ⟨y, i, rfl, hm, hV⟩
  have hzV := Below.size hV
  conv in (bodyOf _ _) => whnf
  dsimp only
  by_cases hlt : i < As.length
  · have j2 : ((i : Int) < (As.length : Int)) := by omega
    have hmem := List.getElem_mem hlt
    have hps := HP.out.pos _ hmem
    have howl := HP.out.own _ hmem
    have HBD : Hid (∀ x ∈ ownV C As[i].2, 0 ≤ x ∧ x < (L.length : Int)) := Lib.hid (HP.out.bd _ hmem)
    have HWH := Lib.hid (HP.out.whole _ hmem)
    have HMO := Lib.hid (HP.out.mark _ hmem)
    have HCAP : Hid (∀ A c, As[i].1 = .slice A As[i].2.length c → As[i].2.length ≤ c ∧ (A = none → c = 0)) := Lib.hid (HP.out.cap _ hmem)
    have HPT : Hid (∀ k, k ≤ As[i].2.length → (ownV C (As[i].2.take k)).length ≤ 1000) := Lib.hid (HP.out.part _ hmem)
    clear hmem
    go_wp2_with fail
    have hl := topLoop3 (wr0 := wr) g AC AA cC cA B C As hV hC hA hB hn hlt hin hps.2
    unfold bodyOf at hl
    conv at hl in (Option.getD _ Code.skip) => whnf
    refine hl HPT _ ?_
    clear hl HPT
    intro y1 v w5 hV5 ho
    have hz5 := Below.size hV5
    obtain ⟨AO, cO, rfl⟩ := own_sliceT ho
    obtain ⟨AO', cO', hvo, hRO, _, _⟩ := own_row2 ho
    have hvi := Value.slice.inj hvo
    obtain ⟨rfl, _, rfl⟩ := hvi
    clear hvo ho
    obtain ⟨ga, oa, hAA, hga, yy, _, _, _⟩ := (hA.below hV5 hB).cell hlt
    obtain ⟨Ai, ci, hai, _⟩ := ((hA.below hV5 hB).each _ (List.getElem_mem hlt)).row
    rw [hai] at yy
    have hgw2 : ga < w5.heap.size := by omega
    have hon : (ownV C As[i].2).length ≤ 1000 := by omega
    have k1 : ¬ (((ownV C As[i].2).length : Int) = 0) := by omega
    have k2 : (As[i].2.length : Int) = ((ownV C As[i].2).length : Int) := by omega
    subst hAA
    clear hai
    obtain ⟨own, hown⟩ : ∃ own, ownV C As[i].2 = own := ⟨_, rfl⟩
    rw [hown] at hRO HBD HWH HMO howl k1 k2 hon ⊢
    clear hown
    have k3 : ¬ own.length = 0 := by omega
    have k4 : own ≠ [] := fun e => k3 (by rw [e]; rfl)
    have k5 : ((own.length : Int) == 0) = false := by simpa using k4
    have HOWL := Lib.hid howl
    clear howl
    go_wp2_with fail
    have hl := topLoop5 AG AO cG cO B w5.heap.size Ds own (Gr.refl w5) (hG.below hV5 hB) hRO (Nat.le_trans hB hz5) (Nat.le_refl _) hkn hon
    unfold bodyOf at hl
    conv at hl in (Option.getD _ Code.skip) => whnf
    refine hl HDS _ ?_
    clear hl yy k1 k2 k3 k4 k5
    intro y2 w6 hV6
    rw [HWH.out]
    clear HWH
    have hV6' := Gr.trans hV5 hV6
    have hRO6 := Row.gr hRO hV6
    have hz6 := Below.size hV6'
    clear hRO hV6 hV5
    have howl := HOWL.out
    go_upto_region 53 with fail
    refine topReg53 g (some ⟨ga, oa, none⟩) cA B z5 As (hA.below hV6' hB) (Nat.le_trans hB hz6) hlt hin (b5.gr hV6') (by omega) HCAP HMO _ ?_
    have hpo : 0 < own.length := by omega
    clear HCAP HMO howl
    intro y3 q28 w7 hV7 hq28 b28
    have hV7' := Gr.trans hV6' hV7
    have hRO7 := Row.gr hRO6 hV7
    have hz7 := Below.size hV7'
    clear hRO6 hV7 hV6' hV
    go_wp2_with fail
    refine (refHullOf_any L AM cM B own AO cO _ w7 (hM.below hV7' hB) (Nat.le_trans hB hz7) hRO7 (Nat.le_refl _) (by omega) (by omega) HBD).mono ?_
    rintro e w8 ⟨rfl, hB8⟩
    have hV8 := Gr.trans hV7' hB8
    replace b28 := b28.gr hB8
    clear hB8 hRO7 hV7'
    obtain ⟨HH, hHH⟩ : ∃ HH, hullR L own = HH := ⟨_, rfl⟩
    rw [hHH] at b28 ⊢
    clear hHH HBD
    have hq := eq_mark_same ⟨arN, HH.al, HH.ah, HH.dl, HH.dh, HH.lv⟩
    have b28' := b28.alloc (.cells #[.string arN, .int .i64 HH.al, .int .i64 HH.ah, .int .i64 HH.dl, .int .i64 HH.dh, .int .i64 HH.lv] 46)
    have b30 := Blk.new w8 46 #[.string arN, .int .i64 HH.al, .int .i64 HH.ah, .int .i64 HH.dl, .int .i64 HH.dh, .int .i64 HH.lv]
    have hV9 : Gr V (w8.alloc (.cells #[.string arN, .int .i64 HH.al, .int .i64 HH.ah, .int .i64 HH.dl, .int .i64 HH.dh, .int .i64 HH.lv] 46)) := Below.alloc hV8 (Below.size hV8) _
    obtain ⟨e0, e1, e2, e3, e4, e5, ef⟩ := blk6 b28'
    obtain ⟨f0, f1, f2, f3, f4, f5, ff⟩ := blk6 b30
    have l28 := b28.lt
    have l30 := b30.lt
    unfold arN at *
    go_wp2
    exact ⟨m - 1, by omega, (frA [(6, _), (21, _), (22, _), (23, _), (24, _), (25, _), (26, _), (27, _), (28, _), (29, _), (30, _), (159, _), (160, _), (161, _), (162, _), (163, _), (164, _), (165, _), (166, _), (167, _), (168, _), (169, _), (170, _), (171, _), (172, _), (173, _), (174, _), (175, _), (176, _), (177, _), (178, _), (179, _), (180, _), (181, _), (182, _), (183, _), (184, _), (185, _), (186, _), (187, _), (188, _), (189, _), (190, _), (191, _), (192, _), (193, _), (194, _), (195, _), (196, _), (197, _), (198, _), (199, _), (200, _), (201, _), (202, _), (203, _), (204, _), (205, _), (206, _), (207, _), (208, _), (209, _), (210, _), (211, _), (212, _), (213, _), (214, _), (215, _), (216, _), (217, _), (218, _), (219, _), (220, _), (221, _), (222, _), (223, _), (224, _), (225, _), (226, _), (227, _), (228, _), (229, _), (230, _), (231, _), (232, _), (233, _), (234, _), (235, _), (236, _), (237, _), (238, _), (239, _), (240, _), (241, _), (242, _), (243, _), (244, _), (245, _), (246, _), (247, _), (248, _), (249, _), (250, _), (251, _), (252, _), (253, _), (254, _), (255, _), (256, _), (257, _), (258, _), (259, _), (260, _), (261, _), (262, _), (263, _), (264, _)]), i + 1, (by first | rfl | ((repeat (refine And.intro rfl ?_)); rfl)), by omega, hV9⟩
  · obtain rfl : i = As.length := by omega
    go_wp2
    exact H.out (frA [(6, _), (20, _), (21, _), (22, _), (23, _), (24, _), (25, _), (26, _), (27, _), (28, _), (29, _), (30, _), (159, _), (160, _), (161, _), (162, _), (163, _), (164, _), (165, _), (166, _), (167, _), (168, _), (169, _), (170, _), (171, _), (172, _), (173, _), (174, _), (175, _), (176, _), (177, _), (178, _), (179, _), (180, _), (181, _), (182, _), (183, _), (184, _), (185, _), (186, _), (187, _), (188, _), (189, _), (190, _), (191, _), (192, _), (193, _), (194, _), (195, _), (196, _), (197, _), (198, _), (199, _), (200, _), (201, _), (202, _), (203, _), (204, _), (205, _), (206, _), (207, _), (208, _), (209, _), (210, _), (211, _), (212, _), (213, _), (214, _), (215, _), (216, _), (217, _), (218, _), (219, _), (220, _), (221, _), (222, _), (223, _), (224, _), (225, _), (226, _), (227, _), (228, _), (229, _), (230, _), (231, _), (232, _), (233, _), (234, _), (235, _), (236, _), (237, _), (238, _), (239, _), (240, _), (241, _), (242, _), (243, _), (244, _), (245, _), (246, _), (247, _), (248, _), (249, _), (250, _), (251, _), (252, _), (253, _), (254, _), (255, _), (256, _), (257, _), (258, _), (259, _), (260, _), (261, _), (262, _), (263, _), (264, _)]) wr hV

set_option maxRecDepth 100000 in
set_option maxHeartbeats 32000000 in
theorem topLoop2 (g : Int → Int → Int) (AC AM AA AG : Option Addr) (cC cM cA cG B z5 : Nat) (C : List (Int × Int)) (d0 d1 : Int) (L : List Mk) (Ds : List Rw) (As : List ArA) {V : World} (hC : Row V B 2 AC C.length (cellsC C)) (hA : ArsOk g As AA B V) (hG : RwOk Ds AG B V) (hM : MkOk L AM B V) (b5 : Blk V z5 26 #[.int .i64 d0, .int .i64 d1]) (hB : B ≤ V.heap.size) (hn : C.length ≤ 20) (hin : As.length ≤ 1000000) (hkn : Ds.length ≤ 1000) (HDS : Hid (∀ q ∈ Ds, q.ns.length ≤ 1000)) (HP : Hid (TopP g C d0 d1 L Ds As)) {t0 t1 t2 t3 t4 t6 t7 t8 t9 t12 t13 t14 t15 t17 t19 t21 t22 t23 t24 t25 t26 t27 t28 t29 t30 t31 t32 t33 t34 t35 t36 t37 t38 t39 t40 t41 t42 t43 t44 t45 t46 t47 t48 t49 t50 t51 t52 t53 t54 t55 t56 t57 t58 t59 t60 t61 t62 t63 t64 t65 t66 t67 t68 t69 t70 t71 t72 t73 t74 t75 t76 t77 t78 t79 t80 t81 t82 t83 t84 t85 t86 t87 t88 t89 t90 t91 t92 t93 t94 t95 t96 t97 t98 t99 t100 t101 t102 t103 t104 t105 t106 t107 t108 t109 t110 t111 t112 t113 t114 t115 t116 t117 t118 t119 t120 t121 t122 t123 t124 t125 t126 t127 t128 t129 t130 t131 t132 t133 t134 t135 t136 t137 t138 t139 t140 t141 t142 t143 t144 t145 t146 t147 t148 t149 t150 t151 t152 t153 t154 t155 t156 t157 t158 t159 t160 t161 t162 t163 t164 t165 t166 t167 t168 t169 t170 t171 t172 t173 t174 t175 t176 t177 t178 t179 t180 t181 t182 t183 t184 t185 t186 t187 t188 t189 t190 t191 t192 t193 t194 t195 t196 t197 t198 t199 t200 t201 t202 t203 t204 t205 t206 t207 t208 t209 t210 t211 t212 t213 t214 t215 t216 t217 t218 t219 t220 t221 t222 t223 t224 t225 t226 t227 t228 t229 t230 t231 t232 t233 t234 t235 t236 t237 t238 t239 t240 t241 t242 t243 t244 t245 t246 t247 t248 t249 t250 t251 t252 t253 t254 t255 t256 t257 t258 t259 t260 t261 t262 t263 t264 : Value} {ds : List Deferred} (Q' : Exit → Act → World → Prop)
    (h : ∀ (y : Nat → Value) (w' : World), Gr V w' → Q' (.exit 4) ⟨#[t0, t1, t2, t3, t4, .pointer (some ⟨z5, 0, none⟩), y 6, t7, t8, t9, .slice AC C.length cC, .slice AM L.length cM, t12, t13, t14, t15, .slice AA As.length cA, t17, .slice AG Ds.length cG, t19, y 20, y 21, y 22, y 23, y 24, y 25, y 26, y 27, y 28, y 29, y 30, t31, t32, t33, t34, t35, t36, t37, t38, t39, t40, t41, t42, t43, t44, t45, t46, t47, t48, t49, t50, t51, t52, t53, t54, t55, t56, t57, t58, t59, t60, t61, t62, t63, t64, t65, t66, t67, t68, t69, t70, t71, t72, t73, t74, t75, t76, t77, t78, t79, t80, t81, t82, t83, t84, t85, t86, t87, t88, t89, t90, t91, t92, t93, t94, t95, t96, t97, t98, t99, t100, t101, t102, t103, t104, t105, t106, t107, t108, t109, t110, t111, t112, t113, t114, t115, t116, t117, t118, t119, t120, t121, t122, t123, t124, t125, t126, t127, t128, t129, t130, t131, t132, t133, t134, t135, t136, t137, t138, t139, t140, t141, t142, t143, t144, t145, t146, t147, t148, t149, t150, t151, t152, t153, t154, t155, t156, t157, t158, y 159, y 160, y 161, y 162, y 163, y 164, y 165, y 166, y 167, y 168, y 169, y 170, y 171, y 172, y 173, y 174, y 175, y 176, y 177, y 178, y 179, y 180, y 181, y 182, y 183, y 184, y 185, y 186, y 187, y 188, y 189, y 190, y 191, y 192, y 193, y 194, y 195, y 196, y 197, y 198, y 199, y 200, y 201, y 202, y 203, y 204, y 205, y 206, y 207, y 208, y 209, y 210, y 211, y 212, y 213, y 214, y 215, y 216, y 217, y 218, y 219, y 220, y 221, y 222, y 223, y 224, y 225, y 226, y 227, y 228, y 229, y 230, y 231, y 232, y 233, y 234, y 235, y 236, y 237, y 238, y 239, y 240, y 241, y 242, y 243, y 244, y 245, y 246, y 247, y 248, y 249, y 250, y 251, y 252, y 253, y 254, y 255, y 256, y 257, y 258, y 259, y 260, y 261, y 262, y 263, y 264], ds⟩ w') :
    (Code.loop (bodyOf Tryz.f3 2)).wp Tryz.prog Q' ⟨#[t0, t1, t2, t3, t4, .pointer (some ⟨z5, 0, none⟩), t6, t7, t8, t9, .slice AC C.length cC, .slice AM L.length cM, t12, t13, t14, t15, .slice AA As.length cA, t17, .slice AG Ds.length cG, t19, .int .i64 0, t21, t22, t23, t24, t25, t26, t27, t28, t29, t30, t31, t32, t33, t34, t35, t36, t37, t38, t39, t40, t41, t42, t43, t44, t45, t46, t47, t48, t49, t50, t51, t52, t53, t54, t55, t56, t57, t58, t59, t60, t61, t62, t63, t64, t65, t66, t67, t68, t69, t70, t71, t72, t73, t74, t75, t76, t77, t78, t79, t80, t81, t82, t83, t84, t85, t86, t87, t88, t89, t90, t91, t92, t93, t94, t95, t96, t97, t98, t99, t100, t101, t102, t103, t104, t105, t106, t107, t108, t109, t110, t111, t112, t113, t114, t115, t116, t117, t118, t119, t120, t121, t122, t123, t124, t125, t126, t127, t128, t129, t130, t131, t132, t133, t134, t135, t136, t137, t138, t139, t140, t141, t142, t143, t144, t145, t146, t147, t148, t149, t150, t151, t152, t153, t154, t155, t156, t157, t158, t159, t160, t161, t162, t163, t164, t165, t166, t167, t168, t169, t170, t171, t172, t173, t174, t175, t176, t177, t178, t179, t180, t181, t182, t183, t184, t185, t186, t187, t188, t189, t190, t191, t192, t193, t194, t195, t196, t197, t198, t199, t200, t201, t202, t203, t204, t205, t206, t207, t208, t209, t210, t211, t212, t213, t214, t215, t216, t217, t218, t219, t220, t221, t222, t223, t224, t225, t226, t227, t228, t229, t230, t231, t232, t233, t234, t235, t236, t237, t238, t239, t240, t241, t242, t243, t244, t245, t246, t247, t248, t249, t250, t251, t252, t253, t254, t255, t256, t257, t258, t259, t260, t261, t262, t263, t264], ds⟩ V :=
  topLoop2Z (z := (frA [(0, t0), (1, t1), (2, t2), (3, t3), (4, t4), (6, t6), (7, t7), (8, t8), (9, t9), (12, t12), (13, t13), (14, t14), (15, t15), (17, t17), (19, t19), (21, t21), (22, t22), (23, t23), (24, t24), (25, t25), (26, t26), (27, t27), (28, t28), (29, t29), (30, t30), (31, t31), (32, t32), (33, t33), (34, t34), (35, t35), (36, t36), (37, t37), (38, t38), (39, t39), (40, t40), (41, t41), (42, t42), (43, t43), (44, t44), (45, t45), (46, t46), (47, t47), (48, t48), (49, t49), (50, t50), (51, t51), (52, t52), (53, t53), (54, t54), (55, t55), (56, t56), (57, t57), (58, t58), (59, t59), (60, t60), (61, t61), (62, t62), (63, t63), (64, t64), (65, t65), (66, t66), (67, t67), (68, t68), (69, t69), (70, t70), (71, t71), (72, t72), (73, t73), (74, t74), (75, t75), (76, t76), (77, t77), (78, t78), (79, t79), (80, t80), (81, t81), (82, t82), (83, t83), (84, t84), (85, t85), (86, t86), (87, t87), (88, t88), (89, t89), (90, t90), (91, t91), (92, t92), (93, t93), (94, t94), (95, t95), (96, t96), (97, t97), (98, t98), (99, t99), (100, t100), (101, t101), (102, t102), (103, t103), (104, t104), (105, t105), (106, t106), (107, t107), (108, t108), (109, t109), (110, t110), (111, t111), (112, t112), (113, t113), (114, t114), (115, t115), (116, t116), (117, t117), (118, t118), (119, t119), (120, t120), (121, t121), (122, t122), (123, t123), (124, t124), (125, t125), (126, t126), (127, t127), (128, t128), (129, t129), (130, t130), (131, t131), (132, t132), (133, t133), (134, t134), (135, t135), (136, t136), (137, t137), (138, t138), (139, t139), (140, t140), (141, t141), (142, t142), (143, t143), (144, t144), (145, t145), (146, t146), (147, t147), (148, t148), (149, t149), (150, t150), (151, t151), (152, t152), (153, t153), (154, t154), (155, t155), (156, t156), (157, t157), (158, t158), (159, t159), (160, t160), (161, t161), (162, t162), (163, t163), (164, t164), (165, t165), (166, t166), (167, t167), (168, t168), (169, t169), (170, t170), (171, t171), (172, t172), (173, t173), (174, t174), (175, t175), (176, t176), (177, t177), (178, t178), (179, t179), (180, t180), (181, t181), (182, t182), (183, t183), (184, t184), (185, t185), (186, t186), (187, t187), (188, t188), (189, t189), (190, t190), (191, t191), (192, t192), (193, t193), (194, t194), (195, t195), (196, t196), (197, t197), (198, t198), (199, t199), (200, t200), (201, t201), (202, t202), (203, t203), (204, t204), (205, t205), (206, t206), (207, t207), (208, t208), (209, t209), (210, t210), (211, t211), (212, t212), (213, t213), (214, t214), (215, t215), (216, t216), (217, t217), (218, t218), (219, t219), (220, t220), (221, t221), (222, t222), (223, t223), (224, t224), (225, t225), (226, t226), (227, t227), (228, t228), (229, t229), (230, t230), (231, t231), (232, t232), (233, t233), (234, t234), (235, t235), (236, t236), (237, t237), (238, t238), (239, t239), (240, t240), (241, t241), (242, t242), (243, t243), (244, t244), (245, t245), (246, t246), (247, t247), (248, t248), (249, t249), (250, t250), (251, t251), (252, t252), (253, t253), (254, t254), (255, t255), (256, t256), (257, t257), (258, t258), (259, t259), (260, t260), (261, t261), (262, t262), (263, t263), (264, t264)])) g AC AM AA AG cC cM cA cG B z5 C d0 d1 L Ds As hC hA hG hM b5 hB hn hin hkn HDS HP Q' h

end Go.Proofs.YtclpljbllnhhbaaGreat

namespace Go.Proofs.YtclpljbllnhhbaaGreat
open Go.RowKit

theorem AreaIn.short {g : Int → Int → Int} {level : Int} {C cs : List (Int × Int)} (h : AreaIn g level C cs) (hn : cs.Nodup) : cs.length ≤ C.length := nodup_len cs C hn h.sub
/-- What holds of the areas, all of it. -/
theorem topP {g : Int → Int → Int} {level : Int} {C : List (Int × Int)} {d0 d1 : Int} {Ds : List Rw} {Bs : List ((Int × Int) × ArA)} (hP : Pls g level C) (hS : ArS g level true C C.length Bs) (h0 : 1 ≤ d0 ∧ d0 ≤ 10000) (h1 : 1 ≤ d1 ∧ d1 ≤ 10000) (hn : C.length ≤ 20) (hs : ∀ x ∈ C, inS x ∧ g x.1 x.2 ≤ 1000000000) (hD : ResG (marksV g d0 d1 C) ruT (Ds.map (·.ns))) (hcap : ∀ a ∈ Bs.map (·.2), ∀ A c, a.1 = .slice A a.2.length c → a.2.length ≤ c ∧ (A = none → c = 0)) :
    TopP g C d0 d1 (marksV g d0 d1 C) Ds (Bs.map (·.2)) ∧ Ds.length ≤ (Bs.map (·.2)).length := by
  have hM := marksV_ms g d0 d1 C
  have hsub : (Bs.map (·.1)).Sublist C := by have := hS.sub; rwa [List.take_length] at this
  have hin : ∀ q ∈ Bs, AreaIn g level C q.2.2 := fun q hq => (hS.each q hq).in_ hP (hsub.subset (List.mem_map_of_mem hq))
  have hasc : ∀ q ∈ Bs, q.2.2.Pairwise fun x y => befB x y = true := fun q hq => pair_bef (hS.each q hq).sorted (hS.each q hq).nodup
  have hsh : ∀ q ∈ Bs, q.2.2.length ≤ 20 := fun q hq => Nat.le_trans ((hin q hq).short (hS.each q hq).nodup) hn
  have key : ∀ a ∈ Bs.map (·.2), ∃ q ∈ Bs, q.2 = a := fun a ha => List.mem_map.1 ha
  refine ⟨⟨fun a ha => ?_, fun a ha => ?_, fun a ha k hk => ?_, fun a ha i hi => ?_, fun a ha => ?_, fun a ha => ?_, hcap⟩, ?_⟩
  · obtain ⟨q, hq, rfl⟩ := key a ha
    have := hsh q hq
    exact ⟨(hin q hq).pos, by omega⟩
  · obtain ⟨q, hq, rfl⟩ := key a ha
    exact ownV_len hP (hin q hq).sub
  · obtain ⟨q, hq, rfl⟩ := key a ha
    rw [ownV_len hP (fun x hx => (hin q hq).sub x (List.mem_of_mem_take hx)), List.length_take]
    have := hsh q hq
    omega
  · obtain ⟨q, hq, rfl⟩ := key a ha
    obtain ⟨j, x, _, hj, rfl⟩ := (mem_ownV hP (hin q hq).sub).1 hi
    have := lt_of_some hj
    rw [marksV_len]; omega
  · obtain ⟨q, hq, rfl⟩ := key a ha
    obtain ⟨k, hk, hw⟩ := (hin q hq).whole hP (by omega) (by omega) hM hD
    obtain ⟨d, hd, rfl⟩ := List.mem_map.1 hk
    rw [List.any_eq_true]
    refine ⟨d, hd, ?_⟩
    rw [List.all_eq_true]
    exact fun x hx => List.contains_iff_mem.2 (hw x hx)
  · obtain ⟨q, hq, rfl⟩ := key a ha
    have hne : q.2.2 ≠ [] := fun e => by have := (hin q hq).pos; rw [e] at this; simp at this
    obtain ⟨pm, _⟩ := peak_spec g hne
    have hpc := (hin q hq).sub _ pm
    have hp0 := ((abv_iff _ _ _ _).1 ((hP.mem _).1 hpc)).1
    have e1 := markOfV_area (d0 := d0) (d1 := d1) (lv := g (peakV g q.2.2).1 (peakV g q.2.2).2) (nm := arN) (hin q hq).pos (by have := hsh q hq; omega) (hasc q hq) (fun c hc => (hs c ((hin q hq).sub c hc)).1) h0 h1 arN_ok ⟨hp0, (hs _ hpc).2⟩
    rw [e1, area_mark hP (by omega) (by omega) hM (hin q hq) arN]
    rfl
  · have := groups_le hP (by omega) (by omega) hM hD (As := Bs.map fun q => q.2.2) (fun cs hcs => by
      obtain ⟨q, hq, rfl⟩ := List.mem_map.1 hcs
      exact hin q hq) (fun x hx => by
      obtain ⟨q, hq, hxq⟩ := hS.cover x (by rw [List.take_length]; exact hx)
      exact ⟨q.2.2, List.mem_map_of_mem (f := fun q : (Int × Int) × ArA => q.2.2) hq, hxq⟩)
    simpa using this

theorem areasCap (l L : List Sc) (A : Option Addr) (cap B : Nat) (level : Int) (w : World) (hc : L.map Sc.core = l.map Sc.core) (hl : ScOk L A B w) (hB : B ≤ w.heap.size) (hg : ∀ s ∈ l, ScGood s) (hn : l.length ≤ 6) (hlv : levelE level = 0) :
    Calls Tryz.prog 13 #[.slice A L.length cap, .agg #[.int .i64 level, .bool true]] w fun e w' => ∃ (A' : Option Addr) (c' : Nat) (P : List (Int × Int)) (Bs : List ((Int × Int) × ArA)) (As : List ArA), Bs.map (·.2) = As ∧ e = .returned (.tuple #[.slice A' As.length c', .int .i64 0]) ∧ Pls (atV l) level P ∧ ArS (atV l) level true P P.length Bs ∧ ArsOk (atV l) As A' w'.heap.size w' ∧
      (∀ a ∈ As, ∀ A c, a.1 = .slice A a.2.length c → a.2.length ≤ c ∧ (A = none → c = 0)) ∧ Below w.heap.size w w' := by
  have hgL := core_good hc hg
  have hnL := core_len hc
  have hs : (scansE L).2 = 0 := by rw [scansE_good (by omega) hgL]
  have he : scanAskE L level = 0 := (firstE_zero _).2 (fun e he => by
    simp only [List.mem_cons, List.not_mem_nil, or_false] at he
    rcases he with rfl | rfl
    · exact hs
    · exact hlv)
  refine (areas_ok L A cap B level true w hl hB he (Lib.hid hgL)).mono ?_
  rintro e w' ⟨v, P, Bs, rfl, hP, hS, hrow, hrows, hBw⟩
  rw [atV_core hc] at hP hS hrow
  obtain ⟨A', c', rfl, hR, _, _⟩ := own_row2 hrow
  have hlen : Bs.length ≤ 9223372036854775807 := by
    rcases hrow.2 with ⟨_, h0⟩ | ⟨_, cap, _, _, _, _, h1, h2, _⟩
    · omega
    · unfold maxLen at h2; omega
  refine ⟨A', c', P, Bs, Bs.map (·.2), rfl, by rw [List.length_map], hP.pls (atV_w64 hg), hS, ⟨by rw [List.length_map]; exact hlen, by rw [List.length_map]; exact hR, fun a ha => ?_⟩, fun a ha X c hX => ?_, hBw⟩
  · obtain ⟨q, hq, rfl⟩ := List.mem_map.1 ha
    exact own_ar (hrows q hq)
  · obtain ⟨q, hq, rfl⟩ := List.mem_map.1 ha
    obtain ⟨A2, c2, e2, _, h1, h2⟩ := own_row2 (hrows q hq)
    rw [e2] at hX
    have hi := Value.slice.inj hX
    obtain ⟨rfl, _, rfl⟩ := hi
    exact ⟨h1, h2⟩

set_option maxRecDepth 100000 in
set_option maxHeartbeats 32000000 in
theorem topReg25Z (l : List Sc) (A : Option Addr) (c B z4 : Nat) (level : Int) (corners : Bool) {W : World} (HL : Hid (∀ w', Gr W w' → ScOk l A B w')) (hB : B ≤ W.heap.size) (hc : l.length ≤ c) (HN : Hid (A = none → c = 0)) (HD : Hid (∀ s ∈ l, s.data.length ≤ s.dcap ∧ (s.dA = none → s.dcap = 0))) (HG : Hid (∀ s ∈ l, ScGood s)) (hn : l.length ≤ 4) (HLV : Hid (levelE level = 0)) (b4 : Blk W z4 24 #[.int .i64 level, .bool corners]) {z : Nat → Value} {ds : List Deferred} (Q : Exit → Act → World → Prop)
    (h : ∀ (y : Nat → Value) (A' : Option Addr) (c' : Nat) (P : List (Int × Int)) (Bs : List ((Int × Int) × ArA)) (As : List ArA) (w' : World), Bs.map (·.2) = As → Gr W w' → Pls (atV l) level P → ArS (atV l) level true P P.length Bs → ArsOk (atV l) As A' w'.heap.size w' → (∀ a ∈ As, ∀ A c, a.1 = .slice A a.2.length c → a.2.length ≤ c ∧ (A = none → c = 0)) → Q .normal ⟨#[.slice A l.length c, z 1, z 2, z 3, .pointer (some ⟨z4, 0, none⟩), z 5, z 6, z 7, z 8, z 9, z 10, z 11, z 12, z 13, z 14, z 15, .slice A' As.length c', .int .i64 0, z 18, z 19, z 20, z 21, z 22, z 23, z 24, z 25, z 26, z 27, z 28, z 29, z 30, z 31, z 32, z 33, z 34, z 35, z 36, z 37, z 38, z 39, z 40, z 41, z 42, z 43, z 44, z 45, z 46, z 47, z 48, z 49, z 50, z 51, z 52, z 53, z 54, z 55, z 56, z 57, z 58, z 59, z 60, z 61, z 62, z 63, z 64, z 65, z 66, z 67, z 68, z 69, z 70, z 71, z 72, z 73, z 74, z 75, z 76, z 77, z 78, z 79, z 80, z 81, z 82, z 83, z 84, z 85, z 86, z 87, z 88, z 89, z 90, z 91, z 92, z 93, z 94, z 95, z 96, z 97, z 98, z 99, z 100, z 101, z 102, z 103, z 104, z 105, z 106, z 107, z 108, z 109, z 110, z 111, z 112, z 113, z 114, z 115, z 116, z 117, z 118, z 119, z 120, z 121, z 122, z 123, z 124, z 125, z 126, z 127, z 128, y 129, y 130, y 131, y 132, y 133, y 134, y 135, y 136, y 137, z 138, z 139, z 140, z 141, z 142, z 143, z 144, z 145, z 146, z 147, z 148, z 149, z 150, z 151, z 152, z 153, z 154, z 155, z 156, z 157, z 158, z 159, z 160, z 161, z 162, z 163, z 164, z 165, z 166, z 167, z 168, z 169, z 170, z 171, z 172, z 173, z 174, z 175, z 176, z 177, z 178, z 179, z 180, z 181, z 182, z 183, z 184, z 185, z 186, z 187, z 188, z 189, z 190, z 191, z 192, z 193, z 194, z 195, z 196, z 197, z 198, z 199, z 200, z 201, z 202, z 203, z 204, z 205, z 206, z 207, z 208, z 209, z 210, z 211, z 212, z 213, z 214, z 215, z 216, z 217, z 218, z 219, z 220, z 221, z 222, z 223, z 224, z 225, z 226, z 227, z 228, z 229, z 230, z 231, z 232, z 233, z 234, z 235, z 236, z 237, z 238, z 239, z 240, z 241, z 242, z 243, z 244, z 245, z 246, z 247, z 248, z 249, z 250, z 251, z 252, z 253, z 254, z 255, z 256, z 257, z 258, z 259, z 260, z 261, z 262, z 263, z 264], ds⟩ w') :
    (regOf Tryz.f3 25).wp Tryz.prog Q ⟨#[.slice A l.length c, z 1, z 2, z 3, .pointer (some ⟨z4, 0, none⟩), z 5, z 6, z 7, z 8, z 9, z 10, z 11, z 12, z 13, z 14, z 15, z 16, z 17, z 18, z 19, z 20, z 21, z 22, z 23, z 24, z 25, z 26, z 27, z 28, z 29, z 30, z 31, z 32, z 33, z 34, z 35, z 36, z 37, z 38, z 39, z 40, z 41, z 42, z 43, z 44, z 45, z 46, z 47, z 48, z 49, z 50, z 51, z 52, z 53, z 54, z 55, z 56, z 57, z 58, z 59, z 60, z 61, z 62, z 63, z 64, z 65, z 66, z 67, z 68, z 69, z 70, z 71, z 72, z 73, z 74, z 75, z 76, z 77, z 78, z 79, z 80, z 81, z 82, z 83, z 84, z 85, z 86, z 87, z 88, z 89, z 90, z 91, z 92, z 93, z 94, z 95, z 96, z 97, z 98, z 99, z 100, z 101, z 102, z 103, z 104, z 105, z 106, z 107, z 108, z 109, z 110, z 111, z 112, z 113, z 114, z 115, z 116, z 117, z 118, z 119, z 120, z 121, z 122, z 123, z 124, z 125, z 126, z 127, z 128, z 129, z 130, z 131, z 132, z 133, z 134, z 135, z 136, z 137, z 138, z 139, z 140, z 141, z 142, z 143, z 144, z 145, z 146, z 147, z 148, z 149, z 150, z 151, z 152, z 153, z 154, z 155, z 156, z 157, z 158, z 159, z 160, z 161, z 162, z 163, z 164, z 165, z 166, z 167, z 168, z 169, z 170, z 171, z 172, z 173, z 174, z 175, z 176, z 177, z 178, z 179, z 180, z 181, z 182, z 183, z 184, z 185, z 186, z 187, z 188, z 189, z 190, z 191, z 192, z 193, z 194, z 195, z 196, z 197, z 198, z 199, z 200, z 201, z 202, z 203, z 204, z 205, z 206, z 207, z 208, z 209, z 210, z 211, z 212, z 213, z 214, z 215, z 216, z 217, z 218, z 219, z 220, z 221, z 222, z 223, z 224, z 225, z 226, z 227, z 228, z 229, z 230, z 231, z 232, z 233, z 234, z 235, z 236, z 237, z 238, z 239, z 240, z 241, z 242, z 243, z 244, z 245, z 246, z 247, z 248, z 249, z 250, z 251, z 252, z 253, z 254, z 255, z 256, z 257, z 258, z 259, z 260, z 261, z 262, z 263, z 264], ds⟩ W := by
  have H := Lib.hid h; clear h
  obtain ⟨e0, e1, ef⟩ := blk2c b4
  have l4 := b4.lt
  conv in (regOf _ _) => whnf
  refine wp_region_w (Gr _) (by kernel_rfl) (Below.refl _ _).drew ?_
  refine wpW_det (t' := ?ct0R295) 0 (by rfl) (by kernel_rfl) (NQ_free _) (by kernel_rfl) ?cw0R295 ?ch0R295 ?ca0R295 (Eq.refl _) ?cH0R295
  case cw0R295 => (go_simp; done)
  case ch0R295 =>
    intro ds w' hS K hK
    have hc := (bcell hS).1
    have hf := (bcell hS).2
    have hz := hS.size
    try simp at hz
    go_simp
    try go_bits
    first
      | exact hK _ hS (Gr.refl _)
      | exact hK _ (by repeat (first | (with_reducible exact Below.refl _ _) | (with_reducible assumption) | ((with_reducible refine Below.setCell ?_ ?_ _); rotate_left; · (first | exact Nat.le_refl _ | (simp; done) | (simp; omega) | omega)) | ((with_reducible refine Below.alloc ?_ ?_ _); rotate_left; · (first | exact Nat.le_refl _ | (simp; done) | (simp; omega) | omega)) | (with_reducible apply Below.drew) | (with_reducible apply below_drewN') | (refine Below.trans ?_ (Below.mono (by assumption) (by first | exact Nat.le_refl _ | (simp; done) | (simp; omega) | omega))) | exact Below.refl _ _ | assumption)) (by repeat (first | (with_reducible exact Below.refl _ _) | (with_reducible assumption) | ((with_reducible refine Below.setCell ?_ ?_ _); rotate_left; · (first | exact Nat.le_refl _ | (simp; done) | (simp; omega) | omega)) | ((with_reducible refine Below.alloc ?_ ?_ _); rotate_left; · (first | exact Nat.le_refl _ | (simp; done) | (simp; omega) | omega)) | (with_reducible apply Below.drew) | (with_reducible apply below_drewN') | (refine Below.trans ?_ (Below.mono (by assumption) (by first | exact Nat.le_refl _ | (simp; done) | (simp; omega) | omega))) | exact Below.refl _ _ | assumption))
  case ca0R295 => (first | (simp [Act.put]; done) | (simp [Act.put, *]; done))
  try dsimp only
  refine wpW_det (t' := ?ct2R295) 2 (by rfl) (by kernel_rfl) (NQ_free _) (by kernel_rfl) ?cw2R295 ?ch2R295 ?ca2R295 (Eq.refl _) ?cH2R295
  case cw2R295 => (go_simp; done)
  case ch2R295 =>
    intro ds w' hS K hK
    have hc := (bcell hS).1
    have hf := (bcell hS).2
    have hz := hS.size
    try simp at hz
    go_simp
    try go_bits
    first
      | exact hK _ hS (Gr.refl _)
      | exact hK _ (by repeat (first | (with_reducible exact Below.refl _ _) | (with_reducible assumption) | ((with_reducible refine Below.setCell ?_ ?_ _); rotate_left; · (first | exact Nat.le_refl _ | (simp; done) | (simp; omega) | omega)) | ((with_reducible refine Below.alloc ?_ ?_ _); rotate_left; · (first | exact Nat.le_refl _ | (simp; done) | (simp; omega) | omega)) | (with_reducible apply Below.drew) | (with_reducible apply below_drewN') | (refine Below.trans ?_ (Below.mono (by assumption) (by first | exact Nat.le_refl _ | (simp; done) | (simp; omega) | omega))) | exact Below.refl _ _ | assumption)) (by repeat (first | (with_reducible exact Below.refl _ _) | (with_reducible assumption) | ((with_reducible refine Below.setCell ?_ ?_ _); rotate_left; · (first | exact Nat.le_refl _ | (simp; done) | (simp; omega) | omega)) | ((with_reducible refine Below.alloc ?_ ?_ _); rotate_left; · (first | exact Nat.le_refl _ | (simp; done) | (simp; omega) | omega)) | (with_reducible apply Below.drew) | (with_reducible apply below_drewN') | (refine Below.trans ?_ (Below.mono (by assumption) (by first | exact Nat.le_refl _ | (simp; done) | (simp; omega) | omega))) | exact Below.refl _ _ | assumption))
  case ca2R295 => (first | (simp [Act.put]; done) | (simp [Act.put, *]; done))
  try dsimp only
  refine wpW_det (t' := ?ct3R295) 3 (by rfl) (by kernel_rfl) (NQ_free _) (by kernel_rfl) ?cw3R295 ?ch3R295 ?ca3R295 (Eq.refl _) ?cH3R295
  case cw3R295 => (go_simp; done)
  case ch3R295 =>
    intro ds w' hS K hK
    have hc := (bcell hS).1
    have hf := (bcell hS).2
    have hz := hS.size
    try simp at hz
    go_simp
    try go_bits
    first
      | exact hK _ hS (Gr.refl _)
      | exact hK _ (by repeat (first | (with_reducible exact Below.refl _ _) | (with_reducible assumption) | ((with_reducible refine Below.setCell ?_ ?_ _); rotate_left; · (first | exact Nat.le_refl _ | (simp; done) | (simp; omega) | omega)) | ((with_reducible refine Below.alloc ?_ ?_ _); rotate_left; · (first | exact Nat.le_refl _ | (simp; done) | (simp; omega) | omega)) | (with_reducible apply Below.drew) | (with_reducible apply below_drewN') | (refine Below.trans ?_ (Below.mono (by assumption) (by first | exact Nat.le_refl _ | (simp; done) | (simp; omega) | omega))) | exact Below.refl _ _ | assumption)) (by repeat (first | (with_reducible exact Below.refl _ _) | (with_reducible assumption) | ((with_reducible refine Below.setCell ?_ ?_ _); rotate_left; · (first | exact Nat.le_refl _ | (simp; done) | (simp; omega) | omega)) | ((with_reducible refine Below.alloc ?_ ?_ _); rotate_left; · (first | exact Nat.le_refl _ | (simp; done) | (simp; omega) | omega)) | (with_reducible apply Below.drew) | (with_reducible apply below_drewN') | (refine Below.trans ?_ (Below.mono (by assumption) (by first | exact Nat.le_refl _ | (simp; done) | (simp; omega) | omega))) | exact Below.refl _ _ | assumption))
  case ca3R295 => (first | (simp [Act.put]; done) | (simp [Act.put, *]; done))
  try dsimp only
  refine wpW_det (t' := ?ct4R295) 4 (by rfl) (by kernel_rfl) (NQ_free _) (by kernel_rfl) ?cw4R295 ?ch4R295 ?ca4R295 (Eq.refl _) ?cH4R295
  case cw4R295 => (go_simp; done)
  case ch4R295 =>
    intro ds w' hS K hK
    have hc := (bcell hS).1
    have hf := (bcell hS).2
    have hz := hS.size
    try simp at hz
    go_simp
    try go_bits
    first
      | exact hK _ hS (Gr.refl _)
      | exact hK _ (by repeat (first | (with_reducible exact Below.refl _ _) | (with_reducible assumption) | ((with_reducible refine Below.setCell ?_ ?_ _); rotate_left; · (first | exact Nat.le_refl _ | (simp; done) | (simp; omega) | omega)) | ((with_reducible refine Below.alloc ?_ ?_ _); rotate_left; · (first | exact Nat.le_refl _ | (simp; done) | (simp; omega) | omega)) | (with_reducible apply Below.drew) | (with_reducible apply below_drewN') | (refine Below.trans ?_ (Below.mono (by assumption) (by first | exact Nat.le_refl _ | (simp; done) | (simp; omega) | omega))) | exact Below.refl _ _ | assumption)) (by repeat (first | (with_reducible exact Below.refl _ _) | (with_reducible assumption) | ((with_reducible refine Below.setCell ?_ ?_ _); rotate_left; · (first | exact Nat.le_refl _ | (simp; done) | (simp; omega) | omega)) | ((with_reducible refine Below.alloc ?_ ?_ _); rotate_left; · (first | exact Nat.le_refl _ | (simp; done) | (simp; omega) | omega)) | (with_reducible apply Below.drew) | (with_reducible apply below_drewN') | (refine Below.trans ?_ (Below.mono (by assumption) (by first | exact Nat.le_refl _ | (simp; done) | (simp; omega) | omega))) | exact Below.refl _ _ | assumption))
  case ca4R295 => (first | (simp [Act.put]; done) | (simp [Act.put, *]; done))
  try dsimp only
  clear e0 e1 ef l4 b4
  refine wpW_branch [1] (by kernel_rfl) (by simp) ?_
  intro w1 hg1 hS1
  try replace k0 := k0.below hg1 (Nat.le_refl _)
  refine each_cons ?_ (each_nil)
  · refine wpOp_go (by rfl) (Eq.refl _) (by go_simp; done) ?_
    intro K hK
    go_simp
    try simp only [Act.put]
    refine (copyScans_any l A c B _ (HL.out _ hS1) hc (Nat.le_trans hB (Below.size hS1)) HN.out HD).mono ?_
    rintro e ws ⟨v, L, rfl, hcore, own, each, hBs⟩
    obtain ⟨D0, e0, rfl, k0⟩ := copiedS hcore own each (by omega) (fun s hs => by have := (HG.out s hs).short; omega)
    have hk0 := Nat.le_refl ws.heap.size
    refine hK _ _ (Gr.trans hS1 hBs) ?_
    clear hK K hBs own each
    refine wpW_branch [5] (by kernel_rfl) (by simp) ?_
    intro w2 hg2 hS2
    try replace k0 := k0.below hg2 (Nat.le_refl _)
    refine each_cons ?_ (each_nil)
    · refine wpOp_go (by rfl) (Eq.refl _) (by go_simp; done) ?_
      intro K hK
      go_simp
      try simp only [Act.put]
      refine (areasCap l L D0 e0 _ level _ hcore k0 (Below.size hg2) HG.out (by omega) HLV.out).mono ?_
      rintro e ws ⟨A', c', P, Bs, As, hAs, rfl, hP, hS', hAr, hcp, hBs⟩
      have HAS := Lib.hid hAs
      clear hAs
      refine hK _ _ (Gr.trans hS2 hBs) ?_
      clear hK K k0 hcore
      refine wpW_det (t' := ?ct6R296) 6 (by rfl) (by kernel_rfl) (NQ_free _) (by kernel_rfl) ?cw6R296 ?ch6R296 ?ca6R296 (Eq.refl _) ?cH6R296
      case cw6R296 => (go_simp; done)
      case ch6R296 =>
        intro ds w' hS K hK
        have hc := (bcell hS).1
        have hf := (bcell hS).2
        have hz := hS.size
        try simp at hz
        go_simp
        try go_bits
        first
          | exact hK _ hS (Gr.refl _)
          | exact hK _ (by repeat (first | (with_reducible exact Below.refl _ _) | (with_reducible assumption) | ((with_reducible refine Below.setCell ?_ ?_ _); rotate_left; · (first | exact Nat.le_refl _ | (simp; done) | (simp; omega) | omega)) | ((with_reducible refine Below.alloc ?_ ?_ _); rotate_left; · (first | exact Nat.le_refl _ | (simp; done) | (simp; omega) | omega)) | (with_reducible apply Below.drew) | (with_reducible apply below_drewN') | (refine Below.trans ?_ (Below.mono (by assumption) (by first | exact Nat.le_refl _ | (simp; done) | (simp; omega) | omega))) | exact Below.refl _ _ | assumption)) (by repeat (first | (with_reducible exact Below.refl _ _) | (with_reducible assumption) | ((with_reducible refine Below.setCell ?_ ?_ _); rotate_left; · (first | exact Nat.le_refl _ | (simp; done) | (simp; omega) | omega)) | ((with_reducible refine Below.alloc ?_ ?_ _); rotate_left; · (first | exact Nat.le_refl _ | (simp; done) | (simp; omega) | omega)) | (with_reducible apply Below.drew) | (with_reducible apply below_drewN') | (refine Below.trans ?_ (Below.mono (by assumption) (by first | exact Nat.le_refl _ | (simp; done) | (simp; omega) | omega))) | exact Below.refl _ _ | assumption))
      case ca6R296 => (first | (simp [Act.put]; done) | (simp [Act.put, *]; done))
      try dsimp only
      refine wpW_det (t' := ?ct7R296) 7 (by rfl) (by kernel_rfl) (NQ_free _) (by kernel_rfl) ?cw7R296 ?ch7R296 ?ca7R296 (Eq.refl _) ?cH7R296
      case cw7R296 => (go_simp; done)
      case ch7R296 =>
        intro ds w' hS K hK
        have hc := (bcell hS).1
        have hf := (bcell hS).2
        have hz := hS.size
        try simp at hz
        go_simp
        try go_bits
        first
          | exact hK _ hS (Gr.refl _)
          | exact hK _ (by repeat (first | (with_reducible exact Below.refl _ _) | (with_reducible assumption) | ((with_reducible refine Below.setCell ?_ ?_ _); rotate_left; · (first | exact Nat.le_refl _ | (simp; done) | (simp; omega) | omega)) | ((with_reducible refine Below.alloc ?_ ?_ _); rotate_left; · (first | exact Nat.le_refl _ | (simp; done) | (simp; omega) | omega)) | (with_reducible apply Below.drew) | (with_reducible apply below_drewN') | (refine Below.trans ?_ (Below.mono (by assumption) (by first | exact Nat.le_refl _ | (simp; done) | (simp; omega) | omega))) | exact Below.refl _ _ | assumption)) (by repeat (first | (with_reducible exact Below.refl _ _) | (with_reducible assumption) | ((with_reducible refine Below.setCell ?_ ?_ _); rotate_left; · (first | exact Nat.le_refl _ | (simp; done) | (simp; omega) | omega)) | ((with_reducible refine Below.alloc ?_ ?_ _); rotate_left; · (first | exact Nat.le_refl _ | (simp; done) | (simp; omega) | omega)) | (with_reducible apply Below.drew) | (with_reducible apply below_drewN') | (refine Below.trans ?_ (Below.mono (by assumption) (by first | exact Nat.le_refl _ | (simp; done) | (simp; omega) | omega))) | exact Below.refl _ _ | assumption))
      case ca7R296 => (first | (simp [Act.put]; done) | (simp [Act.put, *]; done))
      try dsimp only
      refine wpW_det (t' := ?ct9R296) 9 (by rfl) (by kernel_rfl) (NQ_free _) (by kernel_rfl) ?cw9R296 ?ch9R296 ?ca9R296 (Eq.refl _) ?cH9R296
      case cw9R296 => (go_simp; done)
      case ch9R296 =>
        intro ds w' hS K hK
        have hc := (bcell hS).1
        have hf := (bcell hS).2
        have hz := hS.size
        try simp at hz
        go_simp
        try go_bits
        first
          | exact hK _ hS (Gr.refl _)
          | exact hK _ (by repeat (first | (with_reducible exact Below.refl _ _) | (with_reducible assumption) | ((with_reducible refine Below.setCell ?_ ?_ _); rotate_left; · (first | exact Nat.le_refl _ | (simp; done) | (simp; omega) | omega)) | ((with_reducible refine Below.alloc ?_ ?_ _); rotate_left; · (first | exact Nat.le_refl _ | (simp; done) | (simp; omega) | omega)) | (with_reducible apply Below.drew) | (with_reducible apply below_drewN') | (refine Below.trans ?_ (Below.mono (by assumption) (by first | exact Nat.le_refl _ | (simp; done) | (simp; omega) | omega))) | exact Below.refl _ _ | assumption)) (by repeat (first | (with_reducible exact Below.refl _ _) | (with_reducible assumption) | ((with_reducible refine Below.setCell ?_ ?_ _); rotate_left; · (first | exact Nat.le_refl _ | (simp; done) | (simp; omega) | omega)) | ((with_reducible refine Below.alloc ?_ ?_ _); rotate_left; · (first | exact Nat.le_refl _ | (simp; done) | (simp; omega) | omega)) | (with_reducible apply Below.drew) | (with_reducible apply below_drewN') | (refine Below.trans ?_ (Below.mono (by assumption) (by first | exact Nat.le_refl _ | (simp; done) | (simp; omega) | omega))) | exact Below.refl _ _ | assumption))
      case ca9R296 => (first | (simp [Act.put]; done) | (simp [Act.put, *]; done))
      try dsimp only
      refine wpW_det (t' := ?ct8R296) 8 (by rfl) (by kernel_rfl) (NQ_free _) (by kernel_rfl) ?cw8R296 ?ch8R296 ?ca8R296 (Eq.refl _) ?cH8R296
      case cw8R296 => (go_simp; done)
      case ch8R296 =>
        intro ds w' hS K hK
        have hc := (bcell hS).1
        have hf := (bcell hS).2
        have hz := hS.size
        try simp at hz
        go_simp
        try go_bits
        first
          | exact hK _ hS (Gr.refl _)
          | exact hK _ (by repeat (first | (with_reducible exact Below.refl _ _) | (with_reducible assumption) | ((with_reducible refine Below.setCell ?_ ?_ _); rotate_left; · (first | exact Nat.le_refl _ | (simp; done) | (simp; omega) | omega)) | ((with_reducible refine Below.alloc ?_ ?_ _); rotate_left; · (first | exact Nat.le_refl _ | (simp; done) | (simp; omega) | omega)) | (with_reducible apply Below.drew) | (with_reducible apply below_drewN') | (refine Below.trans ?_ (Below.mono (by assumption) (by first | exact Nat.le_refl _ | (simp; done) | (simp; omega) | omega))) | exact Below.refl _ _ | assumption)) (by repeat (first | (with_reducible exact Below.refl _ _) | (with_reducible assumption) | ((with_reducible refine Below.setCell ?_ ?_ _); rotate_left; · (first | exact Nat.le_refl _ | (simp; done) | (simp; omega) | omega)) | ((with_reducible refine Below.alloc ?_ ?_ _); rotate_left; · (first | exact Nat.le_refl _ | (simp; done) | (simp; omega) | omega)) | (with_reducible apply Below.drew) | (with_reducible apply below_drewN') | (refine Below.trans ?_ (Below.mono (by assumption) (by first | exact Nat.le_refl _ | (simp; done) | (simp; omega) | omega))) | exact Below.refl _ _ | assumption))
      case ca8R296 => (first | (simp [Act.put]; done) | (simp [Act.put, *]; done))
      try dsimp only
      refine wpW_det (t' := ?ct10R296) 10 (by rfl) (by kernel_rfl) (NQ_free _) (by kernel_rfl) ?cw10R296 ?ch10R296 ?ca10R296 (Eq.refl _) ?cH10R296
      case cw10R296 => (go_simp; done)
      case ch10R296 =>
        intro ds w' hS K hK
        have hc := (bcell hS).1
        have hf := (bcell hS).2
        have hz := hS.size
        try simp at hz
        go_simp
        try go_bits
        first
          | exact hK _ hS (Gr.refl _)
          | exact hK _ (by repeat (first | (with_reducible exact Below.refl _ _) | (with_reducible assumption) | ((with_reducible refine Below.setCell ?_ ?_ _); rotate_left; · (first | exact Nat.le_refl _ | (simp; done) | (simp; omega) | omega)) | ((with_reducible refine Below.alloc ?_ ?_ _); rotate_left; · (first | exact Nat.le_refl _ | (simp; done) | (simp; omega) | omega)) | (with_reducible apply Below.drew) | (with_reducible apply below_drewN') | (refine Below.trans ?_ (Below.mono (by assumption) (by first | exact Nat.le_refl _ | (simp; done) | (simp; omega) | omega))) | exact Below.refl _ _ | assumption)) (by repeat (first | (with_reducible exact Below.refl _ _) | (with_reducible assumption) | ((with_reducible refine Below.setCell ?_ ?_ _); rotate_left; · (first | exact Nat.le_refl _ | (simp; done) | (simp; omega) | omega)) | ((with_reducible refine Below.alloc ?_ ?_ _); rotate_left; · (first | exact Nat.le_refl _ | (simp; done) | (simp; omega) | omega)) | (with_reducible apply Below.drew) | (with_reducible apply below_drewN') | (refine Below.trans ?_ (Below.mono (by assumption) (by first | exact Nat.le_refl _ | (simp; done) | (simp; omega) | omega))) | exact Below.refl _ _ | assumption))
      case ca10R296 => (first | (simp [Act.put]; done) | (simp [Act.put, *]; done))
      try dsimp only
      refine wpW_end (by kernel_rfl) ?_
      intro we hg hS
      unfold NQ
      dsimp only
      exact H.out (frA [(129, _), (130, _), (131, _), (132, _), (133, _), (134, _), (135, _), (136, _), (137, _)]) A' c' P Bs As we HAS.out hS hP hS' (ArsOk.more (hAr.below hg (Nat.le_refl _)) (Below.size hg)) hcp

set_option maxRecDepth 100000 in
set_option maxHeartbeats 32000000 in
theorem topReg25 (l : List Sc) (A : Option Addr) (c B z4 : Nat) (level : Int) (corners : Bool) {W : World} (HL : Hid (∀ w', Gr W w' → ScOk l A B w')) (hB : B ≤ W.heap.size) (hc : l.length ≤ c) (HN : Hid (A = none → c = 0)) (HD : Hid (∀ s ∈ l, s.data.length ≤ s.dcap ∧ (s.dA = none → s.dcap = 0))) (HG : Hid (∀ s ∈ l, ScGood s)) (hn : l.length ≤ 4) (HLV : Hid (levelE level = 0)) (b4 : Blk W z4 24 #[.int .i64 level, .bool corners]) {t1 t2 t3 t5 t6 t7 t8 t9 t10 t11 t12 t13 t14 t15 t16 t17 t18 t19 t20 t21 t22 t23 t24 t25 t26 t27 t28 t29 t30 t31 t32 t33 t34 t35 t36 t37 t38 t39 t40 t41 t42 t43 t44 t45 t46 t47 t48 t49 t50 t51 t52 t53 t54 t55 t56 t57 t58 t59 t60 t61 t62 t63 t64 t65 t66 t67 t68 t69 t70 t71 t72 t73 t74 t75 t76 t77 t78 t79 t80 t81 t82 t83 t84 t85 t86 t87 t88 t89 t90 t91 t92 t93 t94 t95 t96 t97 t98 t99 t100 t101 t102 t103 t104 t105 t106 t107 t108 t109 t110 t111 t112 t113 t114 t115 t116 t117 t118 t119 t120 t121 t122 t123 t124 t125 t126 t127 t128 t129 t130 t131 t132 t133 t134 t135 t136 t137 t138 t139 t140 t141 t142 t143 t144 t145 t146 t147 t148 t149 t150 t151 t152 t153 t154 t155 t156 t157 t158 t159 t160 t161 t162 t163 t164 t165 t166 t167 t168 t169 t170 t171 t172 t173 t174 t175 t176 t177 t178 t179 t180 t181 t182 t183 t184 t185 t186 t187 t188 t189 t190 t191 t192 t193 t194 t195 t196 t197 t198 t199 t200 t201 t202 t203 t204 t205 t206 t207 t208 t209 t210 t211 t212 t213 t214 t215 t216 t217 t218 t219 t220 t221 t222 t223 t224 t225 t226 t227 t228 t229 t230 t231 t232 t233 t234 t235 t236 t237 t238 t239 t240 t241 t242 t243 t244 t245 t246 t247 t248 t249 t250 t251 t252 t253 t254 t255 t256 t257 t258 t259 t260 t261 t262 t263 t264 : Value} {ds : List Deferred} (Q : Exit → Act → World → Prop)
    (h : ∀ (y : Nat → Value) (A' : Option Addr) (c' : Nat) (P : List (Int × Int)) (Bs : List ((Int × Int) × ArA)) (As : List ArA) (w' : World), Bs.map (·.2) = As → Gr W w' → Pls (atV l) level P → ArS (atV l) level true P P.length Bs → ArsOk (atV l) As A' w'.heap.size w' → (∀ a ∈ As, ∀ A c, a.1 = .slice A a.2.length c → a.2.length ≤ c ∧ (A = none → c = 0)) → Q .normal ⟨#[.slice A l.length c, t1, t2, t3, .pointer (some ⟨z4, 0, none⟩), t5, t6, t7, t8, t9, t10, t11, t12, t13, t14, t15, .slice A' As.length c', .int .i64 0, t18, t19, t20, t21, t22, t23, t24, t25, t26, t27, t28, t29, t30, t31, t32, t33, t34, t35, t36, t37, t38, t39, t40, t41, t42, t43, t44, t45, t46, t47, t48, t49, t50, t51, t52, t53, t54, t55, t56, t57, t58, t59, t60, t61, t62, t63, t64, t65, t66, t67, t68, t69, t70, t71, t72, t73, t74, t75, t76, t77, t78, t79, t80, t81, t82, t83, t84, t85, t86, t87, t88, t89, t90, t91, t92, t93, t94, t95, t96, t97, t98, t99, t100, t101, t102, t103, t104, t105, t106, t107, t108, t109, t110, t111, t112, t113, t114, t115, t116, t117, t118, t119, t120, t121, t122, t123, t124, t125, t126, t127, t128, y 129, y 130, y 131, y 132, y 133, y 134, y 135, y 136, y 137, t138, t139, t140, t141, t142, t143, t144, t145, t146, t147, t148, t149, t150, t151, t152, t153, t154, t155, t156, t157, t158, t159, t160, t161, t162, t163, t164, t165, t166, t167, t168, t169, t170, t171, t172, t173, t174, t175, t176, t177, t178, t179, t180, t181, t182, t183, t184, t185, t186, t187, t188, t189, t190, t191, t192, t193, t194, t195, t196, t197, t198, t199, t200, t201, t202, t203, t204, t205, t206, t207, t208, t209, t210, t211, t212, t213, t214, t215, t216, t217, t218, t219, t220, t221, t222, t223, t224, t225, t226, t227, t228, t229, t230, t231, t232, t233, t234, t235, t236, t237, t238, t239, t240, t241, t242, t243, t244, t245, t246, t247, t248, t249, t250, t251, t252, t253, t254, t255, t256, t257, t258, t259, t260, t261, t262, t263, t264], ds⟩ w') :
    (regOf Tryz.f3 25).wp Tryz.prog Q ⟨#[.slice A l.length c, t1, t2, t3, .pointer (some ⟨z4, 0, none⟩), t5, t6, t7, t8, t9, t10, t11, t12, t13, t14, t15, t16, t17, t18, t19, t20, t21, t22, t23, t24, t25, t26, t27, t28, t29, t30, t31, t32, t33, t34, t35, t36, t37, t38, t39, t40, t41, t42, t43, t44, t45, t46, t47, t48, t49, t50, t51, t52, t53, t54, t55, t56, t57, t58, t59, t60, t61, t62, t63, t64, t65, t66, t67, t68, t69, t70, t71, t72, t73, t74, t75, t76, t77, t78, t79, t80, t81, t82, t83, t84, t85, t86, t87, t88, t89, t90, t91, t92, t93, t94, t95, t96, t97, t98, t99, t100, t101, t102, t103, t104, t105, t106, t107, t108, t109, t110, t111, t112, t113, t114, t115, t116, t117, t118, t119, t120, t121, t122, t123, t124, t125, t126, t127, t128, t129, t130, t131, t132, t133, t134, t135, t136, t137, t138, t139, t140, t141, t142, t143, t144, t145, t146, t147, t148, t149, t150, t151, t152, t153, t154, t155, t156, t157, t158, t159, t160, t161, t162, t163, t164, t165, t166, t167, t168, t169, t170, t171, t172, t173, t174, t175, t176, t177, t178, t179, t180, t181, t182, t183, t184, t185, t186, t187, t188, t189, t190, t191, t192, t193, t194, t195, t196, t197, t198, t199, t200, t201, t202, t203, t204, t205, t206, t207, t208, t209, t210, t211, t212, t213, t214, t215, t216, t217, t218, t219, t220, t221, t222, t223, t224, t225, t226, t227, t228, t229, t230, t231, t232, t233, t234, t235, t236, t237, t238, t239, t240, t241, t242, t243, t244, t245, t246, t247, t248, t249, t250, t251, t252, t253, t254, t255, t256, t257, t258, t259, t260, t261, t262, t263, t264], ds⟩ W :=
  topReg25Z (z := (frA [(1, t1), (2, t2), (3, t3), (5, t5), (6, t6), (7, t7), (8, t8), (9, t9), (10, t10), (11, t11), (12, t12), (13, t13), (14, t14), (15, t15), (16, t16), (17, t17), (18, t18), (19, t19), (20, t20), (21, t21), (22, t22), (23, t23), (24, t24), (25, t25), (26, t26), (27, t27), (28, t28), (29, t29), (30, t30), (31, t31), (32, t32), (33, t33), (34, t34), (35, t35), (36, t36), (37, t37), (38, t38), (39, t39), (40, t40), (41, t41), (42, t42), (43, t43), (44, t44), (45, t45), (46, t46), (47, t47), (48, t48), (49, t49), (50, t50), (51, t51), (52, t52), (53, t53), (54, t54), (55, t55), (56, t56), (57, t57), (58, t58), (59, t59), (60, t60), (61, t61), (62, t62), (63, t63), (64, t64), (65, t65), (66, t66), (67, t67), (68, t68), (69, t69), (70, t70), (71, t71), (72, t72), (73, t73), (74, t74), (75, t75), (76, t76), (77, t77), (78, t78), (79, t79), (80, t80), (81, t81), (82, t82), (83, t83), (84, t84), (85, t85), (86, t86), (87, t87), (88, t88), (89, t89), (90, t90), (91, t91), (92, t92), (93, t93), (94, t94), (95, t95), (96, t96), (97, t97), (98, t98), (99, t99), (100, t100), (101, t101), (102, t102), (103, t103), (104, t104), (105, t105), (106, t106), (107, t107), (108, t108), (109, t109), (110, t110), (111, t111), (112, t112), (113, t113), (114, t114), (115, t115), (116, t116), (117, t117), (118, t118), (119, t119), (120, t120), (121, t121), (122, t122), (123, t123), (124, t124), (125, t125), (126, t126), (127, t127), (128, t128), (129, t129), (130, t130), (131, t131), (132, t132), (133, t133), (134, t134), (135, t135), (136, t136), (137, t137), (138, t138), (139, t139), (140, t140), (141, t141), (142, t142), (143, t143), (144, t144), (145, t145), (146, t146), (147, t147), (148, t148), (149, t149), (150, t150), (151, t151), (152, t152), (153, t153), (154, t154), (155, t155), (156, t156), (157, t157), (158, t158), (159, t159), (160, t160), (161, t161), (162, t162), (163, t163), (164, t164), (165, t165), (166, t166), (167, t167), (168, t168), (169, t169), (170, t170), (171, t171), (172, t172), (173, t173), (174, t174), (175, t175), (176, t176), (177, t177), (178, t178), (179, t179), (180, t180), (181, t181), (182, t182), (183, t183), (184, t184), (185, t185), (186, t186), (187, t187), (188, t188), (189, t189), (190, t190), (191, t191), (192, t192), (193, t193), (194, t194), (195, t195), (196, t196), (197, t197), (198, t198), (199, t199), (200, t200), (201, t201), (202, t202), (203, t203), (204, t204), (205, t205), (206, t206), (207, t207), (208, t208), (209, t209), (210, t210), (211, t211), (212, t212), (213, t213), (214, t214), (215, t215), (216, t216), (217, t217), (218, t218), (219, t219), (220, t220), (221, t221), (222, t222), (223, t223), (224, t224), (225, t225), (226, t226), (227, t227), (228, t228), (229, t229), (230, t230), (231, t231), (232, t232), (233, t233), (234, t234), (235, t235), (236, t236), (237, t237), (238, t238), (239, t239), (240, t240), (241, t241), (242, t242), (243, t243), (244, t244), (245, t245), (246, t246), (247, t247), (248, t248), (249, t249), (250, t250), (251, t251), (252, t252), (253, t253), (254, t254), (255, t255), (256, t256), (257, t257), (258, t258), (259, t259), (260, t260), (261, t261), (262, t262), (263, t263), (264, t264)])) l A c B z4 level corners HL hB hc HN HD HG hn HLV b4 Q h

end Go.Proofs.YtclpljbllnhhbaaGreat
