/- TopAreasInGroups: the marks of all cells (loop 2). A region of the law FlawClaims: the lists and pairs are copied and checked. The law TopAreasInGroups answers true. -/
import Derived.Test.YtclpljbllnhhbaaGreatZeFrE
import Derived.Test.YtclpljbllnhhbaaGreatZeFpR
import Derived.Test.YtclpljbllnhhbaaGreatZeFrK
import Derived.Test.YtclpljbllnhhbaaGreatZeFbE
import Derived.Test.YtclpljbllnhhbaaGreatZeFjF
import Derived.Test.YtclpljbllnhhbaaGreatZeFmC
import Derived.Test.YtclpljbllnhhbaaGreatZeFfE
import Derived.Test.YtclpljbllnhhbaaGreatZeFeB
namespace Go.Proofs.YtclpljbllnhhbaaGreat
open Go.RowKit

theorem mksC_push (ot : List Mk) (m : Mk) : mksC (ot ++ [m]) = mksC ot ++ (mkC m).toList := by simp [mksC]
theorem cell_six_new (w : World) (m : Mk) : ∀ j v, (mkC m).toList[j]? = some v → (w.alloc (.cells (mkC m) 46)).cell? ((⟨w.heap.size, 0, none⟩ : Addr).add j) = some v := by
  intro j v hj
  have hb := Blk.new w 46 (mkC m)
  match j, hj with
  | 0, hj => simp at hj; subst hj; exact hb.cell 0
  | 1, hj => simp at hj; subst hj; exact hb.cell 1
  | 2, hj => simp at hj; subst hj; exact hb.cell 2
  | 3, hj => simp at hj; subst hj; exact hb.cell 3
  | 4, hj => simp at hj; subst hj; exact hb.cell 4
  | 5, hj => simp at hj; subst hj; exact hb.cell 5
  | k + 6, hj => simp at hj

set_option maxRecDepth 100000 in
set_option maxHeartbeats 32000000 in
theorem topLoop1Z (l : List Sc) (A AC : Option Addr) (c cC B z5 : Nat) (C : List (Int × Int)) (d0 d1 : Int) {wr0 : World} (hl : ScOk l A B wr0) (hC : Row wr0 B 2 AC C.length (cellsC C)) (hB : B ≤ wr0.heap.size) (HG : Hid (∀ s ∈ l, ScGood s)) (HS : Hid (∀ x ∈ C, inS x ∧ atV l x.1 x.2 ≤ 1000000000)) (hn : C.length ≤ 20) (b5 : Blk wr0 z5 26 #[.int .i64 d0, .int .i64 d1]) (h0 : 1 ≤ d0 ∧ d0 ≤ 10000) (h1 : 1 ≤ d1 ∧ d1 ≤ 10000) {z : Nat → Value} {ds : List Deferred} (Q' : Exit → Act → World → Prop)
    (h : ∀ (y : Nat → Value) (v : Value) (w' : World), w'.ownsRow wr0.heap.size 46 6 v C.length (mksC (marksV (atV l) d0 d1 C)) → Gr wr0 w' → Q' (.exit 2) ⟨#[.slice A l.length c, z 1, z 2, z 3, z 4, .pointer (some ⟨z5, 0, none⟩), y 6, z 7, z 8, z 9, .slice AC C.length cC, v, y 12, y 13, y 14, y 15, z 16, z 17, z 18, z 19, z 20, z 21, z 22, z 23, z 24, z 25, z 26, z 27, z 28, z 29, z 30, z 31, z 32, z 33, z 34, z 35, z 36, z 37, z 38, z 39, z 40, z 41, z 42, z 43, z 44, z 45, z 46, z 47, z 48, z 49, z 50, z 51, z 52, z 53, z 54, z 55, z 56, z 57, z 58, z 59, z 60, z 61, z 62, z 63, z 64, z 65, z 66, z 67, z 68, z 69, z 70, z 71, z 72, z 73, z 74, z 75, z 76, z 77, z 78, z 79, z 80, z 81, z 82, z 83, z 84, z 85, z 86, z 87, z 88, z 89, z 90, y 91, y 92, y 93, y 94, y 95, y 96, y 97, y 98, y 99, y 100, y 101, y 102, y 103, y 104, y 105, y 106, y 107, y 108, y 109, y 110, y 111, y 112, y 113, y 114, y 115, y 116, y 117, y 118, y 119, y 120, y 121, y 122, y 123, y 124, y 125, y 126, y 127, y 128, z 129, z 130, z 131, z 132, z 133, z 134, z 135, z 136, z 137, z 138, z 139, z 140, z 141, z 142, z 143, z 144, z 145, z 146, z 147, z 148, z 149, z 150, z 151, z 152, z 153, z 154, z 155, z 156, z 157, z 158, z 159, z 160, z 161, z 162, z 163, z 164, z 165, z 166, z 167, z 168, z 169, z 170, z 171, z 172, z 173, z 174, z 175, z 176, z 177, z 178, z 179, z 180, z 181, z 182, z 183, z 184, z 185, z 186, z 187, z 188, z 189, z 190, z 191, z 192, z 193, z 194, z 195, z 196, z 197, z 198, z 199, z 200, z 201, z 202, z 203, z 204, z 205, z 206, z 207, z 208, z 209, z 210, z 211, z 212, z 213, z 214, z 215, z 216, z 217, z 218, z 219, z 220, z 221, z 222, z 223, z 224, z 225, z 226, z 227, z 228, z 229, z 230, z 231, z 232, z 233, z 234, z 235, z 236, z 237, z 238, z 239, z 240, z 241, z 242, z 243, z 244, z 245, z 246, z 247, z 248, z 249, z 250, z 251, z 252, z 253, z 254, z 255, z 256, z 257, z 258, z 259, z 260, z 261, z 262, z 263, z 264], ds⟩ w') :
    (Code.loop (bodyOf Tryz.f3 1)).wp Tryz.prog Q' ⟨#[.slice A l.length c, z 1, z 2, z 3, z 4, .pointer (some ⟨z5, 0, none⟩), z 6, z 7, z 8, z 9, .slice AC C.length cC, .slice none 0 0, .int .i64 0, z 13, z 14, z 15, z 16, z 17, z 18, z 19, z 20, z 21, z 22, z 23, z 24, z 25, z 26, z 27, z 28, z 29, z 30, z 31, z 32, z 33, z 34, z 35, z 36, z 37, z 38, z 39, z 40, z 41, z 42, z 43, z 44, z 45, z 46, z 47, z 48, z 49, z 50, z 51, z 52, z 53, z 54, z 55, z 56, z 57, z 58, z 59, z 60, z 61, z 62, z 63, z 64, z 65, z 66, z 67, z 68, z 69, z 70, z 71, z 72, z 73, z 74, z 75, z 76, z 77, z 78, z 79, z 80, z 81, z 82, z 83, z 84, z 85, z 86, z 87, z 88, z 89, z 90, z 91, z 92, z 93, z 94, z 95, z 96, z 97, z 98, z 99, z 100, z 101, z 102, z 103, z 104, z 105, z 106, z 107, z 108, z 109, z 110, z 111, z 112, z 113, z 114, z 115, z 116, z 117, z 118, z 119, z 120, z 121, z 122, z 123, z 124, z 125, z 126, z 127, z 128, z 129, z 130, z 131, z 132, z 133, z 134, z 135, z 136, z 137, z 138, z 139, z 140, z 141, z 142, z 143, z 144, z 145, z 146, z 147, z 148, z 149, z 150, z 151, z 152, z 153, z 154, z 155, z 156, z 157, z 158, z 159, z 160, z 161, z 162, z 163, z 164, z 165, z 166, z 167, z 168, z 169, z 170, z 171, z 172, z 173, z 174, z 175, z 176, z 177, z 178, z 179, z 180, z 181, z 182, z 183, z 184, z 185, z 186, z 187, z 188, z 189, z 190, z 191, z 192, z 193, z 194, z 195, z 196, z 197, z 198, z 199, z 200, z 201, z 202, z 203, z 204, z 205, z 206, z 207, z 208, z 209, z 210, z 211, z 212, z 213, z 214, z 215, z 216, z 217, z 218, z 219, z 220, z 221, z 222, z 223, z 224, z 225, z 226, z 227, z 228, z 229, z 230, z 231, z 232, z 233, z 234, z 235, z 236, z 237, z 238, z 239, z 240, z 241, z 242, z 243, z 244, z 245, z 246, z 247, z 248, z 249, z 250, z 251, z 252, z 253, z 254, z 255, z 256, z 257, z 258, z 259, z 260, z 261, z 262, z 263, z 264], ds⟩ wr0 := by
  have H := Lib.hid h; clear h
  obtain ⟨i0, hi, hz0, hz1, hz2⟩ := info_parts infoMark
  refine wp_loop_ghost (fun m a' wr => ∃ (y : Nat → Value) (v : Value) (k : Nat), a' = ⟨#[.slice A l.length c, z 1, z 2, z 3, z 4, .pointer (some ⟨z5, 0, none⟩), y 6, z 7, z 8, z 9, .slice AC C.length cC, v, .int .i64 (k : Int), y 13, y 14, y 15, z 16, z 17, z 18, z 19, z 20, z 21, z 22, z 23, z 24, z 25, z 26, z 27, z 28, z 29, z 30, z 31, z 32, z 33, z 34, z 35, z 36, z 37, z 38, z 39, z 40, z 41, z 42, z 43, z 44, z 45, z 46, z 47, z 48, z 49, z 50, z 51, z 52, z 53, z 54, z 55, z 56, z 57, z 58, z 59, z 60, z 61, z 62, z 63, z 64, z 65, z 66, z 67, z 68, z 69, z 70, z 71, z 72, z 73, z 74, z 75, z 76, z 77, z 78, z 79, z 80, z 81, z 82, z 83, z 84, z 85, z 86, z 87, z 88, z 89, z 90, y 91, y 92, y 93, y 94, y 95, y 96, y 97, y 98, y 99, y 100, y 101, y 102, y 103, y 104, y 105, y 106, y 107, y 108, y 109, y 110, y 111, y 112, y 113, y 114, y 115, y 116, y 117, y 118, y 119, y 120, y 121, y 122, y 123, y 124, y 125, y 126, y 127, y 128, z 129, z 130, z 131, z 132, z 133, z 134, z 135, z 136, z 137, z 138, z 139, z 140, z 141, z 142, z 143, z 144, z 145, z 146, z 147, z 148, z 149, z 150, z 151, z 152, z 153, z 154, z 155, z 156, z 157, z 158, z 159, z 160, z 161, z 162, z 163, z 164, z 165, z 166, z 167, z 168, z 169, z 170, z 171, z 172, z 173, z 174, z 175, z 176, z 177, z 178, z 179, z 180, z 181, z 182, z 183, z 184, z 185, z 186, z 187, z 188, z 189, z 190, z 191, z 192, z 193, z 194, z 195, z 196, z 197, z 198, z 199, z 200, z 201, z 202, z 203, z 204, z 205, z 206, z 207, z 208, z 209, z 210, z 211, z 212, z 213, z 214, z 215, z 216, z 217, z 218, z 219, z 220, z 221, z 222, z 223, z 224, z 225, z 226, z 227, z 228, z 229, z 230, z 231, z 232, z 233, z 234, z 235, z 236, z 237, z 238, z 239, z 240, z 241, z 242, z 243, z 244, z 245, z 246, z 247, z 248, z 249, z 250, z 251, z 252, z 253, z 254, z 255, z 256, z 257, z 258, z 259, z 260, z 261, z 262, z 263, z 264], ds⟩ ∧ m + k = C.length ∧ Gr wr0 wr ∧ wr.ownsRow wr0.heap.size 46 6 v k (mksC (marksV (atV l) d0 d1 (C.take k)))) C.length ⟨z, _, 0, rfl, by omega, Gr.refl _, World.ownsRow_nil _ _ _ _⟩ ?_
  rintro m a' wr ⟨y, v, k, rfl, hm, hG, hown⟩
  have hzg := Below.size hG
  conv in (bodyOf _ _) => whnf
  dsimp only
  by_cases hlt : k < C.length
  · have i1 : ((k : Int) < (C.length : Int)) := by omega
    obtain ⟨x, hx⟩ : ∃ x, C[k] = x := ⟨_, rfl⟩
    have hsx := HS.out C[k] (List.getElem_mem hlt)
    rw [hx] at hsx
    have HM : Hid (marksV (atV l) d0 d1 (C.take (k + 1)) = marksV (atV l) d0 d1 (C.take k) ++ [cellMk d0 d1 x (nmV k) (max 0 (atV l x.1 x.2))]) := Lib.hid (by
      rw [List.take_succ_eq_append_getElem hlt, hx, marksV_snoc, List.length_take, Nat.min_eq_left (by omega)])
    have hlv : 0 ≤ max 0 (atV l x.1 x.2) ∧ max 0 (atV l x.1 x.2) ≤ 1000000000 := by have := hsx.2; omega
    go_upto_region 20 with fail
    refine topReg20 l A AC c cC B C (Lib.hid fun w' h => hl.below (Gr.trans hG h) hB) (hC.below hG hB) (Nat.le_trans hB hzg) HG hlt x hx hsx.1 _ ?_
    intro y' q g4 w2 hg2 hq b13 rx
    go_upto_region 21 with fail
    refine topReg21 b13 (b5.gr (Gr.trans hG hg2)) rx (by omega) hsx.1 h0 h1 hlv _ ?_
    intro y'' q14 w3 hg3 hq14 b14
    have hg23 := Gr.trans hg2 hg3
    have own3 := own_below hown hg23
    have hG3 := Gr.trans hG hg23
    generalize cellMk d0 d1 x (nmV k) (max 0 (atV l x.1 x.2)) = mk at *
    clear b13 rx hg2 hg3 hg23 hown hsx hlv
    obtain ⟨e0, e1, e2, e3, e4, e5, ef⟩ := blk6 b14
    have l14 := b14.lt
    have hz3 := Below.size hG3
    have hal : Gr w3 (w3.alloc (.cells (mkC mk) 46)) := (Below.refl _ _).alloc (Nat.le_refl _) _
    go_wp2_with (at_builtin; refine wpList_append_own _ rfl _ _ 38 rfl wr0.heap.size 46 i0 (.agg #[.string ⟨#[]⟩, .int .i64 0, .int .i64 0, .int .i64 0, .int .i64 0, .int .i64 0]) 6 56 Tryz.underlying38 hi hz0 hz1 hz2 rfl (by decide) _ _ _ rfl (own3.alloc _) ⟨w3.heap.size, 0, none⟩ 1 1 (mkC mk).toList rfl rfl (cell_six_new w3 mk) (by simp [Value.oneCell']) (by unfold maxLen; omega) (by omega) (by simp; omega) ?_; intro v2 W5 hown' hgrow _)
    have hGa := Gr.trans hG3 hal
    have hG5 : Gr wr0 W5 := Below.grown hGa hgrow (Below.size hGa) (fun r e => ((own3.alloc (.cells (mkC mk) 46)).lt r e).1)
    exact ⟨m - 1, by omega, (frA [(6, _), (13, _), (14, _), (15, _), (91, _), (92, _), (93, _), (94, _), (95, _), (96, _), (97, _), (98, _), (99, _), (100, _), (101, _), (102, _), (103, _), (104, _), (105, _), (106, _), (107, _), (108, _), (109, _), (110, _), (111, _), (112, _), (113, _), (114, _), (115, _), (116, _), (117, _), (118, _), (119, _), (120, _), (121, _), (122, _), (123, _), (124, _), (125, _), (126, _), (127, _), (128, _)]), v2, k + 1, (by first | rfl | ((repeat (refine And.intro rfl ?_)); rfl)), by omega, hG5, (by rw [HM.out, mksC_push]; exact hown')⟩
  · obtain rfl : k = C.length := by omega
    rw [List.take_length] at hown
    go_wp2
    exact H.out (frA [(6, _), (12, _), (13, _), (14, _), (15, _), (91, _), (92, _), (93, _), (94, _), (95, _), (96, _), (97, _), (98, _), (99, _), (100, _), (101, _), (102, _), (103, _), (104, _), (105, _), (106, _), (107, _), (108, _), (109, _), (110, _), (111, _), (112, _), (113, _), (114, _), (115, _), (116, _), (117, _), (118, _), (119, _), (120, _), (121, _), (122, _), (123, _), (124, _), (125, _), (126, _), (127, _), (128, _)]) _ wr hown hG

set_option maxRecDepth 100000 in
set_option maxHeartbeats 32000000 in
theorem topLoop1 (l : List Sc) (A AC : Option Addr) (c cC B z5 : Nat) (C : List (Int × Int)) (d0 d1 : Int) {wr0 : World} (hl : ScOk l A B wr0) (hC : Row wr0 B 2 AC C.length (cellsC C)) (hB : B ≤ wr0.heap.size) (HG : Hid (∀ s ∈ l, ScGood s)) (HS : Hid (∀ x ∈ C, inS x ∧ atV l x.1 x.2 ≤ 1000000000)) (hn : C.length ≤ 20) (b5 : Blk wr0 z5 26 #[.int .i64 d0, .int .i64 d1]) (h0 : 1 ≤ d0 ∧ d0 ≤ 10000) (h1 : 1 ≤ d1 ∧ d1 ≤ 10000) {t1 t2 t3 t4 t6 t7 t8 t9 t13 t14 t15 t16 t17 t18 t19 t20 t21 t22 t23 t24 t25 t26 t27 t28 t29 t30 t31 t32 t33 t34 t35 t36 t37 t38 t39 t40 t41 t42 t43 t44 t45 t46 t47 t48 t49 t50 t51 t52 t53 t54 t55 t56 t57 t58 t59 t60 t61 t62 t63 t64 t65 t66 t67 t68 t69 t70 t71 t72 t73 t74 t75 t76 t77 t78 t79 t80 t81 t82 t83 t84 t85 t86 t87 t88 t89 t90 t91 t92 t93 t94 t95 t96 t97 t98 t99 t100 t101 t102 t103 t104 t105 t106 t107 t108 t109 t110 t111 t112 t113 t114 t115 t116 t117 t118 t119 t120 t121 t122 t123 t124 t125 t126 t127 t128 t129 t130 t131 t132 t133 t134 t135 t136 t137 t138 t139 t140 t141 t142 t143 t144 t145 t146 t147 t148 t149 t150 t151 t152 t153 t154 t155 t156 t157 t158 t159 t160 t161 t162 t163 t164 t165 t166 t167 t168 t169 t170 t171 t172 t173 t174 t175 t176 t177 t178 t179 t180 t181 t182 t183 t184 t185 t186 t187 t188 t189 t190 t191 t192 t193 t194 t195 t196 t197 t198 t199 t200 t201 t202 t203 t204 t205 t206 t207 t208 t209 t210 t211 t212 t213 t214 t215 t216 t217 t218 t219 t220 t221 t222 t223 t224 t225 t226 t227 t228 t229 t230 t231 t232 t233 t234 t235 t236 t237 t238 t239 t240 t241 t242 t243 t244 t245 t246 t247 t248 t249 t250 t251 t252 t253 t254 t255 t256 t257 t258 t259 t260 t261 t262 t263 t264 : Value} {ds : List Deferred} (Q' : Exit → Act → World → Prop)
    (h : ∀ (y : Nat → Value) (v : Value) (w' : World), w'.ownsRow wr0.heap.size 46 6 v C.length (mksC (marksV (atV l) d0 d1 C)) → Gr wr0 w' → Q' (.exit 2) ⟨#[.slice A l.length c, t1, t2, t3, t4, .pointer (some ⟨z5, 0, none⟩), y 6, t7, t8, t9, .slice AC C.length cC, v, y 12, y 13, y 14, y 15, t16, t17, t18, t19, t20, t21, t22, t23, t24, t25, t26, t27, t28, t29, t30, t31, t32, t33, t34, t35, t36, t37, t38, t39, t40, t41, t42, t43, t44, t45, t46, t47, t48, t49, t50, t51, t52, t53, t54, t55, t56, t57, t58, t59, t60, t61, t62, t63, t64, t65, t66, t67, t68, t69, t70, t71, t72, t73, t74, t75, t76, t77, t78, t79, t80, t81, t82, t83, t84, t85, t86, t87, t88, t89, t90, y 91, y 92, y 93, y 94, y 95, y 96, y 97, y 98, y 99, y 100, y 101, y 102, y 103, y 104, y 105, y 106, y 107, y 108, y 109, y 110, y 111, y 112, y 113, y 114, y 115, y 116, y 117, y 118, y 119, y 120, y 121, y 122, y 123, y 124, y 125, y 126, y 127, y 128, t129, t130, t131, t132, t133, t134, t135, t136, t137, t138, t139, t140, t141, t142, t143, t144, t145, t146, t147, t148, t149, t150, t151, t152, t153, t154, t155, t156, t157, t158, t159, t160, t161, t162, t163, t164, t165, t166, t167, t168, t169, t170, t171, t172, t173, t174, t175, t176, t177, t178, t179, t180, t181, t182, t183, t184, t185, t186, t187, t188, t189, t190, t191, t192, t193, t194, t195, t196, t197, t198, t199, t200, t201, t202, t203, t204, t205, t206, t207, t208, t209, t210, t211, t212, t213, t214, t215, t216, t217, t218, t219, t220, t221, t222, t223, t224, t225, t226, t227, t228, t229, t230, t231, t232, t233, t234, t235, t236, t237, t238, t239, t240, t241, t242, t243, t244, t245, t246, t247, t248, t249, t250, t251, t252, t253, t254, t255, t256, t257, t258, t259, t260, t261, t262, t263, t264], ds⟩ w') :
    (Code.loop (bodyOf Tryz.f3 1)).wp Tryz.prog Q' ⟨#[.slice A l.length c, t1, t2, t3, t4, .pointer (some ⟨z5, 0, none⟩), t6, t7, t8, t9, .slice AC C.length cC, .slice none 0 0, .int .i64 0, t13, t14, t15, t16, t17, t18, t19, t20, t21, t22, t23, t24, t25, t26, t27, t28, t29, t30, t31, t32, t33, t34, t35, t36, t37, t38, t39, t40, t41, t42, t43, t44, t45, t46, t47, t48, t49, t50, t51, t52, t53, t54, t55, t56, t57, t58, t59, t60, t61, t62, t63, t64, t65, t66, t67, t68, t69, t70, t71, t72, t73, t74, t75, t76, t77, t78, t79, t80, t81, t82, t83, t84, t85, t86, t87, t88, t89, t90, t91, t92, t93, t94, t95, t96, t97, t98, t99, t100, t101, t102, t103, t104, t105, t106, t107, t108, t109, t110, t111, t112, t113, t114, t115, t116, t117, t118, t119, t120, t121, t122, t123, t124, t125, t126, t127, t128, t129, t130, t131, t132, t133, t134, t135, t136, t137, t138, t139, t140, t141, t142, t143, t144, t145, t146, t147, t148, t149, t150, t151, t152, t153, t154, t155, t156, t157, t158, t159, t160, t161, t162, t163, t164, t165, t166, t167, t168, t169, t170, t171, t172, t173, t174, t175, t176, t177, t178, t179, t180, t181, t182, t183, t184, t185, t186, t187, t188, t189, t190, t191, t192, t193, t194, t195, t196, t197, t198, t199, t200, t201, t202, t203, t204, t205, t206, t207, t208, t209, t210, t211, t212, t213, t214, t215, t216, t217, t218, t219, t220, t221, t222, t223, t224, t225, t226, t227, t228, t229, t230, t231, t232, t233, t234, t235, t236, t237, t238, t239, t240, t241, t242, t243, t244, t245, t246, t247, t248, t249, t250, t251, t252, t253, t254, t255, t256, t257, t258, t259, t260, t261, t262, t263, t264], ds⟩ wr0 :=
  topLoop1Z (z := (frA [(1, t1), (2, t2), (3, t3), (4, t4), (6, t6), (7, t7), (8, t8), (9, t9), (13, t13), (14, t14), (15, t15), (16, t16), (17, t17), (18, t18), (19, t19), (20, t20), (21, t21), (22, t22), (23, t23), (24, t24), (25, t25), (26, t26), (27, t27), (28, t28), (29, t29), (30, t30), (31, t31), (32, t32), (33, t33), (34, t34), (35, t35), (36, t36), (37, t37), (38, t38), (39, t39), (40, t40), (41, t41), (42, t42), (43, t43), (44, t44), (45, t45), (46, t46), (47, t47), (48, t48), (49, t49), (50, t50), (51, t51), (52, t52), (53, t53), (54, t54), (55, t55), (56, t56), (57, t57), (58, t58), (59, t59), (60, t60), (61, t61), (62, t62), (63, t63), (64, t64), (65, t65), (66, t66), (67, t67), (68, t68), (69, t69), (70, t70), (71, t71), (72, t72), (73, t73), (74, t74), (75, t75), (76, t76), (77, t77), (78, t78), (79, t79), (80, t80), (81, t81), (82, t82), (83, t83), (84, t84), (85, t85), (86, t86), (87, t87), (88, t88), (89, t89), (90, t90), (91, t91), (92, t92), (93, t93), (94, t94), (95, t95), (96, t96), (97, t97), (98, t98), (99, t99), (100, t100), (101, t101), (102, t102), (103, t103), (104, t104), (105, t105), (106, t106), (107, t107), (108, t108), (109, t109), (110, t110), (111, t111), (112, t112), (113, t113), (114, t114), (115, t115), (116, t116), (117, t117), (118, t118), (119, t119), (120, t120), (121, t121), (122, t122), (123, t123), (124, t124), (125, t125), (126, t126), (127, t127), (128, t128), (129, t129), (130, t130), (131, t131), (132, t132), (133, t133), (134, t134), (135, t135), (136, t136), (137, t137), (138, t138), (139, t139), (140, t140), (141, t141), (142, t142), (143, t143), (144, t144), (145, t145), (146, t146), (147, t147), (148, t148), (149, t149), (150, t150), (151, t151), (152, t152), (153, t153), (154, t154), (155, t155), (156, t156), (157, t157), (158, t158), (159, t159), (160, t160), (161, t161), (162, t162), (163, t163), (164, t164), (165, t165), (166, t166), (167, t167), (168, t168), (169, t169), (170, t170), (171, t171), (172, t172), (173, t173), (174, t174), (175, t175), (176, t176), (177, t177), (178, t178), (179, t179), (180, t180), (181, t181), (182, t182), (183, t183), (184, t184), (185, t185), (186, t186), (187, t187), (188, t188), (189, t189), (190, t190), (191, t191), (192, t192), (193, t193), (194, t194), (195, t195), (196, t196), (197, t197), (198, t198), (199, t199), (200, t200), (201, t201), (202, t202), (203, t203), (204, t204), (205, t205), (206, t206), (207, t207), (208, t208), (209, t209), (210, t210), (211, t211), (212, t212), (213, t213), (214, t214), (215, t215), (216, t216), (217, t217), (218, t218), (219, t219), (220, t220), (221, t221), (222, t222), (223, t223), (224, t224), (225, t225), (226, t226), (227, t227), (228, t228), (229, t229), (230, t230), (231, t231), (232, t232), (233, t233), (234, t234), (235, t235), (236, t236), (237, t237), (238, t238), (239, t239), (240, t240), (241, t241), (242, t242), (243, t243), (244, t244), (245, t245), (246, t246), (247, t247), (248, t248), (249, t249), (250, t250), (251, t251), (252, t252), (253, t253), (254, t254), (255, t255), (256, t256), (257, t257), (258, t258), (259, t259), (260, t260), (261, t261), (262, t262), (263, t263), (264, t264)])) l A AC c cC B z5 C d0 d1 hl hC hB HG HS hn b5 h0 h1 Q' h

end Go.Proofs.YtclpljbllnhhbaaGreat

namespace Go.Proofs.YtclpljbllnhhbaaGreat
open Go.RowKit

theorem own_mk {w : World} {base : Nat} {D : Option Addr} {d : Nat} {l : List Mk} (h : w.ownsRow base 46 6 (.slice D l.length d) l.length (mksC l)) (hl : l.length ≤ 1000000000) (hs : ∀ m ∈ l, m.nm.size ≤ 1000000000000) : MkOk l D w.heap.size w := by
  obtain ⟨A, c, e, m, _⟩ := copied h hl hs
  have e1 := Value.slice.inj e
  rw [e1.1]; exact m

end Go.Proofs.YtclpljbllnhhbaaGreat

namespace Go.Proofs.YtclpljbllnhhbaaGreat
open Go.RowKit

theorem ScOk.more' {l : List Sc} {A : Option Addr} {B B' : Nat} {w : World} (h : ScOk l A B w) (hB : B ≤ B') : ScOk l A B' w := ⟨h.len, h.row.more hB, h.size, fun s hs => (h.data s hs).more hB⟩
theorem own_rowC {w : World} {base e size n c : Nat} {A : Option Addr} {xs : List Value} (h : w.ownsRow base e size (.slice A n c) n xs) : Row w w.heap.size size A n xs := by
  obtain ⟨A', c', hv, a, _, _⟩ := own_row2 h
  have e1 := Value.slice.inj hv
  obtain ⟨rfl, _, rfl⟩ := e1
  exact a
theorem level_okT {level : Int} (h : levelE level = 0) : 0 ≤ level := by
  unfold levelE unlessE at h
  cases hw : wi level 0 1000000000
  · rw [hw] at h; simp at h
  · simp [wi] at hw; omega
theorem ruT_w : W64 ruT.num ∧ W64 ruT.den := ⟨(by unfold W64; exact ⟨by decide, by decide⟩), (by unfold W64; exact ⟨by decide, by decide⟩)⟩
structure GrT (V W : World) : Prop where
  g : Gr V W
theorem GrT.below {V W W' : World} {C : Nat} (h : GrT V W) (hb : Below C W W') (hC : V.heap.size ≤ C) : GrT V W' := ⟨Below.trans h.g (hb.mono hC)⟩
theorem GrT.base {V W : World} (h : GrT V W) : V.heap.size ≤ W.heap.size := Below.size h.g
theorem small_cells {l : List Sc} {level : Int} {C : List (Int × Int)} (hP : Pls (atV l) level C) (hg : ∀ s ∈ l, ScGood s) (hs : ∀ s ∈ l, smB s = true) : ∀ x ∈ C, inS x ∧ atV l x.1 x.2 ≤ 1000000000 := by
  intro x hx
  have h0 := ((abv_iff _ _ _ _).1 ((hP.mem x).1 hx)).1
  obtain ⟨s, hsl, hin⟩ := known_in h0
  have h1 := hs s hsl
  have h2 := (hg s hsl).rows
  have h3 := (hg s hsl).cols
  unfold smB wi at h1
  unfold inB wi at hin
  simp only [Bool.and_eq_true, decide_eq_true_eq] at h1 hin
  refine ⟨by unfold inS; omega, (atV_bd hg x.1 x.2).2⟩

set_option maxRecDepth 100000 in
set_option maxHeartbeats 32000000 in
theorem topAreas_any (l : List Sc) (A : Option Addr) (c : Nat) (level : Int) (corners : Bool) (d0 d1 : Int) (w : World) (ha : ScArg l A c w) :
    Calls Tryz.prog 3 #[.slice A l.length c, .agg #[.int .i64 level, .bool corners], .agg #[.int .i64 d0, .int .i64 d1]] w fun e w' => e = .returned (.bool true) ∧ Below w.heap.size w w' := by
  have b4 := (Blk.new w 24 #[.int .i64 level, .bool corners]).alloc (.cells #[.int .i64 d0, .int .i64 d1] 26)
  have b5 := Blk.new (w.alloc (.cells #[.int .i64 level, .bool corners] 24)) 26 #[.int .i64 d0, .int .i64 d1]
  have hBB : Below w.heap.size w ((w.alloc (.cells #[.int .i64 level, .bool corners] 24)).alloc (.cells #[.int .i64 d0, .int .i64 d1] 26)) := (by repeat (first | (with_reducible exact Below.refl _ _) | (with_reducible assumption) | ((with_reducible refine Below.setCell ?_ ?_ _); rotate_left; · (first | exact Nat.le_refl _ | (simp; done) | (simp; omega) | omega)) | ((with_reducible refine Below.alloc ?_ ?_ _); rotate_left; · (first | exact Nat.le_refl _ | (simp; done) | (simp; omega) | omega)) | (with_reducible apply Below.drew) | (with_reducible apply below_drewN') | (refine Below.trans ?_ (Below.mono (by assumption) (by first | exact Nat.le_refl _ | (simp; done) | (simp; omega) | omega))) | exact Below.refl _ _ | assumption))
  simp only [World.size_alloc] at b5
  go_enter Tryz.func3, Tryz.ntmps3
  go_wp2_with fail
  obtain ⟨W, hW⟩ : ∃ W, (w.alloc (.cells #[.int .i64 level, .bool corners] 24)).alloc (.cells #[.int .i64 d0, .int .i64 d1] 26) = W := ⟨_, rfl⟩
  rw [hW] at b4 b5 hBB ⊢
  clear hW
  refine (flawed_any _).mono ?_
  rintro e w1 ⟨rfl, hB1⟩
  replace b4 := b4.gr hB1
  replace b5 := b5.gr hB1
  replace hBB := hBB.trans (hB1.mono (Below.size hBB))
  clear hB1
  have l_b4 := b4.lt
  obtain ⟨e0, e1, f4⟩ := blk2c b4
  have l_b5 := b5.lt
  obtain ⟨g0, g1, f5⟩ := blk2c b5
  by_cases h4 : (4 : Int) < (l.length : Int)
  · go_wp2
    go_ret
    exact ⟨rfl, hBB⟩
  go_wp2_with fail
  refine (refCheckGrid_any d0 d1 _).mono ?_
  rintro e wc1 ⟨rfl, hBc1⟩
  replace b4 := b4.gr hBc1
  replace b5 := b5.gr hBc1
  replace hBB := hBB.trans (Below.mono hBc1 (Below.size hBB))
  clear hBc1
  clear l_b4 e0 e1 f4 l_b5 g0 g1 f5
  have l_b4 := b4.lt
  have l_b5 := b5.lt
  obtain ⟨e0, e1, f4⟩ := blk2c b4
  obtain ⟨g0, g1, f5⟩ := blk2c b5
  by_cases hg : gridE d0 d1 = 0
  case neg =>
    have hg' : (gridE d0 d1 != 0) = true := by simpa using hg
    go_wp2
    go_ret
    exact ⟨rfl, hBB⟩
  rw [hg]
  go_wp2_with fail
  refine (refAskErr_any level corners _).mono ?_
  rintro e wc2 ⟨rfl, hBc2⟩
  replace b4 := b4.gr hBc2
  replace b5 := b5.gr hBc2
  replace hBB := hBB.trans (Below.mono hBc2 (Below.size hBB))
  clear hBc2
  clear l_b4 e0 e1 f4 l_b5 g0 g1 f5
  have l_b4 := b4.lt
  have l_b5 := b5.lt
  obtain ⟨e0, e1, f4⟩ := blk2c b4
  obtain ⟨g0, g1, f5⟩ := blk2c b5
  by_cases hv : levelE level = 0
  case neg =>
    have hv' : (levelE level != 0) = true := by simpa using hv
    go_wp2
    go_ret
    exact ⟨rfl, hBB⟩
  rw [hv]
  obtain ⟨hd0, hd1⟩ := gridE_zero hg
  have HLV := Lib.hid hv
  have hlv : 0 ≤ level := level_okT hv
  clear hg hv
  go_wp2_with fail
  have hl := topLoop0 (c := c) (ha.row.below hBB (Nat.le_refl _)) (Below.size hBB)
  unfold bodyOf at hl
  conv at hl in (Option.getD _ Code.skip) => whnf
  refine hl (by omega) _ ?_ ?_
  · clear hl
    intro t7 t46 t47 t48 t49 t50 t51 t52 t53 t54 t55 t56 t57 t58 t59 t60 t61 t62 t63 t64 t65 t66 t67 t68 t69 t70 t71 t72 t73 t74 t75 t76 w2 hG2
    go_wp2
    go_ret
    exact ⟨rfl, hBB.trans (hG2.mono (Below.size hBB))⟩
  clear hl
  intro t7 t46 t47 t48 t49 t50 t51 t52 t53 t54 t55 t56 t57 t58 t59 t60 t61 t62 t63 t64 t65 t66 t67 t68 t69 t70 t71 t72 t73 t74 t75 t76 w2 hsm hG2
  have HSM := Lib.hid hsm
  have hok : ScOk l A w.heap.size w := ⟨by omega, ha.row, fun s hs => by have := hsm s hs; unfold smB at this; simp at this; omega, fun s hs => (ha.each s hs).2.1⟩
  have HD : Hid (∀ s ∈ l, s.data.length ≤ s.dcap ∧ (s.dA = none → s.dcap = 0)) := Lib.hid fun s hs => ⟨(ha.each s hs).2.2.1, (ha.each s hs).1⟩
  clear l_b4 e0 e1 f4 l_b5 g0 g1 f5
  replace b4 := b4.gr hG2
  replace b5 := b5.gr hG2
  replace hBB := hBB.trans (hG2.mono (Below.size hBB))
  clear hG2 hsm
  have l_b4 := b4.lt
  have l_b5 := b5.lt
  obtain ⟨e0, e1, f4⟩ := blk2c b4
  obtain ⟨g0, g1, f5⟩ := blk2c b5
  go_wp2_with fail
  refine (refCheckScans_any l A c w.heap.size _ (hok.below hBB (Nat.le_refl _)) (Below.size hBB)).mono ?_
  rintro e wc3 ⟨rfl, hBc3⟩
  replace b4 := b4.gr hBc3
  replace b5 := b5.gr hBc3
  replace hBB := hBB.trans (Below.mono hBc3 (Below.size hBB))
  clear hBc3
  clear l_b4 e0 e1 f4 l_b5 g0 g1 f5
  have l_b4 := b4.lt
  have l_b5 := b5.lt
  obtain ⟨e0, e1, f4⟩ := blk2c b4
  obtain ⟨g0, g1, f5⟩ := blk2c b5
  by_cases hs : (scansE l).2 = 0
  case neg =>
    have hs' : ((scansE l).2 != 0) = true := by simpa using hs
    go_wp2
    go_ret
    exact ⟨rfl, hBB⟩
  rw [hs]
  have HG : Hid (∀ s ∈ l, ScGood s) := Lib.hid (scansE_zero hs).2
  clear hs
  go_wp2_with fail
  refine (cells_any l A c w.heap.size level _ (hok.below hBB (Nat.le_refl _)) (Below.size hBB) HG hlv (by omega)).mono ?_
  rintro e wc4 ⟨vC, C, rfl, hP, hCl, hown, hBc4⟩
  replace b4 := b4.gr hBc4
  replace b5 := b5.gr hBc4
  replace hBB := hBB.trans (Below.mono hBc4 (Below.size hBB))
  clear hBc4
  clear l_b4 e0 e1 f4 l_b5 g0 g1 f5
  have l_b4 := b4.lt
  have l_b5 := b5.lt
  obtain ⟨e0, e1, f4⟩ := blk2c b4
  obtain ⟨g0, g1, f5⟩ := blk2c b5
  obtain ⟨AC, cC, rfl⟩ := own_sliceT hown
  by_cases h20 : (20 : Int) < (C.length : Int)
  · go_wp2
    go_ret
    exact ⟨rfl, hBB⟩
  have HS := Lib.hid (small_cells hP HG.out HSM.out)
  have HPL := Lib.hid hP
  have HOC := Lib.hid hown
  have hJC : Gr wc4 wc4 := Gr.refl _
  clear hP
  go_wp2_with fail
  have hl := topLoop1 l A AC c cC wc4.heap.size (w.heap.size + 1) C d0 d1 ((hok.below hBB (Nat.le_refl _)).more' (Below.size hBB)) (own_rowC hown) (Nat.le_refl _) HG HS (by omega) b5 hd0
  unfold bodyOf at hl
  conv at hl in (Option.getD _ Code.skip) => whnf
  refine hl hd1 _ ?_
  clear hl hown
  intro y1 vM w3 hmk hG3
  clear l_b4 e0 e1 f4 l_b5 g0 g1 f5
  replace b4 := b4.gr hG3
  replace b5 := b5.gr hG3
  replace hBB := hBB.trans (hG3.mono (Below.size hBB))
  replace hJC := Gr.trans hJC hG3
  clear hG3
  have hML := marksV_len (atV l) d0 d1 C
  have HMK : Hid (marksE (marksV (atV l) d0 d1 C) = (0, 0)) := Lib.hid (marksV_ok (by omega) (fun x hx => (HS.out x hx).1) (fun x hx => (HS.out x hx).2) hd0 hd1)
  rw [← hML] at hmk
  obtain ⟨AM, cM, rfl⟩ := own_sliceT hmk
  have HOM := Lib.hid hmk
  have hJM : Gr w3 w3 := Gr.refl _
  clear hmk
  have hMN : ∀ m ∈ marksV (atV l) d0 d1 C, m.nm.size ≤ 1000000000000 := fun m hm => by
    obtain ⟨j, hj, rfl⟩ := List.getElem_of_mem hm
    have hjc : j < C.length := by omega
    have e := marksV_at (atV l) d0 d1 C j C[j] (List.getElem?_eq_getElem hjc)
    rw [List.getElem?_eq_getElem hj] at e
    rw [Option.some.inj e]
    have := nmV_size j (by omega)
    show (nmV j).size ≤ _
    omega
  have HMN := Lib.hid hMN
  clear hMN
  go_upto_region 25 with fail
  refine topReg25 l A c w3.heap.size w.heap.size level corners (Lib.hid fun w' h => ((hok.below (hBB.trans (h.mono (Below.size hBB))) (Nat.le_refl _)).more' (Below.size hBB))) (Nat.le_refl _) ha.le (Lib.hid ha.nil) HD HG (by omega) HLV b4 _ ?_
  intro y2 AA cA P Bs As w4 hAs hG4 hP hS hAr hcap
  obtain rfl : P = C := hP.eq HPL.out
  have HPS := Lib.hid hS
  have HAS := Lib.hid hAs
  have HCAP := Lib.hid hcap
  have hsub : Bs.length ≤ P.length := by
    have h1 : (Bs.map (·.1)).Sublist P := by have := hS.sub; rwa [List.take_length] at this
    simpa using h1.length_le
  have hAn : As.length ≤ 1000000 := by rw [← hAs, List.length_map]; omega
  replace b4 := b4.gr hG4
  replace b5 := b5.gr hG4
  replace hBB := hBB.trans (hG4.mono (Below.size hBB))
  have jC : GrT _ w4 := ⟨Gr.trans hJC hG4⟩
  have jM : GrT _ w4 := ⟨Gr.trans hJM hG4⟩
  have jA : GrT w4 w4 := ⟨Gr.refl _⟩
  clear hG4 hP hS hAs hcap hJC hJM
  have HAR := Lib.hid hAr
  clear hAr
  have HDA : Hid (ResG (marksV (atV l) d0 d1 P) ruT = ResG (marksV (atV l) d0 d1 P) ruT) := Lib.hid rfl
  obtain ⟨L, hL⟩ : ∃ L, marksV (atV l) d0 d1 P = L := ⟨_, rfl⟩
  rw [hL] at HOM HMK HMN hML ⊢
  have HL := Lib.hid hL
  have hL20 : L.length ≤ 20 := by omega
  clear hL HDA hML
  clear b4
  have l_b5 := b5.lt
  obtain ⟨g0, g1, f5⟩ := blk2c b5
  have hOM2 := own_row2 HOM.out
  obtain ⟨AM', cM', hvm, _, hcm1, hcm2⟩ := hOM2
  have hvi := Value.slice.inj hvm
  obtain ⟨rfl, _, rfl⟩ := hvi
  clear hvm
  have hge : groupedE L ruT = 0 := (firstE_zero _).2 fun e he => by
    simp only [List.mem_cons, List.not_mem_nil, or_false] at he
    rcases he with rfl | rfl
    · rw [HMK.out]
    · exact ruT_ok
  have HGE := Lib.hid hge
  clear hge
  go_wp2_with fail
  refine (copyMarks_any L AM cM w4.heap.size _ (own_mk (own_below HOM.out jM.g) (by omega) HMN.out) hcm1 (Nat.le_refl _) hcm2).mono ?_
  rintro e wc5 ⟨v5, rfl, own5, hBc5⟩
  replace b5 := b5.gr hBc5
  replace jC := jC.below hBc5 jC.base
  replace jM := jM.below hBc5 jM.base
  replace jA := jA.below hBc5 jA.base
  obtain ⟨D5, d5, rfl, k5, q5⟩ := copied own5 (by omega) HMN.out
  clear own5
  replace hBB := hBB.trans (Below.mono hBc5 (Below.size hBB))
  clear hBc5
  clear l_b5 g0 g1 f5
  have l_b5 := b5.lt
  obtain ⟨g0, g1, f5⟩ := blk2c b5
  go_wp2_with fail
  refine (whole_any 0 _).mono ?_
  rintro e wc6 ⟨rfl, hBc6⟩
  replace b5 := b5.gr hBc6
  replace jC := jC.below hBc6 jC.base
  replace jM := jM.below hBc6 jM.base
  replace jA := jA.below hBc6 jA.base
  replace k5 := MkOk.gr k5 hBc6
  replace hBB := hBB.trans (Below.mono hBc6 (Below.size hBB))
  clear hBc6
  clear l_b5 g0 g1 f5
  have l_b5 := b5.lt
  obtain ⟨g0, g1, f5⟩ := blk2c b5
  go_wp2_with fail
  refine (grouped_ok L D5 d5 _ ruT _ k5 q5 (Nat.le_refl _) ruT_w.1 ruT_w.2 HGE.out).mono ?_
  rintro e wc7 ⟨vG, Ds, rfl, hperm, hord, hrow, hrws, hBc7⟩
  replace b5 := b5.gr hBc7
  replace jC := jC.below hBc7 jC.base
  replace jM := jM.below hBc7 jM.base
  replace jA := jA.below hBc7 jA.base
  clear k5 q5
  replace hBB := hBB.trans (Below.mono hBc7 (Below.size hBB))
  clear hBc7
  clear l_b5 g0 g1 f5
  have l_b5 := b5.lt
  obtain ⟨g0, g1, f5⟩ := blk2c b5
  obtain ⟨AG, cG, rfl, hRw⟩ := own_rws hrow hrws
  have hD : ResG L ruT (Ds.map (·.ns)) := GI.res (groups_gi ruT_s) hperm (by rw [List.pairwise_map]; exact hord)
  have hDs := res_short hD
  have hD2 := hD
  rw [← HL.out] at hD2
  obtain ⟨hTP, hle⟩ := topP HPL.out HPS.out hd0 hd1 (by omega) HS.out hD2 (by rw [HAS.out]; exact HCAP.out)
  rw [HAS.out] at hTP hle
  rw [HL.out] at hTP
  have HTP := Lib.hid hTP
  have HDS : Hid (∀ q ∈ Ds, q.ns.length ≤ 1000) := Lib.hid fun q hq => by have := hDs.2 q hq; omega
  have hDl : Ds.length ≤ 20 := by have := hDs.1; omega
  have hgt : ¬ ((As.length : Int) < (Ds.length : Int)) := by omega
  have jR : GrT wc7 wc7 := ⟨Gr.refl _⟩
  have HRW := Lib.hid hRw
  clear hTP hD hD2 hDs hperm hord hrow hrws hRw
  go_wp2_with fail
  have hl := topLoop2 (atV l) AC AM AA AG cC cM cA cG wc7.heap.size (w.heap.size + 1) P d0 d1 L Ds As (own_rowC (own_below HOC.out jC.g)) ((HAR.out.below jA.g (Nat.le_refl _)).more jA.base) HRW.out (own_mk (own_below HOM.out jM.g) (by omega) HMN.out) b5 (Nat.le_refl _) (by omega) hAn (by omega) HDS
  unfold bodyOf at hl
  conv at hl in (Option.getD _ Code.skip) => whnf
  refine hl HTP _ ?_
  clear hl
  intro y3 w9 hG9
  go_wp2
  go_ret
  exact ⟨rfl, hBB.trans (hG9.mono (Below.size hBB))⟩
end Go.Proofs.YtclpljbllnhhbaaGreat
