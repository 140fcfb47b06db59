/- Contracts: the reference's neighbours; the labels of cells, in memory. Regions of the reference's Areas: whether two labels must become one; a cell is appended to an area. -/
import Derived.Test.YtidgeagpgllkeaaGreatZaFjG
import Derived.Test.YtidgeagpgllkeaaGreatZaFfA
import Derived.Test.YtidgeagpgllkeaaGreatZaFcH
import Derived.Test.YtidgeagpgllkeaaGreatZaFeB
import Derived.Test.YtidgeagpgllkeaaGreatZaFnX
namespace Go.Proofs.YtidgeagpgllkeaaGreat
open Go.RowKit

theorem nbB_sz (corners : Bool) (a b : Int × Int) : nbB corners a b = (decide (max (a.1 - b.1) (-(a.1 - b.1)) + max (a.2 - b.2) (-(a.2 - b.2)) = 1) || (corners && decide (max (a.1 - b.1) (-(a.1 - b.1)) = 1) && decide (max (a.2 - b.2) (-(a.2 - b.2)) = 1))) := by
  obtain ⟨a1, a2⟩ := a
  obtain ⟨b1, b2⟩ := b
  unfold nbB keepB
  dsimp only
  rw [Bool.eq_iff_iff]
  cases corners
  · simp; omega
  · simp; omega
set_option maxRecDepth 100000 in
set_option maxHeartbeats 1000000 in
theorem refNb_any (a b : Int × Int) (corners : Bool) (w : World) (ha1 : -1000000 ≤ a.1 ∧ a.1 ≤ 1000000) (ha2 : -1000000 ≤ a.2 ∧ a.2 ≤ 1000000) (hb1 : -1000000 ≤ b.1 ∧ b.1 ≤ 1000000) (hb2 : -1000000 ≤ b.2 ∧ b.2 ≤ 1000000) :
    Calls Tryz.prog 125 #[.agg #[.int .i64 a.1, .int .i64 a.2], .agg #[.int .i64 b.1, .int .i64 b.2], .bool corners] w fun e w' => e = .returned (.bool (nbB corners a b)) ∧ Below w.heap.size w w' := by
  obtain ⟨a1, a2⟩ := a
  obtain ⟨b1, b2⟩ := b
  dsimp only at *
  have h3 := (Blk.new w 25 #[.int .i64 a1, .int .i64 a2]).alloc (.cells #[.int .i64 b1, .int .i64 b2] 25)
  have h4 := Blk.new (w.alloc (.cells #[.int .i64 a1, .int .i64 a2] 25)) 25 #[.int .i64 b1, .int .i64 b2]
  have hBB : Below w.heap.size w ((w.alloc (.cells #[.int .i64 a1, .int .i64 a2] 25)).alloc (.cells #[.int .i64 b1, .int .i64 b2] 25)) := (by repeat (first | (with_reducible exact Below.refl _ _) | (with_reducible assumption) | ((with_reducible refine Below.setCell ?_ ?_ _); rotate_left; · (first | exact Nat.le_refl _ | (simp; done) | (simp; omega) | omega)) | ((with_reducible refine Below.alloc ?_ ?_ _); rotate_left; · (first | exact Nat.le_refl _ | (simp; done) | (simp; omega) | omega)) | (with_reducible apply Below.drew) | (with_reducible apply below_drewN') | (refine Below.trans ?_ (Below.mono (by assumption) (by first | exact Nat.le_refl _ | (simp; done) | (simp; omega) | omega))) | exact Below.refl _ _ | assumption))
  simp only [World.size_alloc] at h4
  go_enter Tryz.func125, Tryz.ntmps125
  go_wp2_with fail
  obtain ⟨W, hW⟩ : ∃ W, (w.alloc (.cells #[.int .i64 a1, .int .i64 a2] 25)).alloc (.cells #[.int .i64 b1, .int .i64 b2] 25) = W := ⟨_, rfl⟩
  rw [hW] at h3 h4 hBB ⊢
  clear hW
  obtain ⟨c0, c1, f3⟩ := blk2c h3
  obtain ⟨d0, d1, f4⟩ := blk2c h4
  have l3 := h3.lt
  have l4 := h4.lt
  have HV := Lib.hid (nbB_sz corners (a1, a2) (b1, b2))
  dsimp only at HV
  obtain ⟨x, hx⟩ : ∃ x, max (a1 - b1) (-(a1 - b1)) = x := ⟨_, rfl⟩
  obtain ⟨y, hy⟩ : ∃ y, max (a2 - b2) (-(a2 - b2)) = y := ⟨_, rfl⟩
  have hxb : 0 ≤ x ∧ x ≤ 2000000 := by omega
  have hyb : 0 ≤ y ∧ y ≤ 2000000 := by omega
  rw [hx, hy] at HV
  have HX := Lib.hid hx; have HY := Lib.hid hy
  clear hx hy
  go_upto_region 1 with fail
  refine wp_region_b 14 (by kernel_rfl) (by kernel_rfl) ?_; simp only [List.take, List.drop]
  repeat (first
    | (apply StepsD.run
       · go_simp
         done
       · intro w' hS K hK
         have hc := (bcell hS).1
         have hf := (bcell hS).2
         have hz := hS.size
         try simp at hz
         go_simp
         try go_bits
         first
           | exact hK _ hS
           | (go_at_call 119; (with_reducible refine (size_any _ (by omega) _).mono ?_); (first | rw [HX.out] | rw [HY.out]); rintro e w1 ⟨rfl, rfl⟩; exact hK _ hS)
           | exact hK _ (by repeat (first | (with_reducible exact Below.refl _ _) | (with_reducible assumption) | ((with_reducible refine Below.setCell ?_ ?_ _); rotate_left; · (first | exact Nat.le_refl _ | (simp; done) | (simp; omega) | omega)) | ((with_reducible refine Below.alloc ?_ ?_ _); rotate_left; · (first | exact Nat.le_refl _ | (simp; done) | (simp; omega) | omega)) | (with_reducible apply Below.drew) | (with_reducible apply below_drewN') | (refine Below.trans ?_ (Below.mono (by assumption) (by first | exact Nat.le_refl _ | (simp; done) | (simp; omega) | omega))) | exact Below.refl _ _ | assumption))
       · simp [Act.put]
         done)
    | (apply StepsD.pass
       · go_simp
         done
       · simp only [Act.put, List.setIfInBounds_toArray, List.set_cons_succ, List.set_cons_zero]
         rfl))
  refine StepsD.done ?_
  intro w1 hS
  replace hBB := hBB.trans (Below.mono hS (Below.size hBB))
  clear hS c0 c1 f3 d0 d1 f4 l3 l4
  by_cases h1 : x + y = 1
  · have e1 : (x + y == 1) = true := beq_iff_eq.2 h1
    have HR : Hid (nbB corners (a1, a2) (b1, b2) = true) := Lib.hid (by rw [HV.out, h1]; simp)
    clear h1
    go_wp2
    go_ret
    exact ⟨by rw [HR.out]; first | rfl | (simp; done), hBB⟩
  · have e1 : (x + y == 1) = false := beq_eq_false_iff_ne.2 h1
    obtain ⟨D, hD⟩ : ∃ D, (x == 1) = D := ⟨_, rfl⟩
    obtain ⟨E, hE⟩ : ∃ D, (y == 1) = D := ⟨_, rfl⟩
    have HR : Hid (nbB corners (a1, a2) (b1, b2) = (corners && D && E)) := Lib.hid (by
      have e2 : ∀ z : Int, decide (z = 1) = (z == 1) := fun z => by rw [Bool.eq_iff_iff, decide_eq_true_iff, beq_iff_eq]
      rw [HV.out, ← hD, ← hE, decide_eq_false h1, Bool.false_or, e2, e2])
    clear h1
    cases corners <;> cases D <;> cases E
    all_goals
      go_wp2
      go_ret
      exact ⟨by rw [HR.out]; first | rfl | (simp; done), hBB⟩
end Go.Proofs.YtidgeagpgllkeaaGreat

namespace Go.Proofs.YtidgeagpgllkeaaGreat
open Go.RowKit

set_option maxRecDepth 100000 in
set_option maxHeartbeats 4000000 in
/-- Whether two cells are neighbours with different labels (region 16). -/
theorem labReg16 {W : World} {q g5 o5 c5 N p N2 c6 : Nat} {level : Int} {corners : Bool} (b3 : Blk W q 24 #[.int .i64 level, .bool corners]) {i k : Nat} {x y : Int × Int} (x0 : W.cell? ⟨g5, o5 + i * 2, none⟩ = some (.int .i64 x.1)) (x1 : W.cell? ⟨g5, o5 + i * 2 + 1, none⟩ = some (.int .i64 x.2)) (y0 : W.cell? ⟨g5, o5 + k * 2, none⟩ = some (.int .i64 y.1)) (y1 : W.cell? ⟨g5, o5 + k * 2 + 1, none⟩ = some (.int .i64 y.2)) (hg5 : g5 < W.heap.size) (hi : i < N) (hk : k < N) (hN : N = N2)
    (hx1 : -1000000 ≤ x.1 ∧ x.1 ≤ 1000000) (hx2 : -1000000 ≤ x.2 ∧ x.2 ≤ 1000000) (hy1 : -1000000 ≤ y.1 ∧ y.1 ≤ 1000000) (hy2 : -1000000 ≤ y.2 ∧ y.2 ≤ 1000000) {fi fk : Int} (f0 : W.cell? ⟨p, i, none⟩ = some (.int .i64 fi)) (f1 : W.cell? ⟨p, k, none⟩ = some (.int .i64 fk)) (hp : p < W.heap.size) {t0 t1 t2 t4 t7 t8 t11 t12 t13 t14 t15 t16 t17 t18 t19 t20 t21 t22 t23 t24 t25 t26 t27 t28 t29 t30 t31 t32 t33 t34 t35 t36 t37 t38 t39 t40 t41 t42 t43 t44 t45 t46 t47 t48 t49 t50 t51 t52 t53 t54 t55 t56 t57 t58 t59 t60 t61 t62 t63 t64 t65 t66 t67 t68 t69 t70 t71 t72 t73 t74 t75 t76 t77 t78 t79 t80 t81 t82 t83 t84 t85 t86 t87 t88 t89 t90 t91 t92 t93 t94 t95 t96 t97 t98 t99 t100 t101 t102 t103 t104 t105 t106 t107 t108 t109 t110 t111 t112 t113 t114 t115 t116 t117 t118 t119 t120 t121 t122 t123 t124 t125 t126 t127 t128 t129 t130 t131 t132 t133 t134 t135 t136 t137 t138 t139 t140 t141 t142 t143 t144 t145 t146 t147 : Value} {ds : List Deferred} (Q : Exit → Act → World → Prop)
    (h : ∀ (t45 t46 t47 t48 t49 t50 t51 t52 t53 t54 t55 t56 t57 t58 t59 t60 t61 t62 t63 t64 t65 : Value) (w' : World), Below W.heap.size W w' → Q .normal ⟨#[t0, t1, t2, .pointer (some ⟨q, 0, none⟩), t4, .slice (some ⟨g5, o5, none⟩) N c5, .slice (some ⟨p, 0, none⟩) N2 c6, t7, t8, .int .i64 (i : Int), .int .i64 (k : Int), t11, t12, t13, t14, t15, t16, t17, t18, t19, t20, t21, t22, t23, t24, t25, t26, t27, t28, t29, t30, t31, t32, t33, t34, t35, t36, t37, t38, t39, t40, t41, t42, t43, t44, t45, t46, t47, t48, t49, t50, t51, t52, t53, t54, t55, t56, t57, t58, t59, t60, t61, t62, t63, t64, t65, .bool (nbB corners x y && (fi != fk)), t67, t68, t69, t70, t71, t72, t73, t74, t75, t76, t77, t78, t79, t80, t81, t82, t83, t84, t85, t86, t87, t88, t89, t90, t91, t92, t93, t94, t95, t96, t97, t98, t99, t100, t101, t102, t103, t104, t105, t106, t107, t108, t109, t110, t111, t112, t113, t114, t115, t116, t117, t118, t119, t120, t121, t122, t123, t124, t125, t126, t127, t128, t129, t130, t131, t132, t133, t134, t135, t136, t137, t138, t139, t140, t141, t142, t143, t144, t145, t146, t147], ds⟩ w') :
    (regOf Tryz.f65 16).wp Tryz.prog Q ⟨#[t0, t1, t2, .pointer (some ⟨q, 0, none⟩), t4, .slice (some ⟨g5, o5, none⟩) N c5, .slice (some ⟨p, 0, none⟩) N2 c6, t7, t8, .int .i64 (i : Int), .int .i64 (k : Int), t11, t12, t13, t14, t15, t16, t17, t18, t19, t20, t21, t22, t23, t24, t25, t26, t27, t28, t29, t30, t31, t32, t33, t34, t35, t36, t37, t38, t39, t40, t41, t42, t43, t44, t45, t46, t47, t48, t49, t50, t51, t52, t53, t54, t55, t56, t57, t58, t59, t60, t61, t62, t63, t64, t65, t66, t67, t68, t69, t70, t71, t72, t73, t74, t75, t76, t77, t78, t79, t80, t81, t82, t83, t84, t85, t86, t87, t88, t89, t90, t91, t92, t93, t94, t95, t96, t97, t98, t99, t100, t101, t102, t103, t104, t105, t106, t107, t108, t109, t110, t111, t112, t113, t114, t115, t116, t117, t118, t119, t120, t121, t122, t123, t124, t125, t126, t127, t128, t129, t130, t131, t132, t133, t134, t135, t136, t137, t138, t139, t140, t141, t142, t143, t144, t145, t146, t147], ds⟩ W := by
  have H := Lib.hid h; clear h
  obtain ⟨c0, c1, f3⟩ := blk2c b3
  have l3 := b3.lt
  obtain ⟨xa, xb⟩ := x
  obtain ⟨ya, yb⟩ := y
  dsimp only at *
  have i1 : ((i : Int) < (N : Int)) := by omega
  have i2 : ((k : Int) < (N : Int)) := by omega
  have i3 : ((i : Int) < (N2 : Int)) := by omega
  have i4 : ((k : Int) < (N2 : Int)) := by omega
  have HN := Lib.hid hN; clear hN
  obtain ⟨E, hE⟩ : ∃ E, (fi != fk) = E := ⟨_, rfl⟩
  rw [hE] at H
  obtain ⟨D, hD⟩ : ∃ D, nbB corners (xa, ya) (xb, yb) = D := ⟨_, rfl⟩
  clear hD D
  obtain ⟨D, hD⟩ : ∃ D, nbB corners (xa, xb) (ya, yb) = D := ⟨_, rfl⟩
  have HD := Lib.hid hD
  rw [hD] at H
  clear hD
  conv in (regOf _ _) => whnf
  cases D
  · refine wp_region_b 22 (by kernel_rfl) (by kernel_rfl) ?_; simp only [List.take, List.drop]
    repeat (first
      | (apply StepsD.run
         · go_simp
           done
         · intro w' hS K hK
           have hc := (bcell hS).1
           have hf := (bcell hS).2
           have hz := hS.size
           try simp at hz
           go_simp
           try go_bits
           first
             | exact hK _ hS
             | (go_at_call 125; (with_reducible refine (refNb_any (xa, xb) (ya, yb) corners _ (by dsimp only; omega) (by dsimp only; omega) (by dsimp only; omega) (by dsimp only; omega)).mono ?_); rw [HD.out]; rintro e w1 ⟨rfl, hB1⟩; obtain ⟨hc1, hf1⟩ := bcell hB1; have hz1 := hB1.size; (try simp at hz1); exact hK _ (Below.trans hS (Below.mono hB1 (by first | exact Nat.le_refl _ | (simp; done) | (simp; omega) | omega))))
             | exact hK _ (by repeat (first | (with_reducible exact Below.refl _ _) | (with_reducible assumption) | ((with_reducible refine Below.setCell ?_ ?_ _); rotate_left; · (first | exact Nat.le_refl _ | (simp; done) | (simp; omega) | omega)) | ((with_reducible refine Below.alloc ?_ ?_ _); rotate_left; · (first | exact Nat.le_refl _ | (simp; done) | (simp; omega) | omega)) | (with_reducible apply Below.drew) | (with_reducible apply below_drewN') | (refine Below.trans ?_ (Below.mono (by assumption) (by first | exact Nat.le_refl _ | (simp; done) | (simp; omega) | omega))) | exact Below.refl _ _ | assumption))
         · simp [Act.put]
           done)
      | (apply StepsD.pass
         · go_simp
           done
         · simp only [Act.put, List.setIfInBounds_toArray, List.set_cons_succ, List.set_cons_zero]
           rfl))
    refine StepsD.done ?_
    intro w1 hS
    exact H.out _ _ _ _ _ _ _ _ _ _ _ _ _ _ _ _ _ _ _ _ _ w1 hS
  · refine wp_region_b 22 (by kernel_rfl) (by kernel_rfl) ?_; simp only [List.take, List.drop]
    repeat (first
      | (apply StepsD.run
         · go_simp
           done
         · intro w' hS K hK
           have hc := (bcell hS).1
           have hf := (bcell hS).2
           have hz := hS.size
           try simp at hz
           go_simp
           try go_bits
           first
             | exact hK _ hS
             | (go_at_call 125; (with_reducible refine (refNb_any (xa, xb) (ya, yb) corners _ (by dsimp only; omega) (by dsimp only; omega) (by dsimp only; omega) (by dsimp only; omega)).mono ?_); rw [HD.out]; rintro e w1 ⟨rfl, hB1⟩; obtain ⟨hc1, hf1⟩ := bcell hB1; have hz1 := hB1.size; (try simp at hz1); exact hK _ (Below.trans hS (Below.mono hB1 (by first | exact Nat.le_refl _ | (simp; done) | (simp; omega) | omega))))
             | exact hK _ (by repeat (first | (with_reducible exact Below.refl _ _) | (with_reducible assumption) | ((with_reducible refine Below.setCell ?_ ?_ _); rotate_left; · (first | exact Nat.le_refl _ | (simp; done) | (simp; omega) | omega)) | ((with_reducible refine Below.alloc ?_ ?_ _); rotate_left; · (first | exact Nat.le_refl _ | (simp; done) | (simp; omega) | omega)) | (with_reducible apply Below.drew) | (with_reducible apply below_drewN') | (refine Below.trans ?_ (Below.mono (by assumption) (by first | exact Nat.le_refl _ | (simp; done) | (simp; omega) | omega))) | exact Below.refl _ _ | assumption))
         · simp [Act.put]
           done)
      | (apply StepsD.pass
         · go_simp
           done
         · simp only [Act.put, List.setIfInBounds_toArray, List.set_cons_succ, List.set_cons_zero]
           rfl))
    refine StepsD.done ?_
    intro w1 hS
    exact H.out _ _ _ _ _ _ _ _ _ _ _ _ _ _ _ _ _ _ _ _ _ w1 hS

set_option maxRecDepth 100000 in
set_option maxHeartbeats 4000000 in
/-- A cell is appended to the cells of an area (region 28). -/
theorem areaReg28 {W : World} {q g5 o5 c5 N : Nat} {v : Value} {pr pc lv : Int} {cs : List (Int × Int)} (b13 : Blk W q 91 #[v, .int .i64 pr, .int .i64 pc, .int .i64 lv]) (own : W.ownsRow q 25 2 v cs.length (cellsC cs)) {k : Nat} {x : Int × Int} (x0 : W.cell? ⟨g5, o5 + k * 2, none⟩ = some (.int .i64 x.1)) (x1 : W.cell? ⟨g5, o5 + k * 2 + 1, none⟩ = some (.int .i64 x.2)) (hg5 : g5 < q) (hk : k < N) (hcs : cs.length ≤ 100000) {t0 t1 t2 t3 t4 t6 t7 t8 t9 t10 t11 t12 t15 t16 t17 t18 t19 t20 t21 t22 t23 t24 t25 t26 t27 t28 t29 t30 t31 t32 t33 t34 t35 t36 t37 t38 t39 t40 t41 t42 t43 t44 t45 t46 t47 t48 t49 t50 t51 t52 t53 t54 t55 t56 t57 t58 t59 t60 t61 t62 t63 t64 t65 t66 t67 t68 t69 t70 t71 t72 t73 t74 t75 t76 t77 t78 t79 t80 t81 t82 t83 t84 t85 t86 t87 t88 t89 t90 t91 t92 t93 t94 t95 t96 t97 t98 t99 t100 t101 t102 t103 t104 t105 t106 t107 t108 t109 t110 t111 t112 t113 t114 t115 t116 t117 t118 t119 t120 t121 t122 t123 t124 t125 t126 t127 t128 t129 t130 t131 t132 t133 t134 t135 t136 t137 t138 t139 t140 t141 t142 t143 t144 t145 t146 t147 : Value} {ds : List Deferred} (Q : Exit → Act → World → Prop)
    (h : ∀ (t117 t118 t119 t120 t121 t122 t123 t124 t125 : Value) (u : Value) (w' : World), Below q W w' → Blk w' q 91 #[u, .int .i64 pr, .int .i64 pc, .int .i64 lv] → w'.ownsRow q 25 2 u (cs.length + 1) (cellsC (cs ++ [x])) → Q .normal ⟨#[t0, t1, t2, t3, t4, .slice (some ⟨g5, o5, none⟩) N c5, t6, t7, t8, t9, t10, t11, t12, .pointer (some ⟨q, 0, none⟩), .int .i64 (k : Int), t15, t16, t17, t18, t19, t20, t21, t22, t23, t24, t25, t26, t27, t28, t29, t30, t31, t32, t33, t34, t35, t36, t37, t38, t39, t40, t41, t42, t43, t44, t45, t46, t47, t48, t49, t50, t51, t52, t53, t54, t55, t56, t57, t58, t59, t60, t61, t62, t63, t64, t65, t66, t67, t68, t69, t70, t71, t72, t73, t74, t75, t76, t77, t78, t79, t80, t81, t82, t83, t84, t85, t86, t87, t88, t89, t90, t91, t92, t93, t94, t95, t96, t97, t98, t99, t100, t101, t102, t103, t104, t105, t106, t107, t108, t109, t110, t111, t112, t113, t114, t115, t116, t117, t118, t119, t120, t121, t122, t123, t124, t125, t126, t127, t128, t129, t130, t131, t132, t133, t134, t135, t136, t137, t138, t139, t140, t141, t142, t143, t144, t145, t146, t147], ds⟩ w') :
    (regOf Tryz.f65 28).wp Tryz.prog Q ⟨#[t0, t1, t2, t3, t4, .slice (some ⟨g5, o5, none⟩) N c5, t6, t7, t8, t9, t10, t11, t12, .pointer (some ⟨q, 0, none⟩), .int .i64 (k : Int), t15, t16, t17, t18, t19, t20, t21, t22, t23, t24, t25, t26, t27, t28, t29, t30, t31, t32, t33, t34, t35, t36, t37, t38, t39, t40, t41, t42, t43, t44, t45, t46, t47, t48, t49, t50, t51, t52, t53, t54, t55, t56, t57, t58, t59, t60, t61, t62, t63, t64, t65, t66, t67, t68, t69, t70, t71, t72, t73, t74, t75, t76, t77, t78, t79, t80, t81, t82, t83, t84, t85, t86, t87, t88, t89, t90, t91, t92, t93, t94, t95, t96, t97, t98, t99, t100, t101, t102, t103, t104, t105, t106, t107, t108, t109, t110, t111, t112, t113, t114, t115, t116, t117, t118, t119, t120, t121, t122, t123, t124, t125, t126, t127, t128, t129, t130, t131, t132, t133, t134, t135, t136, t137, t138, t139, t140, t141, t142, t143, t144, t145, t146, t147], ds⟩ W := by
  have H := Lib.hid h; clear h
  obtain ⟨i0, hi, hz0, hz1, hz2⟩ := info_parts infoCell
  have hqW := b13.lt
  have i1 : ((k : Int) < (N : Int)) := by omega
  have hgW : g5 < W.heap.size := by omega
  obtain ⟨xa, xb⟩ := x
  dsimp only at x0 x1
  replace own := own.drew
  replace b13 := b13.drew
  conv in (regOf _ _) => whnf
  refine wp_region_w (fun w' => Below q _ w') (by kernel_rfl) (Below.refl _ _).drew ?_
  refine wpW_det (t' := ?ct0R126) 0 (by rfl) (by kernel_rfl) (NQ_free _) (by kernel_rfl) ?cw0R126 ?ch0R126 ?ca0R126 (Eq.refl _) ?cH0R126
  case cw0R126 => (go_simp; done)
  case ch0R126 =>
    intro ds w' hS K hK
    have hc := (bcellB hS).1
    have hf := (bcellB hS).2
    have hz := hS.size
    try simp at hz
    go_simp
    try go_bits
    first
      | exact hK _ hS (Gr.refl _)
      | exact hK _ (by repeat (first | (with_reducible exact Below.refl _ _) | (with_reducible assumption) | ((with_reducible refine Below.setCell ?_ ?_ _); rotate_left; · (first | exact Nat.le_refl _ | (simp; done) | (simp; omega) | omega)) | ((with_reducible refine Below.alloc ?_ ?_ _); rotate_left; · (first | exact Nat.le_refl _ | (simp; done) | (simp; omega) | omega)) | (with_reducible apply Below.drew) | (with_reducible apply below_drewN') | (refine Below.trans ?_ (Below.mono (by assumption) (by first | exact Nat.le_refl _ | (simp; done) | (simp; omega) | omega))) | exact Below.refl _ _ | assumption)) (by repeat (first | (with_reducible exact Below.refl _ _) | (with_reducible assumption) | ((with_reducible refine Below.setCell ?_ ?_ _); rotate_left; · (first | exact Nat.le_refl _ | (simp; done) | (simp; omega) | omega)) | ((with_reducible refine Below.alloc ?_ ?_ _); rotate_left; · (first | exact Nat.le_refl _ | (simp; done) | (simp; omega) | omega)) | (with_reducible apply Below.drew) | (with_reducible apply below_drewN') | (refine Below.trans ?_ (Below.mono (by assumption) (by first | exact Nat.le_refl _ | (simp; done) | (simp; omega) | omega))) | exact Below.refl _ _ | assumption))
  case ca0R126 => (first | (simp [Act.put]; done) | (simp [Act.put, *]; done))
  try dsimp only
  refine wpW_det (t' := ?ct2R126) 2 (by rfl) (by kernel_rfl) (NQ_free _) (by kernel_rfl) ?cw2R126 ?ch2R126 ?ca2R126 (Eq.refl _) ?cH2R126
  case cw2R126 => (go_simp; done)
  case ch2R126 =>
    intro ds w' hS K hK
    have hc := (bcellB hS).1
    have hf := (bcellB hS).2
    have hz := hS.size
    try simp at hz
    go_simp
    try go_bits
    first
      | exact hK _ hS (Gr.refl _)
      | exact hK _ (by repeat (first | (with_reducible exact Below.refl _ _) | (with_reducible assumption) | ((with_reducible refine Below.setCell ?_ ?_ _); rotate_left; · (first | exact Nat.le_refl _ | (simp; done) | (simp; omega) | omega)) | ((with_reducible refine Below.alloc ?_ ?_ _); rotate_left; · (first | exact Nat.le_refl _ | (simp; done) | (simp; omega) | omega)) | (with_reducible apply Below.drew) | (with_reducible apply below_drewN') | (refine Below.trans ?_ (Below.mono (by assumption) (by first | exact Nat.le_refl _ | (simp; done) | (simp; omega) | omega))) | exact Below.refl _ _ | assumption)) (by repeat (first | (with_reducible exact Below.refl _ _) | (with_reducible assumption) | ((with_reducible refine Below.setCell ?_ ?_ _); rotate_left; · (first | exact Nat.le_refl _ | (simp; done) | (simp; omega) | omega)) | ((with_reducible refine Below.alloc ?_ ?_ _); rotate_left; · (first | exact Nat.le_refl _ | (simp; done) | (simp; omega) | omega)) | (with_reducible apply Below.drew) | (with_reducible apply below_drewN') | (refine Below.trans ?_ (Below.mono (by assumption) (by first | exact Nat.le_refl _ | (simp; done) | (simp; omega) | omega))) | exact Below.refl _ _ | assumption))
  case ca2R126 => (first | (simp [Act.put]; done) | (simp [Act.put, *]; done))
  try dsimp only
  refine wpW_det (t' := ?ct3R126) 3 (by rfl) (by kernel_rfl) (NQ_free _) (by kernel_rfl) ?cw3R126 ?ch3R126 ?ca3R126 (Eq.refl _) ?cH3R126
  case cw3R126 => (go_simp; done)
  case ch3R126 =>
    intro ds w' hS K hK
    have hc := (bcellB hS).1
    have hf := (bcellB hS).2
    have hz := hS.size
    try simp at hz
    go_simp
    try go_bits
    first
      | exact hK _ hS (Gr.refl _)
      | exact hK _ (by repeat (first | (with_reducible exact Below.refl _ _) | (with_reducible assumption) | ((with_reducible refine Below.setCell ?_ ?_ _); rotate_left; · (first | exact Nat.le_refl _ | (simp; done) | (simp; omega) | omega)) | ((with_reducible refine Below.alloc ?_ ?_ _); rotate_left; · (first | exact Nat.le_refl _ | (simp; done) | (simp; omega) | omega)) | (with_reducible apply Below.drew) | (with_reducible apply below_drewN') | (refine Below.trans ?_ (Below.mono (by assumption) (by first | exact Nat.le_refl _ | (simp; done) | (simp; omega) | omega))) | exact Below.refl _ _ | assumption)) (by repeat (first | (with_reducible exact Below.refl _ _) | (with_reducible assumption) | ((with_reducible refine Below.setCell ?_ ?_ _); rotate_left; · (first | exact Nat.le_refl _ | (simp; done) | (simp; omega) | omega)) | ((with_reducible refine Below.alloc ?_ ?_ _); rotate_left; · (first | exact Nat.le_refl _ | (simp; done) | (simp; omega) | omega)) | (with_reducible apply Below.drew) | (with_reducible apply below_drewN') | (refine Below.trans ?_ (Below.mono (by assumption) (by first | exact Nat.le_refl _ | (simp; done) | (simp; omega) | omega))) | exact Below.refl _ _ | assumption))
  case ca3R126 => (first | (simp [Act.put]; done) | (simp [Act.put, *]; done))
  try dsimp only
  refine wpW_det (t' := ?ct4R126) 4 (by rfl) (by kernel_rfl) (NQ_free _) (by kernel_rfl) ?cw4R126 ?ch4R126 ?ca4R126 (Eq.refl _) ?cH4R126
  case cw4R126 => (go_simp; done)
  case ch4R126 =>
    intro ds w' hS K hK
    have hc := (bcellB hS).1
    have hf := (bcellB hS).2
    have hz := hS.size
    try simp at hz
    go_simp
    try go_bits
    first
      | exact hK _ hS (Gr.refl _)
      | exact hK _ (by repeat (first | (with_reducible exact Below.refl _ _) | (with_reducible assumption) | ((with_reducible refine Below.setCell ?_ ?_ _); rotate_left; · (first | exact Nat.le_refl _ | (simp; done) | (simp; omega) | omega)) | ((with_reducible refine Below.alloc ?_ ?_ _); rotate_left; · (first | exact Nat.le_refl _ | (simp; done) | (simp; omega) | omega)) | (with_reducible apply Below.drew) | (with_reducible apply below_drewN') | (refine Below.trans ?_ (Below.mono (by assumption) (by first | exact Nat.le_refl _ | (simp; done) | (simp; omega) | omega))) | exact Below.refl _ _ | assumption)) (by repeat (first | (with_reducible exact Below.refl _ _) | (with_reducible assumption) | ((with_reducible refine Below.setCell ?_ ?_ _); rotate_left; · (first | exact Nat.le_refl _ | (simp; done) | (simp; omega) | omega)) | ((with_reducible refine Below.alloc ?_ ?_ _); rotate_left; · (first | exact Nat.le_refl _ | (simp; done) | (simp; omega) | omega)) | (with_reducible apply Below.drew) | (with_reducible apply below_drewN') | (refine Below.trans ?_ (Below.mono (by assumption) (by first | exact Nat.le_refl _ | (simp; done) | (simp; omega) | omega))) | exact Below.refl _ _ | assumption))
  case ca4R126 => (first | (simp [Act.put]; done) | (simp [Act.put, *]; done))
  try dsimp only
  refine wpW_det (t' := ?ct5R126) 5 (by rfl) (by kernel_rfl) (NQ_free _) (by kernel_rfl) ?cw5R126 ?ch5R126 ?ca5R126 (Eq.refl _) ?cH5R126
  case cw5R126 => (go_simp; done)
  case ch5R126 =>
    intro ds w' hS K hK
    have hc := (bcellB hS).1
    have hf := (bcellB hS).2
    have hz := hS.size
    try simp at hz
    go_simp
    try go_bits
    first
      | exact hK _ hS (Gr.refl _)
      | exact hK _ (by repeat (first | (with_reducible exact Below.refl _ _) | (with_reducible assumption) | ((with_reducible refine Below.setCell ?_ ?_ _); rotate_left; · (first | exact Nat.le_refl _ | (simp; done) | (simp; omega) | omega)) | ((with_reducible refine Below.alloc ?_ ?_ _); rotate_left; · (first | exact Nat.le_refl _ | (simp; done) | (simp; omega) | omega)) | (with_reducible apply Below.drew) | (with_reducible apply below_drewN') | (refine Below.trans ?_ (Below.mono (by assumption) (by first | exact Nat.le_refl _ | (simp; done) | (simp; omega) | omega))) | exact Below.refl _ _ | assumption)) (by repeat (first | (with_reducible exact Below.refl _ _) | (with_reducible assumption) | ((with_reducible refine Below.setCell ?_ ?_ _); rotate_left; · (first | exact Nat.le_refl _ | (simp; done) | (simp; omega) | omega)) | ((with_reducible refine Below.alloc ?_ ?_ _); rotate_left; · (first | exact Nat.le_refl _ | (simp; done) | (simp; omega) | omega)) | (with_reducible apply Below.drew) | (with_reducible apply below_drewN') | (refine Below.trans ?_ (Below.mono (by assumption) (by first | exact Nat.le_refl _ | (simp; done) | (simp; omega) | omega))) | exact Below.refl _ _ | assumption))
  case ca5R126 => (first | (simp [Act.put]; done) | (simp [Act.put, *]; done))
  try dsimp only
  refine wpW_branch [1, 6] (by kernel_rfl) (by simp) ?_
  intro w1 hg1 hS1
  replace own := own_below own hg1
  replace b13 := Blk.gr b13 hg1
  try replace nP := Blk.gr nP hg1
  have hsz := Below.size hS1
  have y0 := b13.cell 0
  simp only [List.getElem?_toArray, List.getElem?_cons_zero] at y0
  have l13 := b13.lt
  refine each_cons ?_ (each_cons ?_ (each_nil))
  · refine wpOp_go (by rfl) (Eq.refl _) (by go_simp; done) ?_
    intro K hK
    go_simp
    try simp only [Act.put]
    refine hK _ _ hS1 ?_
    clear hK K y0 l13
    refine wpW_branch [6] (by kernel_rfl) (by simp) ?_
    intro w2 hg2 hS2
    replace own := own_below own hg2
    replace b13 := Blk.gr b13 hg2
    try replace nP := Blk.gr nP hg2
    have hsz := Below.size hS2
    have y0 := b13.cell 0
    simp only [List.getElem?_toArray, List.getElem?_cons_zero] at y0
    have l13 := b13.lt
    refine each_cons ?_ (each_nil)
    · refine wpOp_go (by rfl) (Eq.refl _) (by go_simp; done) ?_
      intro K hK
      go_simp
      try simp only [Act.put]
      have nP := Blk.new w2 25 #[.int .i64 xa, .int .i64 xb]
      replace own := own.alloc (.cells #[.int .i64 xa, .int .i64 xb] 25)
      replace b13 := b13.alloc (.cells #[.int .i64 xa, .int .i64 xb] 25)
      obtain ⟨M, hM⟩ : ∃ M, w2.heap.size = M := ⟨_, rfl⟩
      rw [hM] at nP ⊢
      clear hM
      refine hK _ _ (Below.alloc hS2 (by have := Below.size hS2; omega) _) ?_
      clear hK K y0 l13
      refine wpW_branch [7] (by kernel_rfl) (by simp) ?_
      intro w3 hg3 hS3
      replace own := own_below own hg3
      replace b13 := Blk.gr b13 hg3
      try replace nP := Blk.gr nP hg3
      have hsz := Below.size hS3
      have y0 := b13.cell 0
      simp only [List.getElem?_toArray, List.getElem?_cons_zero] at y0
      have l13 := b13.lt
      refine each_cons ?_ (each_nil)
      · refine wpOp_go (by rfl) (Eq.refl _) (by go_simp; done) ?_
        intro K hK
        refine wp_append_own _ (.tmp 118) (.tmp 123) 87 rfl q 25 i0 (.agg #[.int .i64 0, .int .i64 0]) 2 16 Tryz.underlying87 hi hz0 hz1 hz2 rfl (by decide) v cs.length (cellsC cs) rfl own ⟨M, 0, none⟩ 1 1 [.int .i64 xa, .int .i64 xb] rfl rfl ?hc (by simp [Value.oneCell']) (by unfold maxLen; omega) (by omega) (by have := Below.size hS3; omega) ?_
        case hc =>
          intro j u hj
          rw [Addr.add_lit, Nat.zero_add]
          exact (nP.cell j).trans (by simpa using hj)
        intro u wa own' hgrow _
        obtain ⟨Au, cu, rfl, _, _, _⟩ := own_row2 own'
        try simp only [Act.put]
        try simp only [List.setIfInBounds_toArray]
        have hLT : ∀ r, v.ownBlock = some r → q ≤ r := fun r e => (own.lt r e).1
        have b14 := b13.grown hgrow (fun e => own_blk_ne own b13 (by decide) e.symm)
        refine hK _ _ (Below.grown hS3 hgrow (by have := Below.size hS3; omega) hLT) ?_
        clear hK K own b13 nP hgrow hLT y0 l13
        refine wpW_det (t' := ?ct8R127) 8 (by rfl) (by kernel_rfl) (NQ_free _) (by kernel_rfl) ?cw8R127 ?ch8R127 ?ca8R127 (Eq.refl _) ?cH8R127
        case cw8R127 => (go_simp; done)
        case ch8R127 =>
          intro ds w' hS K hK
          have hc := (bcellB hS).1
          have hf := (bcellB hS).2
          have hz := hS.size
          try simp at hz
          go_simp
          try go_bits
          first
            | exact hK _ hS (Gr.refl _)
            | exact hK _ (by repeat (first | (with_reducible exact Below.refl _ _) | (with_reducible assumption) | ((with_reducible refine Below.setCell ?_ ?_ _); rotate_left; · (first | exact Nat.le_refl _ | (simp; done) | (simp; omega) | omega)) | ((with_reducible refine Below.alloc ?_ ?_ _); rotate_left; · (first | exact Nat.le_refl _ | (simp; done) | (simp; omega) | omega)) | (with_reducible apply Below.drew) | (with_reducible apply below_drewN') | (refine Below.trans ?_ (Below.mono (by assumption) (by first | exact Nat.le_refl _ | (simp; done) | (simp; omega) | omega))) | exact Below.refl _ _ | assumption)) (by repeat (first | (with_reducible exact Below.refl _ _) | (with_reducible assumption) | ((with_reducible refine Below.setCell ?_ ?_ _); rotate_left; · (first | exact Nat.le_refl _ | (simp; done) | (simp; omega) | omega)) | ((with_reducible refine Below.alloc ?_ ?_ _); rotate_left; · (first | exact Nat.le_refl _ | (simp; done) | (simp; omega) | omega)) | (with_reducible apply Below.drew) | (with_reducible apply below_drewN') | (refine Below.trans ?_ (Below.mono (by assumption) (by first | exact Nat.le_refl _ | (simp; done) | (simp; omega) | omega))) | exact Below.refl _ _ | assumption))
        case ca8R127 => (first | (simp [Act.put]; done) | (simp [Act.put, *]; done))
        try dsimp only
        refine wpW_branch [9] (by kernel_rfl) (by simp) ?_
        intro v9 hg_v9 hS_v9
        have b15 := Blk.gr b14 hg_v9
        have own2 := own_below own' hg_v9
        have y0 := b15.cell 0
        simp only [List.getElem?_toArray, List.getElem?_cons_zero] at y0
        have yf := b15.frozen 0
        have l15 := b15.lt
        refine each_cons ?_ each_nil
        refine wpOp_go (by rfl) (Eq.refl _) (by go_simp; done) ?_
        intro K hK
        go_simp
        try simp only [Act.put]
        have b16 := b15.set_ 0 (.slice Au (cs.length + 1) cu)
        have own3 := own2.kept (only_setCell (World.grownBy.refl v9 (some q)) (p := ⟨q, 0, none⟩) (.inl rfl) (.slice Au (cs.length + 1) cu)) (.inr (own_blk_ne own2 b15 (by decide)))
        refine hK _ _ (Below.setCell hS_v9 (p := ⟨q, 0, none⟩) (Nat.le_refl q) _) ?_
        clear hK K y0 yf l15
        refine wpW_end (by kernel_rfl) ?_
        intro we hg hS
        unfold NQ
        dsimp only
        exact H.out _ _ _ _ _ _ _ _ _ _ we hS (Blk.gr b16 hg) (by rw [cellsC_snoc]; exact own_below own3 hg)
  · refine wpOp_go (by rfl) (Eq.refl _) (by go_simp; done) ?_
    intro K hK
    go_simp
    try simp only [Act.put]
    have nP := Blk.new w1 25 #[.int .i64 xa, .int .i64 xb]
    replace own := own.alloc (.cells #[.int .i64 xa, .int .i64 xb] 25)
    replace b13 := b13.alloc (.cells #[.int .i64 xa, .int .i64 xb] 25)
    obtain ⟨M, hM⟩ : ∃ M, w1.heap.size = M := ⟨_, rfl⟩
    rw [hM] at nP ⊢
    clear hM
    refine hK _ _ (Below.alloc hS1 (by have := Below.size hS1; omega) _) ?_
    clear hK K y0 l13
    refine wpW_branch [1] (by kernel_rfl) (by simp) ?_
    intro w2 hg2 hS2
    replace own := own_below own hg2
    replace b13 := Blk.gr b13 hg2
    try replace nP := Blk.gr nP hg2
    have hsz := Below.size hS2
    have y0 := b13.cell 0
    simp only [List.getElem?_toArray, List.getElem?_cons_zero] at y0
    have l13 := b13.lt
    refine each_cons ?_ (each_nil)
    · refine wpOp_go (by rfl) (Eq.refl _) (by go_simp; done) ?_
      intro K hK
      go_simp
      try simp only [Act.put]
      refine hK _ _ hS2 ?_
      clear hK K y0 l13
      refine wpW_branch [7] (by kernel_rfl) (by simp) ?_
      intro w3 hg3 hS3
      replace own := own_below own hg3
      replace b13 := Blk.gr b13 hg3
      try replace nP := Blk.gr nP hg3
      have hsz := Below.size hS3
      have y0 := b13.cell 0
      simp only [List.getElem?_toArray, List.getElem?_cons_zero] at y0
      have l13 := b13.lt
      refine each_cons ?_ (each_nil)
      · refine wpOp_go (by rfl) (Eq.refl _) (by go_simp; done) ?_
        intro K hK
        refine wp_append_own _ (.tmp 118) (.tmp 123) 87 rfl q 25 i0 (.agg #[.int .i64 0, .int .i64 0]) 2 16 Tryz.underlying87 hi hz0 hz1 hz2 rfl (by decide) v cs.length (cellsC cs) rfl own ⟨M, 0, none⟩ 1 1 [.int .i64 xa, .int .i64 xb] rfl rfl ?hc (by simp [Value.oneCell']) (by unfold maxLen; omega) (by omega) (by have := Below.size hS3; omega) ?_
        case hc =>
          intro j u hj
          rw [Addr.add_lit, Nat.zero_add]
          exact (nP.cell j).trans (by simpa using hj)
        intro u wa own' hgrow _
        obtain ⟨Au, cu, rfl, _, _, _⟩ := own_row2 own'
        try simp only [Act.put]
        try simp only [List.setIfInBounds_toArray]
        have hLT : ∀ r, v.ownBlock = some r → q ≤ r := fun r e => (own.lt r e).1
        have b14 := b13.grown hgrow (fun e => own_blk_ne own b13 (by decide) e.symm)
        refine hK _ _ (Below.grown hS3 hgrow (by have := Below.size hS3; omega) hLT) ?_
        clear hK K own b13 nP hgrow hLT y0 l13
        refine wpW_det (t' := ?ct8R128) 8 (by rfl) (by kernel_rfl) (NQ_free _) (by kernel_rfl) ?cw8R128 ?ch8R128 ?ca8R128 (Eq.refl _) ?cH8R128
        case cw8R128 => (go_simp; done)
        case ch8R128 =>
          intro ds w' hS K hK
          have hc := (bcellB hS).1
          have hf := (bcellB hS).2
          have hz := hS.size
          try simp at hz
          go_simp
          try go_bits
          first
            | exact hK _ hS (Gr.refl _)
            | exact hK _ (by repeat (first | (with_reducible exact Below.refl _ _) | (with_reducible assumption) | ((with_reducible refine Below.setCell ?_ ?_ _); rotate_left; · (first | exact Nat.le_refl _ | (simp; done) | (simp; omega) | omega)) | ((with_reducible refine Below.alloc ?_ ?_ _); rotate_left; · (first | exact Nat.le_refl _ | (simp; done) | (simp; omega) | omega)) | (with_reducible apply Below.drew) | (with_reducible apply below_drewN') | (refine Below.trans ?_ (Below.mono (by assumption) (by first | exact Nat.le_refl _ | (simp; done) | (simp; omega) | omega))) | exact Below.refl _ _ | assumption)) (by repeat (first | (with_reducible exact Below.refl _ _) | (with_reducible assumption) | ((with_reducible refine Below.setCell ?_ ?_ _); rotate_left; · (first | exact Nat.le_refl _ | (simp; done) | (simp; omega) | omega)) | ((with_reducible refine Below.alloc ?_ ?_ _); rotate_left; · (first | exact Nat.le_refl _ | (simp; done) | (simp; omega) | omega)) | (with_reducible apply Below.drew) | (with_reducible apply below_drewN') | (refine Below.trans ?_ (Below.mono (by assumption) (by first | exact Nat.le_refl _ | (simp; done) | (simp; omega) | omega))) | exact Below.refl _ _ | assumption))
        case ca8R128 => (first | (simp [Act.put]; done) | (simp [Act.put, *]; done))
        try dsimp only
        refine wpW_branch [9] (by kernel_rfl) (by simp) ?_
        intro v9 hg_v9 hS_v9
        have b15 := Blk.gr b14 hg_v9
        have own2 := own_below own' hg_v9
        have y0 := b15.cell 0
        simp only [List.getElem?_toArray, List.getElem?_cons_zero] at y0
        have yf := b15.frozen 0
        have l15 := b15.lt
        refine each_cons ?_ each_nil
        refine wpOp_go (by rfl) (Eq.refl _) (by go_simp; done) ?_
        intro K hK
        go_simp
        try simp only [Act.put]
        have b16 := b15.set_ 0 (.slice Au (cs.length + 1) cu)
        have own3 := own2.kept (only_setCell (World.grownBy.refl v9 (some q)) (p := ⟨q, 0, none⟩) (.inl rfl) (.slice Au (cs.length + 1) cu)) (.inr (own_blk_ne own2 b15 (by decide)))
        refine hK _ _ (Below.setCell hS_v9 (p := ⟨q, 0, none⟩) (Nat.le_refl q) _) ?_
        clear hK K y0 yf l15
        refine wpW_end (by kernel_rfl) ?_
        intro we hg hS
        unfold NQ
        dsimp only
        exact H.out _ _ _ _ _ _ _ _ _ _ we hS (Blk.gr b16 hg) (by rw [cellsC_snoc]; exact own_below own3 hg)
end Go.Proofs.YtidgeagpgllkeaaGreat
