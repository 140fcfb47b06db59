/- The law TopTrueSize answers true. -/
import Derived.Test.YtidgeagpgllkeaaFbF
import Derived.Test.YtidgeagpgllkeaaFbE
namespace Go.Proofs.Ytidgeagpgllkeaa
open Go.RowKit

set_option maxRecDepth 100000 in
set_option maxHeartbeats 4000000 in
theorem trueSize_any (a0 a1 a2 sp u v : Int) (w : World) :
    Calls Try.prog 3 #[.agg #[.int .i64 a0, .int .i64 a1, .int .i64 a2], .int .i64 sp, .agg #[.int .i64 u, .int .i64 v]] w fun e w' => e = .returned (.bool true) ∧ Below w.heap.size w w' := by
  have hC : Hid ((wi a0 0 20000 = false ∨ (wi a0 0 20000 = true ∧ wi a1 0 20000 = false) ∨ (wi a0 0 20000 = true ∧ wi a1 0 20000 = true ∧ wi a2 a1 20000 = false) ∨ (wi a0 0 20000 = true ∧ wi a1 0 20000 = true ∧ wi a2 a1 20000 = true ∧ wi sp 500 10000 = false) ∨
      (wi a0 0 20000 = true ∧ wi a1 0 20000 = true ∧ wi a2 a1 20000 = true ∧ wi sp 500 10000 = true ∧ wi u 0 1000000 = false) ∨ (wi a0 0 20000 = true ∧ wi a1 0 20000 = true ∧ wi a2 a1 20000 = true ∧ wi sp 500 10000 = true ∧ wi u 0 1000000 = true ∧ wi v 0 1000000 = false)) ∨
      (wi a0 0 20000 = true ∧ wi a1 0 20000 = true ∧ wi a2 a1 20000 = true ∧ wi sp 500 10000 = true ∧ wi u 0 1000000 = true ∧ wi v 0 1000000 = true)) := Lib.hid (by
    cases wi a0 0 20000 <;> cases wi a1 0 20000 <;> cases wi a2 a1 20000 <;> cases wi sp 500 10000 <;> cases wi u 0 1000000 <;> cases wi v 0 1000000 <;> simp)
  go_enter Try.func3, Try.ntmps3
  go_wp2_with fail
  have b3 := (Blk.new w 22 #[.int .i64 a0, .int .i64 a1, .int .i64 a2]).alloc (.cells #[.int .i64 u, .int .i64 v] 23)
  have b5 := Blk.new (w.alloc (.cells #[.int .i64 a0, .int .i64 a1, .int .i64 a2] 22)) 23 #[.int .i64 u, .int .i64 v]
  have hBB : Below w.heap.size w ((w.alloc (.cells #[.int .i64 a0, .int .i64 a1, .int .i64 a2] 22)).alloc (.cells #[.int .i64 u, .int .i64 v] 23)) := (by repeat (first | (with_reducible exact Below.refl _ _) | (with_reducible assumption) | ((with_reducible refine Below.setCell ?_ ?_ _); rotate_left; · (first | exact Nat.le_refl _ | (simp; done) | (simp; omega) | omega)) | ((with_reducible refine Below.alloc ?_ ?_ _); rotate_left; · (first | exact Nat.le_refl _ | (simp; done) | (simp; omega) | omega)) | (with_reducible apply Below.drew) | (with_reducible apply below_drewN') | (refine Below.trans ?_ (Below.mono (by assumption) (by first | exact Nat.le_refl _ | (simp; done) | (simp; omega) | omega))) | exact Below.refl _ _ | assumption))
  simp only [World.size_alloc] at b5
  refine (flawed_any _).mono ?_
  rintro e w1 ⟨rfl, hB1⟩
  replace b3 := b3.gr hB1
  replace b5 := b5.gr hB1
  replace hBB := hBB.trans (hB1.mono (Below.size hBB))
  clear hB1
  have l_b3 := b3.lt
  obtain ⟨e0, e1, e2, f3⟩ := blk3t b3
  have l_b5 := b5.lt
  obtain ⟨e3, e4, f5⟩ := blk2c b5
  rcases hC.out with hq | ⟨q0, q1, q2, q3, q4, q5⟩
  · clear hC
    rcases hq with q0 | ⟨q0, q1⟩ | ⟨q0, q1, q2⟩ | ⟨q0, q1, q2, q3⟩ | ⟨q0, q1, q2, q3, q4⟩ | ⟨q0, q1, q2, q3, q4, q5⟩
    all_goals
      go_wp2_with (go_at_call 5; refine (bWithin_any _ _ _ _).mono ?_; rintro e w1 ⟨rfl, rfl⟩)
      go_ret
      exact ⟨rfl, hBB⟩
  · clear hC
    have p0 : 0 ≤ a0 ∧ a0 ≤ 20000 := by simpa [wi] using q0
    have p1 : 0 ≤ a1 ∧ a1 ≤ 20000 := by simpa [wi] using q1
    have p2 : a1 ≤ a2 ∧ a2 ≤ 20000 := by simpa [wi] using q2
    have p3 : 500 ≤ sp ∧ sp ≤ 10000 := by simpa [wi] using q3
    have p4 : 0 ≤ u ∧ u ≤ 1000000 := by simpa [wi] using q4
    have p5 : 0 ≤ v ∧ v ≤ 1000000 := by simpa [wi] using q5
    go_wp2_with (go_at_call 5; refine (bWithin_any _ _ _ _).mono ?_; rintro e w1 ⟨rfl, rfl⟩)
    clear q0 q1 q2 q3 q4 q5
    have hI : TsM w w1.heap.size a0 a1 a2 u v 0 0 0 0 (w1.alloc (.cells #[.int .i64 0, .int .i64 0, .int .i64 0, .int .i64 0] 28)) :=
      ⟨b3.alloc _, b5.alloc _, Blk.new _ _ _, hBB.alloc (Below.size hBB) _, l_b5⟩
    obtain ⟨B7, hB7⟩ : ∃ B, w1.heap.size = B := ⟨_, rfl⟩
    obtain ⟨W, hW⟩ : ∃ W, w1.alloc (.cells #[.int .i64 0, .int .i64 0, .int .i64 0, .int .i64 0] 28) = W := ⟨_, rfl⟩
    rw [hB7, hW] at hI
    rw [hB7, hW]
    clear hB7 hW b3 b5 hBB l_b3 l_b5 e0 e1 e2 f3 e3 e4 f5
    refine wp_loop_rounds 3 ?_
    rw [rounds_succ]
    have hl := ts_round0 a0 a1 a2 sp u v 0 0 0 0 B7 w W hI p0 p1 p3 p4 p5
    unfold bodyOf at hl
    conv at hl in (Option.getD _ Code.skip) => whnf
    refine hl _ _ ?_
    clear hl hI
    intro t0 t2 t4 t6 t9 t10 t11 t12 t13 t14 t15 t16 t17 t18 t19 t20 t21 t22 t23 t24 t25 t26 t27 t28 t29 t30 t31 t32 t33 t34 t35 t36 t37 t38 t39 t40 t41 t42 t43 t44 t45 t46 t47 t48 t49 t50 t51 t52 t53 t54 t55 t56 t57 t58 t59 t60 t61 t62 t63 t64 t65 t66 t67 t68 t69 t70 t71 t72 t73 t74 t75 t76 t77 t78 t79 t80 t81 t82 t83 t84 t85 t86 t87 t88 t89 t90 t91 t92 t93 t94 t95 t96 t97 t98 t99 t100 t101 t102 t103 t104 t105 t106 t107 t108 t109 t110 t111 t112 t113 t114 t115 t116 t117 t118 t119 t120 t121 t122 t123 t124 t125 t126 t127 t128 t129 t130 t131 t132 t133 t134 t135 t136 t137 t138 t139 t140 t141 t142 t143 t144 t145 t146 t147 x0 y0 W1 r0 r1 r2 r3 hI
    rw [rounds_succ]
    have hl := ts_round1 a0 a1 a2 sp u v x0 y0 0 0 B7 w W1 hI p0 (by omega) p3 p4 p5
    unfold bodyOf at hl
    conv at hl in (Option.getD _ Code.skip) => whnf
    refine hl _ _ ?_
    clear hl hI
    intro t0 t2 t4 t6 t9 t10 t11 t12 t13 t14 t15 t16 t17 t18 t19 t20 t21 t22 t23 t24 t25 t26 t27 t28 t29 t30 t31 t32 t33 t34 t35 t36 t37 t38 t39 t40 t41 t42 t43 t44 t45 t46 t47 t48 t49 t50 t51 t52 t53 t54 t55 t56 t57 t58 t59 t60 t61 t62 t63 t64 t65 t66 t67 t68 t69 t70 t71 t72 t73 t74 t75 t76 t77 t78 t79 t80 t81 t82 t83 t84 t85 t86 t87 t88 t89 t90 t91 t92 t93 t94 t95 t96 t97 t98 t99 t100 t101 t102 t103 t104 t105 t106 t107 t108 t109 t110 t111 t112 t113 t114 t115 t116 t117 t118 t119 t120 t121 t122 t123 t124 t125 t126 t127 t128 t129 t130 t131 t132 t133 t134 t135 t136 t137 t138 t139 t140 t141 t142 t143 t144 t145 t146 t147 x1 y1 W2 s0 s1 s2 s3 hI
    rw [rounds_succ]
    obtain ⟨hv, hwh⟩ := height_of (lo0 := x0) (hi0 := y0) (lo1 := x1) (hi1 := y1) (z0 := a1) (z1 := a2) ⟨r1, r2⟩ ⟨s1, s2⟩ r0 s0 r3 s3 p2.1
    have HV := Lib.hid hv
    clear hv
    have b3 := hI.b3
    have b7 := hI.b7
    have hBB := hI.below
    have l_b3 := b3.lt
    obtain ⟨e0, e1, e2, f3⟩ := blk3t b3
    have l_b7 := b7.lt
    obtain ⟨g0, g1, g2, g3, f7⟩ := blk4 b7
    try dsimp only
    go_wp2_with fail
    refine (heightOf_any x0 y0 x1 y1 _).mono ?_
    rw [HV.out]
    unfold reC
    rintro e wc1 ⟨rfl, hBc1⟩
    replace b3 := b3.gr hBc1
    replace b7 := b7.gr hBc1
    replace hBB := hBB.trans (Below.mono hBc1 (Below.size hBB))
    clear hBc1
    clear l_b3 e0 e1 e2 f3 l_b7 g0 g1 g2 g3 f7
    have l_b3 := b3.lt
    have l_b7 := b7.lt
    obtain ⟨e0, e1, e2, f3⟩ := blk3t b3
    obtain ⟨g0, g1, g2, g3, f7⟩ := blk4 b7
    clear HV
    generalize max 0 (x1 - y0) = lo at *
    generalize y1 - x0 = hi at *
    go_wp2_with (go_at_call 5; refine (bWithin_any _ _ _ _).mono ?_; rw [hwh]; rintro e w1 ⟨rfl, rfl⟩)
    go_ret
    exact ⟨rfl, hBB.alloc (Below.size hBB) _⟩
end Go.Proofs.Ytidgeagpgllkeaa
