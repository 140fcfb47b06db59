/- The loop of cover.add: which number is out of its range. cover.add: the face is appended to the joint's. -/
import Derived.Maps.AppendAt
import Derived.Test.YtaekcfancfoccaaGreatDoorZmCuK
import Derived.Test.YtaekcfancfoccaaGreatDoorZmZkCwH
namespace Go.Proofs.YtaekcfancfoccaaGreatDoor
open Go.RowKit Go.Lib

structure LpM (th line x2 x3 x4 x5 n2 n3 n4 n5 : Int) (jb b g5 g6 : Nat) (W : World) : Prop where
  lj : jb < W.heap.size
  l5 : g5 < W.heap.size
  l6 : g6 < W.heap.size
  bf : Blk W b 109 #[.int .i64 0, .int .i64 0, .int .i64 0]
  j1 : W.cell? ⟨jb, 1, none⟩ = some (.int .i64 th)
  p1 : W.cell? ⟨g5, 1, none⟩ = some (.int .i64 line)
  p4 : W.cell? ⟨g5, 4, none⟩ = some (.int .i64 line)
  p7 : W.cell? ⟨g5, 7, none⟩ = some (.int .i64 line)
  p10 : W.cell? ⟨g5, 10, none⟩ = some (.int .i64 line)
  p2 : W.cell? ⟨g5, 2, none⟩ = some (.int .i64 x2)
  p5 : W.cell? ⟨g5, 5, none⟩ = some (.int .i64 x3)
  p8 : W.cell? ⟨g5, 8, none⟩ = some (.int .i64 x4)
  p11 : W.cell? ⟨g5, 11, none⟩ = some (.int .i64 x5)
  r0 : W.cell? ⟨g6, 0, none⟩ = some (.int .i64 n2)
  r1 : W.cell? ⟨g6, 1, none⟩ = some (.int .i64 n3)
  r2 : W.cell? ⟨g6, 2, none⟩ = some (.int .i64 n4)
  r3 : W.cell? ⟨g6, 3, none⟩ = some (.int .i64 n5)
theorem LpM.gr {th line x2 x3 x4 x5 n2 n3 n4 n5 : Int} {jb b g5 g6 : Nat} {W W' : World} (h : LpM th line x2 x3 x4 x5 n2 n3 n4 n5 jb b g5 g6 W) (hg : Gr W W') : LpM th line x2 x3 x4 x5 n2 n3 n4 n5 jb b g5 g6 W' :=
  ⟨Nat.lt_of_lt_of_le h.lj hg.size, Nat.lt_of_lt_of_le h.l5 hg.size, Nat.lt_of_lt_of_le h.l6 hg.size, h.bf.gr hg, (hg.cell (p := ⟨jb, 1, none⟩) h.lj).trans h.j1, (hg.cell (p := ⟨g5, 1, none⟩) h.l5).trans h.p1, (hg.cell (p := ⟨g5, 4, none⟩) h.l5).trans h.p4, (hg.cell (p := ⟨g5, 7, none⟩) h.l5).trans h.p7, (hg.cell (p := ⟨g5, 10, none⟩) h.l5).trans h.p10, (hg.cell (p := ⟨g5, 2, none⟩) h.l5).trans h.p2, (hg.cell (p := ⟨g5, 5, none⟩) h.l5).trans h.p5, (hg.cell (p := ⟨g5, 8, none⟩) h.l5).trans h.p8, (hg.cell (p := ⟨g5, 11, none⟩) h.l5).trans h.p11, (hg.cell (p := ⟨g6, 0, none⟩) h.l6).trans h.r0, (hg.cell (p := ⟨g6, 1, none⟩) h.l6).trans h.r1, (hg.cell (p := ⟨g6, 2, none⟩) h.l6).trans h.r2, (hg.cell (p := ⟨g6, 3, none⟩) h.l6).trans h.r3⟩
def ErrK (th x2 x3 x4 x5 n2 n3 n4 n5 : Int) (k : Nat) (x : Int) : Prop :=
  (k = 2 ∧ x = x2 ∧ wi n2 (-20000) 20000 = false) ∨ (k = 3 ∧ x = x3 ∧ wi n2 (-20000) 20000 = true ∧ wi n3 0 th = false) ∨ (k = 4 ∧ x = x4 ∧ wi n2 (-20000) 20000 = true ∧ wi n3 0 th = true ∧ wi n4 (-20000) 20000 = false) ∨
    (k = 5 ∧ x = x5 ∧ wi n2 (-20000) 20000 = true ∧ wi n3 0 th = true ∧ wi n4 (-20000) 20000 = true ∧ wi n5 0 th = false)
set_option maxRecDepth 100000 in
set_option maxHeartbeats 8000000 in
theorem addLoop {th line x2 x3 x4 x5 n2 n3 n4 n5 : Int} {jb b g5 g6 q1 q2 : Nat} {W : World} (M : LpM th line x2 x3 x4 x5 n2 n3 n4 n5 jb b g5 g6 W) (_d5 : ¬ g5 = b) {t1 t2 t3 t5 t8 t9 t10 t11 t12 t13 t14 t15 t16 t17 t18 t19 t20 t21 t22 t23 t24 t25 t26 t27 t28 t29 t30 t31 t32 t33 t34 t35 t36 t37 t38 t39 t40 t41 t42 t43 t44 t45 t46 t47 t48 t49 t50 t51 t52 t53 t54 t55 t56 t57 t58 t59 t60 t61 t62 t63 t64 t65 t66 t67 t68 t69 t70 t71 t72 t73 t74 t75 t76 t77 t80 t81 t82 t83 t84 t85 t86 t87 t88 t89 t90 t91 t92 t93 t94 t95 t96 t97 t98 t99 t100 t101 t102 t103 t104 t105 t106 t107 t108 t109 t110 t111 t112 t113 t114 t115 t116 t117 t118 t119 t120 t121 t122 t123 t124 t125 t126 t127 : Value} {ds : List Deferred} (Q' : Exit → Act → World → Prop)
    (h1 : ∀ (t11 t79 t80 t81 t82 t83 t84 t85 t86 t87 t88 t89 t90 t91 t92 t93 t94 t95 t96 t97 t98 t99 t100 t101 t102 t103 t104 t105 t106 t107 t108 t109 t110 t111 t112 t113 t114 t115 t116 : Value) (k : Nat) (x : Int) (w' : World), Gr W w' → Hid (ErrK th x2 x3 x4 x5 n2 n3 n4 n5 k x) → Q' .ret ⟨#[.pointer (some ⟨jb, 0, none⟩), t1, t2, t3, .pointer (some ⟨b, 0, none⟩), t5, .slice (some ⟨g5, 0, none⟩) 4 q1, .slice (some ⟨g6, 0, none⟩) 4 q2, t8, t9, t10, t11, t12, t13, t14, t15, t16, t17, t18, t19, t20, t21, t22, t23, t24, t25, t26, t27, t28, t29, t30, t31, t32, t33, t34, t35, t36, t37, t38, t39, t40, t41, t42, t43, t44, t45, t46, t47, t48, t49, t50, t51, t52, t53, t54, t55, t56, t57, t58, t59, t60, t61, t62, t63, t64, t65, t66, t67, t68, t69, t70, t71, t72, t73, t74, t75, t76, t77, .int .i64 4, t79, t80, t81, t82, t83, t84, t85, t86, t87, t88, t89, t90, t91, t92, t93, t94, t95, t96, t97, t98, t99, t100, t101, t102, t103, t104, t105, t106, t107, t108, t109, t110, t111, t112, t113, t114, t115, t116, t117, t118, t119, t120, t121, t122, t123, t124, t125, t126, t127], ds⟩ (((w'.setCell ⟨b, 0, none⟩ (.int .i64 line)).setCell ⟨b, 1, none⟩ (.int .i64 x)).setCell ⟨b, 2, none⟩ (.int .i64 2)))
    (h2 : ∀ (t11 t79 t80 t81 t82 t83 t84 t85 t86 t87 t88 t89 t90 t91 t92 t93 t94 t95 t96 t97 t98 t99 t100 t101 t102 t103 t104 t105 t106 t107 t108 t109 t110 t111 t112 t113 t114 t115 t116 : Value) (w' : World), Gr W w' → Hid (wi n2 (-20000) 20000 = true ∧ wi n3 0 th = true ∧ wi n4 (-20000) 20000 = true ∧ wi n5 0 th = true) → Q' (.exit 1) ⟨#[.pointer (some ⟨jb, 0, none⟩), t1, t2, t3, .pointer (some ⟨b, 0, none⟩), t5, .slice (some ⟨g5, 0, none⟩) 4 q1, .slice (some ⟨g6, 0, none⟩) 4 q2, t8, t9, t10, t11, t12, t13, t14, t15, t16, t17, t18, t19, t20, t21, t22, t23, t24, t25, t26, t27, t28, t29, t30, t31, t32, t33, t34, t35, t36, t37, t38, t39, t40, t41, t42, t43, t44, t45, t46, t47, t48, t49, t50, t51, t52, t53, t54, t55, t56, t57, t58, t59, t60, t61, t62, t63, t64, t65, t66, t67, t68, t69, t70, t71, t72, t73, t74, t75, t76, t77, .int .i64 4, t79, t80, t81, t82, t83, t84, t85, t86, t87, t88, t89, t90, t91, t92, t93, t94, t95, t96, t97, t98, t99, t100, t101, t102, t103, t104, t105, t106, t107, t108, t109, t110, t111, t112, t113, t114, t115, t116, t117, t118, t119, t120, t121, t122, t123, t124, t125, t126, t127], ds⟩ w') :
    (Code.loop (bodyOf Tryz.f42 0)).wp Tryz.prog Q' ⟨#[.pointer (some ⟨jb, 0, none⟩), t1, t2, t3, .pointer (some ⟨b, 0, none⟩), t5, .slice (some ⟨g5, 0, none⟩) 4 q1, .slice (some ⟨g6, 0, none⟩) 4 q2, t8, t9, t10, t11, t12, t13, t14, t15, t16, t17, t18, t19, t20, t21, t22, t23, t24, t25, t26, t27, t28, t29, t30, t31, t32, t33, t34, t35, t36, t37, t38, t39, t40, t41, t42, t43, t44, t45, t46, t47, t48, t49, t50, t51, t52, t53, t54, t55, t56, t57, t58, t59, t60, t61, t62, t63, t64, t65, t66, t67, t68, t69, t70, t71, t72, t73, t74, t75, t76, t77, .int .i64 4, .int .i64 0, t80, t81, t82, t83, t84, t85, t86, t87, t88, t89, t90, t91, t92, t93, t94, t95, t96, t97, t98, t99, t100, t101, t102, t103, t104, t105, t106, t107, t108, t109, t110, t111, t112, t113, t114, t115, t116, t117, t118, t119, t120, t121, t122, t123, t124, t125, t126, t127], ds⟩ W := by
  have H1 := Lib.hid h1; have H2 := Lib.hid h2
  clear h1 h2
  conv in (bodyOf _ _) => whnf
  dsimp only
  go_loopw [79] (fun s79 wr => ∃ i : Int, s79 = .int .i64 i ∧ (i = 0 ∨ i = 1 ∨ i = 2 ∨ i = 3 ∨ i = 4) ∧ Hid (1 ≤ i → wi n2 (-20000) 20000 = true) ∧ Hid (2 ≤ i → wi n3 0 th = true) ∧ Hid (3 ≤ i → wi n4 (-20000) 20000 = true) ∧ Hid (4 ≤ i → wi n5 0 th = true) ∧ Gr W wr) (fun i _ => 4 - (RowKit.intOf i).toNat)
  case atStart => exact ⟨0, rfl, .inl rfl, Lib.hid (fun h => absurd h (by omega)), Lib.hid (fun h => absurd h (by omega)), Lib.hid (fun h => absurd h (by omega)), Lib.hid (fun h => absurd h (by omega)), Below.refl _ _⟩
  case round =>
    obtain ⟨i, rfl, hi, K0, K1, K2, K3, hG⟩ := hrel
    have HG := Lib.hid hG
    have HM := Lib.hid (M.gr hG)
    clear M hG
    obtain ⟨lj, l5, l6, _, j1, p1, p4, p7, p10, p2, p5, p8, p11, r0, r1, r2, r3⟩ := HM.out
    rcases hi with rfl | rfl | rfl | rfl | rfl
    · cases q : wi n2 (-20000) 20000 with
      | false =>
        have HE : Hid (ErrK th x2 x3 x4 x5 n2 n3 n4 n5 2 x2) := Lib.hid (by unfold ErrK; exact .inl ⟨rfl, rfl, q⟩)
        have HQ := Lib.hid q
        clear q
        go_upto_region 16 with fail
        refine addReg16_0 (b := false) (nb := true) HQ.out rfl r0 l6 _ ?_
        intro s82 s83 s84 s85 s86 s87 s88 s89 s90 s91 s92 s93 s94 s95 s96 s97 s98 s99 s100 s101 s102 s103 s104 s105 s106 s107 s108 ww hS
        try dsimp only
        have HG2 := Lib.hid (Gr.trans HG.out hS)
        have HM2 := Lib.hid (HM.out.gr hS)
        clear lj l5 l6 j1 p1 p4 p7 p10 p2 p5 p8 p11 r0 r1 r2 r3
        obtain ⟨lj, l5, l6, bf, j1, p1, p4, p7, p10, p2, p5, p8, p11, r0, r1, r2, r3⟩ := HM2.out
        obtain ⟨f0, f1, f2, ff⟩ := blk3 bf
        have lf := bf.lt
        go_wp2
        exact H1.out _ _ _ _ _ _ _ _ _ _ _ _ _ _ _ _ _ _ _ _ _ _ _ _ _ _ _ _ _ _ _ _ _ _ _ _ _ _ _ _ _ _ HG2.out HE
      | true =>
        have HQ := Lib.hid q
        go_upto_region 16 with fail
        refine addReg16_0 (b := true) (nb := false) HQ.out rfl r0 l6 _ ?_
        intro s82 s83 s84 s85 s86 s87 s88 s89 s90 s91 s92 s93 s94 s95 s96 s97 s98 s99 s100 s101 s102 s103 s104 s105 s106 s107 s108 ww hS
        try dsimp only
        have HG2 := Lib.hid (Gr.trans HG.out hS)
        go_wp2
        exact ⟨⟨1, by go_num, .inr (.inl rfl), Lib.hid (fun _ => by first | trivial | exact q), Lib.hid (fun h => absurd h (by omega)), Lib.hid (fun h => absurd h (by omega)), Lib.hid (fun h => absurd h (by omega)), HG2.out⟩, by simp [RowKit.intOf]⟩
    · cases q : wi n3 0 th with
      | false =>
        have HE : Hid (ErrK th x2 x3 x4 x5 n2 n3 n4 n5 3 x3) := Lib.hid (by unfold ErrK; exact .inr (.inl ⟨rfl, rfl, K0.out (by omega), q⟩))
        have HQ := Lib.hid q
        clear q
        go_upto_region 16 with fail
        refine addReg16_1 (b := false) (nb := true) HQ.out rfl r1 l6 j1 lj _ ?_
        intro s82 s83 s84 s85 s86 s87 s88 s89 s90 s91 s92 s93 s94 s95 s96 s97 s98 s99 s100 s101 s102 s103 s104 s105 s106 s107 s108 ww hS
        try dsimp only
        have HG2 := Lib.hid (Gr.trans HG.out hS)
        have HM2 := Lib.hid (HM.out.gr hS)
        clear lj l5 l6 j1 p1 p4 p7 p10 p2 p5 p8 p11 r0 r1 r2 r3
        obtain ⟨lj, l5, l6, bf, j1, p1, p4, p7, p10, p2, p5, p8, p11, r0, r1, r2, r3⟩ := HM2.out
        obtain ⟨f0, f1, f2, ff⟩ := blk3 bf
        have lf := bf.lt
        go_wp2
        exact H1.out _ _ _ _ _ _ _ _ _ _ _ _ _ _ _ _ _ _ _ _ _ _ _ _ _ _ _ _ _ _ _ _ _ _ _ _ _ _ _ _ _ _ HG2.out HE
      | true =>
        have HQ := Lib.hid q
        go_upto_region 16 with fail
        refine addReg16_1 (b := true) (nb := false) HQ.out rfl r1 l6 j1 lj _ ?_
        intro s82 s83 s84 s85 s86 s87 s88 s89 s90 s91 s92 s93 s94 s95 s96 s97 s98 s99 s100 s101 s102 s103 s104 s105 s106 s107 s108 ww hS
        try dsimp only
        have HG2 := Lib.hid (Gr.trans HG.out hS)
        go_wp2
        exact ⟨⟨2, by go_num, .inr (.inr (.inl rfl)), Lib.hid (fun _ => by first | trivial | exact K0.out (by omega)), Lib.hid (fun _ => by first | trivial | exact q), Lib.hid (fun h => absurd h (by omega)), Lib.hid (fun h => absurd h (by omega)), HG2.out⟩, by simp [RowKit.intOf]⟩
    · cases q : wi n4 (-20000) 20000 with
      | false =>
        have HE : Hid (ErrK th x2 x3 x4 x5 n2 n3 n4 n5 4 x4) := Lib.hid (by unfold ErrK; exact .inr (.inr (.inl ⟨rfl, rfl, K0.out (by omega), K1.out (by omega), q⟩)))
        have HQ := Lib.hid q
        clear q
        go_upto_region 16 with fail
        refine addReg16_2 (b := false) (nb := true) HQ.out rfl r2 l6 _ ?_
        intro s82 s83 s84 s85 s86 s87 s88 s89 s90 s91 s92 s93 s94 s95 s96 s97 s98 s99 s100 s101 s102 s103 s104 s105 s106 s107 s108 ww hS
        try dsimp only
        have HG2 := Lib.hid (Gr.trans HG.out hS)
        have HM2 := Lib.hid (HM.out.gr hS)
        clear lj l5 l6 j1 p1 p4 p7 p10 p2 p5 p8 p11 r0 r1 r2 r3
        obtain ⟨lj, l5, l6, bf, j1, p1, p4, p7, p10, p2, p5, p8, p11, r0, r1, r2, r3⟩ := HM2.out
        obtain ⟨f0, f1, f2, ff⟩ := blk3 bf
        have lf := bf.lt
        go_wp2
        exact H1.out _ _ _ _ _ _ _ _ _ _ _ _ _ _ _ _ _ _ _ _ _ _ _ _ _ _ _ _ _ _ _ _ _ _ _ _ _ _ _ _ _ _ HG2.out HE
      | true =>
        have HQ := Lib.hid q
        go_upto_region 16 with fail
        refine addReg16_2 (b := true) (nb := false) HQ.out rfl r2 l6 _ ?_
        intro s82 s83 s84 s85 s86 s87 s88 s89 s90 s91 s92 s93 s94 s95 s96 s97 s98 s99 s100 s101 s102 s103 s104 s105 s106 s107 s108 ww hS
        try dsimp only
        have HG2 := Lib.hid (Gr.trans HG.out hS)
        go_wp2
        exact ⟨⟨3, by go_num, .inr (.inr (.inr (.inl rfl))), Lib.hid (fun _ => by first | trivial | exact K0.out (by omega)), Lib.hid (fun _ => by first | trivial | exact K1.out (by omega)), Lib.hid (fun _ => by first | trivial | exact q), Lib.hid (fun h => absurd h (by omega)), HG2.out⟩, by simp [RowKit.intOf]⟩
    · cases q : wi n5 0 th with
      | false =>
        have HE : Hid (ErrK th x2 x3 x4 x5 n2 n3 n4 n5 5 x5) := Lib.hid (by unfold ErrK; exact .inr (.inr (.inr (⟨rfl, rfl, K0.out (by omega), K1.out (by omega), K2.out (by omega), q⟩))))
        have HQ := Lib.hid q
        clear q
        go_upto_region 16 with fail
        refine addReg16_3 (b := false) (nb := true) HQ.out rfl r3 l6 j1 lj _ ?_
        intro s82 s83 s84 s85 s86 s87 s88 s89 s90 s91 s92 s93 s94 s95 s96 s97 s98 s99 s100 s101 s102 s103 s104 s105 s106 s107 s108 ww hS
        try dsimp only
        have HG2 := Lib.hid (Gr.trans HG.out hS)
        have HM2 := Lib.hid (HM.out.gr hS)
        clear lj l5 l6 j1 p1 p4 p7 p10 p2 p5 p8 p11 r0 r1 r2 r3
        obtain ⟨lj, l5, l6, bf, j1, p1, p4, p7, p10, p2, p5, p8, p11, r0, r1, r2, r3⟩ := HM2.out
        obtain ⟨f0, f1, f2, ff⟩ := blk3 bf
        have lf := bf.lt
        go_wp2
        exact H1.out _ _ _ _ _ _ _ _ _ _ _ _ _ _ _ _ _ _ _ _ _ _ _ _ _ _ _ _ _ _ _ _ _ _ _ _ _ _ _ _ _ _ HG2.out HE
      | true =>
        have HQ := Lib.hid q
        go_upto_region 16 with fail
        refine addReg16_3 (b := true) (nb := false) HQ.out rfl r3 l6 j1 lj _ ?_
        intro s82 s83 s84 s85 s86 s87 s88 s89 s90 s91 s92 s93 s94 s95 s96 s97 s98 s99 s100 s101 s102 s103 s104 s105 s106 s107 s108 ww hS
        try dsimp only
        have HG2 := Lib.hid (Gr.trans HG.out hS)
        go_wp2
        exact ⟨⟨4, by go_num, .inr (.inr (.inr (.inr (rfl)))), Lib.hid (fun _ => by first | trivial | exact K0.out (by omega)), Lib.hid (fun _ => by first | trivial | exact K1.out (by omega)), Lib.hid (fun _ => by first | trivial | exact K2.out (by omega)), Lib.hid (fun _ => by first | trivial | exact q), HG2.out⟩, by simp [RowKit.intOf]⟩
    · have HOK := Lib.hid (And.intro (K0.out (by omega)) (And.intro (K1.out (by omega)) (And.intro (K2.out (by omega)) (K3.out (by omega)))))
      go_wp2
      exact H2.out _ _ _ _ _ _ _ _ _ _ _ _ _ _ _ _ _ _ _ _ _ _ _ _ _ _ _ _ _ _ _ _ _ _ _ _ _ _ _ _ HG.out HOK
end Go.Proofs.YtaekcfancfoccaaGreatDoor

namespace Go.Proofs.YtaekcfancfoccaaGreatDoor
open Go.RowKit Go.Lib

structure KeepsTwo (jb : Nat) (row : Option Nat) (W W' : World) : Prop where
  rest : W'.os = W.os ∧ W'.tape = W.tape ∧ W'.output = W.output
  size : W.heap.size ≤ W'.heap.size
  same : ∀ g, g < W.heap.size → g ≠ jb → some g ≠ row → W'.heap[g]? = W.heap[g]?
theorem KeepsTwo.refl (jb : Nat) (row : Option Nat) (W : World) : KeepsTwo jb row W W := ⟨⟨rfl, rfl, rfl⟩, Nat.le_refl _, fun _ _ _ _ => rfl⟩
theorem KeepsTwo.trans {jb : Nat} {row : Option Nat} {X Y Z : World} (h : KeepsTwo jb row X Y) (k : KeepsTwo jb row Y Z) : KeepsTwo jb row X Z :=
  ⟨⟨k.rest.1.trans h.rest.1, k.rest.2.1.trans h.rest.2.1, k.rest.2.2.trans h.rest.2.2⟩, Nat.le_trans h.size k.size, fun g hg h1 h2 => (k.same g (Nat.lt_of_lt_of_le hg h.size) h1 h2).trans (h.same g hg h1 h2)⟩
theorem KeepsTwo.gr {jb : Nat} {row : Option Nat} {X Y Z : World} (h : KeepsTwo jb row X Y) (k : Gr Y Z) : KeepsTwo jb row X Z :=
  h.trans ⟨⟨Below.os k, Below.tape k, Below.output k⟩, Below.size k, fun g hg _ _ => k.block g hg⟩
theorem KeepsTwo.grown {jb : Nat} {row : Option Nat} {X Y Z : World} (h : KeepsTwo jb row X Y) (k : Y.grownBy Z row) : KeepsTwo jb row X Z :=
  h.trans ⟨⟨k.os, k.tape, k.output⟩, k.size, fun g hg _ h2 => k.block g hg h2⟩
theorem KeepsTwo.set {jb : Nat} {row : Option Nat} {X Y : World} (h : KeepsTwo jb row X Y) (i : Nat) (u : Value) : KeepsTwo jb row X (Y.setCell ⟨jb, i, none⟩ u) :=
  h.trans ⟨⟨rfl, rfl, rfl⟩, by simp [World.setCell], fun g _ h1 _ => Below.heap_setCell Y ⟨jb, i, none⟩ u g h1⟩
theorem KeepsTwo.below {jb B : Nat} {row : Option Nat} {W W' : World} (h : KeepsTwo jb row W W') (hB : B ≤ W.heap.size) (hj : B ≤ jb) (hr : ∀ r, row = some r → B ≤ r) : Below B W W' :=
  ⟨h.rest.1, h.rest.2.1, h.rest.2.2, h.size, fun g hg => h.same g (by omega) (by omega) (fun e => by have := hr g e.symm; omega)⟩
def AddR (j : Jo) (jb base : Nat) (AF : Option Addr) (cf : Nat) (w w' : World) : Option (ByteArray × Fc) → Prop
  | none => Below w.heap.size w w'
  | some p => ∃ (A' : Option Addr) (c' : Nat), Blk w' jb 24 (joC { j with fs := j.fs ++ [p] } A' c') ∧ w'.ownsRow base 83 5 (.slice A' (j.fs.length + 1) c') (j.fs.length + 1) (fcsC (j.fs ++ [p])) ∧ KeepsTwo jb (Value.slice AF j.fs.length cf).ownBlock w w'
theorem blk5 {w : World} {g t : Nat} {v0 v1 v2 v3 v4 : Value} (h : Blk w g t #[v0, v1, v2, v3, v4]) : w.cell? ⟨g, 0, none⟩ = some v0 ∧ w.cell? ⟨g, 1, none⟩ = some v1 ∧ w.cell? ⟨g, 2, none⟩ = some v2 ∧ w.cell? ⟨g, 3, none⟩ = some v3 ∧ w.cell? ⟨g, 4, none⟩ = some v4 ∧ ∀ i, w.frozen? ⟨g, i, none⟩ = false := ⟨h.cell 0, h.cell 1, h.cell 2, h.cell 3, h.cell 4, h.frozen⟩
theorem Blk.set5 {g : Nat} {b : World} {t : TypeId} {v0 v1 v2 v3 v4 : Value} (h : Blk b g t #[v0, v1, v2, v3, v4]) (u0 u1 u2 u3 u4 : Value) : Blk (((((b.setCell ⟨g, 0, none⟩ u0).setCell ⟨g, 1, none⟩ u1).setCell ⟨g, 2, none⟩ u2).setCell ⟨g, 3, none⟩ u3).setCell ⟨g, 4, none⟩ u4) g t #[u0, u1, u2, u3, u4] := ((((h.set_ 0 u0).set_ 1 u1).set_ 2 u2).set_ 3 u3).set_ 4 u4
theorem Below.set5 {n g : Nat} {a b : World} {u0 u1 u2 u3 u4 : Value} (h : Below n a b) (hg : n ≤ g) : Below n a (((((b.setCell ⟨g, 0, none⟩ u0).setCell ⟨g, 1, none⟩ u1).setCell ⟨g, 2, none⟩ u2).setCell ⟨g, 3, none⟩ u3).setCell ⟨g, 4, none⟩ u4) := ((((h.setCell hg _).setCell hg _).setCell hg _).setCell hg _).setCell hg _
theorem wp_append_at {P : Program} (w : World) {o : Oper} {a : Act} {K : Act → World → Prop} {Q : Exit → Act → World → Prop} (s x : Operand) (t : TypeId)
    (ho : o.op = .call { callee := .builtin .append, args := #[s, x], argTypes := #[t, t] })
    (base : Nat) (e : TypeId) (i : TypeInfo) (z : Value) (size bytes : Nat) (ht : P.underlying t = some (.slice e)) (hi : P.info? e = some i) (hz : i.zero = some z)
    (hsize : i.size = size) (hby : i.bytes = bytes) (hzs : z.cells.size = size) (hsz : 0 < size)
    (v : Value) (n : Nat) (xs : List Value) (hs : a.eval s = v) (hown : w.ownsRow base e size v n xs)
    (ad : Addr) (m c : Nat) (news : List Value) (hx : a.eval x = .slice (some ad) m c) (hl : news.length = m * size) (hnews : ∀ j u, news[j]? = some u → w.cell? (ad.add j) = some u) (h1 : ∀ u ∈ news, u.oneCell' = true)
    (h63 : n + m ≤ maxLen) (hbytes : (n + m) * bytes ≤ 140737488355328) (hbase : base ≤ w.heap.size)
    (h : ∀ v' w', w'.ownsRow base e size v' (n + m) (xs ++ news) → w.grownBy w' v.ownBlock → (v'.ownBlock = v.ownBlock ∨ v'.ownBlock = some w.heap.size) → K (a.put o.dst v') w') : o.wp P a w K Q := by
  obtain ⟨v', w', hr, h2, h3, _, h5⟩ := run_append_own_at (P := P) w base t o.type e i z size bytes ht hi hz hsize hby hzs hsz v n xs hown ad m c news hl hnews h1 h63 hbytes hbase
  unfold Oper.wp execOp
  simp only [ho, resolve, invoke, builtin, Sem.run_bind, Sem.run_pure, Result.andThen_ok, List.map_toArray, List.map_cons, List.map_nil, hs, hx, hr]
  exact h v' w' h2 h3 h5
theorem grown1 (w : World) (g i : Nat) (u : Value) : w.grownBy (w.setCell ⟨g, i, none⟩ u) (some g) := only_setCell (World.grownBy.refl _ _) (p := ⟨g, i, none⟩) (.inl rfl) u
theorem fcsC_snoc (fs : List (ByteArray × Fc)) (p : ByteArray × Fc) : fcsC (fs ++ [p]) = fcsC fs ++ [.string p.1, .int .i64 p.2.fx, .int .i64 p.2.fz, .int .i64 p.2.tx, .int .i64 p.2.tz] := by simp [fcsC]
set_option maxRecDepth 100000 in
set_option maxHeartbeats 8000000 in
theorem addReg19 {W : World} {jb gz base cf : Nat} {j : Jo} {nm : ByteArray} {n2 n3 n4 n5 : Int} {AF : Option Addr} (bj : Blk W jb 24 #[.string j.nm, .int .i64 j.thick, .int .i64 j.zone, .slice AF j.fs.length cf]) (bz : Blk W gz 83 #[.string nm, .int .i64 n2, .int .i64 n3, .int .i64 n4, .int .i64 n5])
    (o8 : W.ownsRow base 83 5 (.slice AF j.fs.length cf) j.fs.length (fcsC j.fs)) (hbase : base ≤ W.heap.size) (hlen : j.fs.length ≤ 12) (hrz : (Value.slice AF j.fs.length cf).ownBlock ≠ some gz) {t1 t2 t3 t4 t5 t6 t7 t8 t10 t11 t12 t13 t14 t15 t16 t17 t18 t19 t20 t21 t22 t23 t24 t25 t26 t27 t28 t29 t30 t31 t32 t33 t34 t35 t36 t37 t38 t39 t40 t41 t42 t43 t44 t45 t46 t47 t48 t49 t50 t51 t52 t53 t54 t55 t56 t57 t58 t59 t60 t61 t62 t63 t64 t65 t66 t67 t68 t69 t70 t71 t72 t73 t74 t75 t76 t77 t78 t79 t80 t81 t82 t83 t84 t85 t86 t87 t88 t89 t90 t91 t92 t93 t94 t95 t96 t97 t98 t99 t100 t101 t102 t103 t104 t105 t106 t107 t108 t109 t110 t111 t112 t113 t114 t115 t116 t117 t118 t119 t120 t121 t122 t123 t124 t125 t126 t127 : Value} {ds : List Deferred} (Q : Exit → Act → World → Prop)
    (h : ∀ (t117 t118 t119 t120 t121 t122 t123 t124 t125 t126 : Value) (A' : Option Addr) (c' : Nat) (w' : World), Blk w' jb 24 (joC { j with fs := j.fs ++ [(nm, ⟨n2, n3, n4, n5⟩)] } A' c') → w'.ownsRow base 83 5 (.slice A' (j.fs.length + 1) c') (j.fs.length + 1) (fcsC (j.fs ++ [(nm, ⟨n2, n3, n4, n5⟩)])) →
      KeepsTwo jb (Value.slice AF j.fs.length cf).ownBlock W w' → Q .normal ⟨#[.pointer (some ⟨jb, 0, none⟩), t1, t2, t3, t4, t5, t6, t7, t8, .pointer (some ⟨gz, 0, none⟩), t10, t11, t12, t13, t14, t15, t16, t17, t18, t19, t20, t21, t22, t23, t24, t25, t26, t27, t28, t29, t30, t31, t32, t33, t34, t35, t36, t37, t38, t39, t40, t41, t42, t43, t44, t45, t46, t47, t48, t49, t50, t51, t52, t53, t54, t55, t56, t57, t58, t59, t60, t61, t62, t63, t64, t65, t66, t67, t68, t69, t70, t71, t72, t73, t74, t75, t76, t77, t78, t79, t80, t81, t82, t83, t84, t85, t86, t87, t88, t89, t90, t91, t92, t93, t94, t95, t96, t97, t98, t99, t100, t101, t102, t103, t104, t105, t106, t107, t108, t109, t110, t111, t112, t113, t114, t115, t116, t117, t118, t119, t120, t121, t122, t123, t124, t125, t126, t127], ds⟩ w') :
    (regOf Tryz.f42 19).wp Tryz.prog Q ⟨#[.pointer (some ⟨jb, 0, none⟩), t1, t2, t3, t4, t5, t6, t7, t8, .pointer (some ⟨gz, 0, none⟩), t10, t11, t12, t13, t14, t15, t16, t17, t18, t19, t20, t21, t22, t23, t24, t25, t26, t27, t28, t29, t30, t31, t32, t33, t34, t35, t36, t37, t38, t39, t40, t41, t42, t43, t44, t45, t46, t47, t48, t49, t50, t51, t52, t53, t54, t55, t56, t57, t58, t59, t60, t61, t62, t63, t64, t65, t66, t67, t68, t69, t70, t71, t72, t73, t74, t75, t76, t77, t78, t79, t80, t81, t82, t83, t84, t85, t86, t87, t88, t89, t90, t91, t92, t93, t94, t95, t96, t97, t98, t99, t100, t101, t102, t103, t104, t105, t106, t107, t108, t109, t110, t111, t112, t113, t114, t115, t116, t117, t118, t119, t120, t121, t122, t123, t124, t125, t126, t127], ds⟩ W := by
  have H := Lib.hid h; clear h
  obtain ⟨i0, hi, iz0, iz1, iz2⟩ := info_parts infoFace
  have K2 := KeepsTwo.refl jb (Value.slice AF j.fs.length cf).ownBlock W.drew
  have K20 : KeepsTwo jb (Value.slice AF j.fs.length cf).ownBlock W W.drew := ⟨⟨rfl, rfl, rfl⟩, Nat.le_refl _, fun _ _ _ _ => rfl⟩
  have hrj := own_blk_ne o8 bj (by decide)
  have bj := bj.drew
  have bz := bz.drew
  have o8 := o8.drew
  have hbs : base ≤ W.drew.heap.size := hbase
  have HR1 := Lib.hid hrz; have HR2 := Lib.hid hrj
  clear hrz hrj hbase
  conv in (regOf _ _) => whnf
  refine wp_region_w (fun w' => Blk w' gz 83 #[.string nm, .int .i64 n2, .int .i64 n3, .int .i64 n4, .int .i64 n5]) (by kernel_rfl) (bz) ?_
  refine wpW_det (t' := ?ct0R1) 0 (by rfl) (by kernel_rfl) (NQ_free _) (by kernel_rfl) ?cw0R1 ?ch0R1 ?ca0R1 (Eq.refl _) ?cH0R1
  case cw0R1 => (go_simp; done)
  case ch0R1 =>
    intro ds w' hS K hK
    obtain ⟨z0, z1, z2, z3, z4, zf⟩ := blk5 hS
    have lz := Blk.lt hS
    go_simp
    try go_bits
    exact hK _ hS (Gr.refl _)
  case ca0R1 => (first | (simp [Act.put]; done) | (simp [Act.put, *]; done))
  try dsimp only
  refine wpW_det (t' := ?ct1R1) 1 (by rfl) (by kernel_rfl) (NQ_free _) (by kernel_rfl) ?cw1R1 ?ch1R1 ?ca1R1 (Eq.refl _) ?cH1R1
  case cw1R1 => (go_simp; done)
  case ch1R1 =>
    intro ds w' hS K hK
    obtain ⟨z0, z1, z2, z3, z4, zf⟩ := blk5 hS
    have lz := Blk.lt hS
    go_simp
    try go_bits
    exact hK _ hS (Gr.refl _)
  case ca1R1 => (first | (simp [Act.put]; done) | (simp [Act.put, *]; done))
  try dsimp only
  refine wpW_det (t' := ?ct2R1) 2 (by rfl) (by kernel_rfl) (NQ_free _) (by kernel_rfl) ?cw2R1 ?ch2R1 ?ca2R1 (Eq.refl _) ?cH2R1
  case cw2R1 => (go_simp; done)
  case ch2R1 =>
    intro ds w' hS K hK
    obtain ⟨z0, z1, z2, z3, z4, zf⟩ := blk5 hS
    have lz := Blk.lt hS
    go_simp
    try go_bits
    exact hK _ hS (Gr.refl _)
  case ca2R1 => (first | (simp [Act.put]; done) | (simp [Act.put, *]; done))
  try dsimp only
  refine wpW_det (t' := ?ct3R1) 3 (by rfl) (by kernel_rfl) (NQ_free _) (by kernel_rfl) ?cw3R1 ?ch3R1 ?ca3R1 (Eq.refl _) ?cH3R1
  case cw3R1 => (go_simp; done)
  case ch3R1 =>
    intro ds w' hS K hK
    obtain ⟨z0, z1, z2, z3, z4, zf⟩ := blk5 hS
    have lz := Blk.lt hS
    go_simp
    try go_bits
    exact hK _ hS (Gr.refl _)
  case ca3R1 => (first | (simp [Act.put]; done) | (simp [Act.put, *]; done))
  try dsimp only
  refine wpW_det (t' := ?ct5R1) 5 (by rfl) (by kernel_rfl) (NQ_free _) (by kernel_rfl) ?cw5R1 ?ch5R1 ?ca5R1 (Eq.refl _) ?cH5R1
  case cw5R1 => (go_simp; done)
  case ch5R1 =>
    intro ds w' hS K hK
    obtain ⟨z0, z1, z2, z3, z4, zf⟩ := blk5 hS
    have lz := Blk.lt hS
    go_simp
    try go_bits
    exact hK _ hS (Gr.refl _)
  case ca5R1 => (first | (simp [Act.put]; done) | (simp [Act.put, *]; done))
  try dsimp only
  refine wpW_branch [4, 6] (by kernel_rfl) (by simp) ?_
  intro w1 hg1 hS1
  replace bj := Blk.gr bj hg1
  replace bz := Blk.gr bz hg1
  replace K2 := KeepsTwo.gr K2 hg1
  replace hbs := Nat.le_trans hbs (Below.size hg1)
  try clear j0 j1 j2 j3 jf lj
  obtain ⟨j0, j1, j2, j3, jf⟩ := blk4 bj
  have lj := bj.lt
  try replace o8 := own_below o8 hg1
  try replace o9 := own_below o9 hg1
  try replace bn := Blk.gr bn hg1
  refine each_cons ?_ (each_cons ?_ (each_nil))
  · refine wpOp_go (by rfl) (Eq.refl _) (by go_simp; done) ?_
    intro K hK
    go_simp
    try simp only [Act.put]
    refine hK _ _ bz ?_
    clear hK K
    refine wpW_branch [6] (by kernel_rfl) (by simp) ?_
    intro w2 hg2 hS2
    replace bj := Blk.gr bj hg2
    replace bz := Blk.gr bz hg2
    replace K2 := KeepsTwo.gr K2 hg2
    replace hbs := Nat.le_trans hbs (Below.size hg2)
    try clear j0 j1 j2 j3 jf lj
    obtain ⟨j0, j1, j2, j3, jf⟩ := blk4 bj
    have lj := bj.lt
    try replace o8 := own_below o8 hg2
    try replace o9 := own_below o9 hg2
    try replace bn := Blk.gr bn hg2
    refine each_cons ?_ (each_nil)
    · refine wpOp_go (by rfl) (Eq.refl _) (by go_simp; done) ?_
      intro K hK
      go_simp
      try simp only [Act.put]
      have bn := Blk.new w2 83 #[.string nm, .int .i64 n2, .int .i64 n3, .int .i64 n4, .int .i64 n5]
      have hal : Gr w2 (w2.alloc (.cells #[.string nm, .int .i64 n2, .int .i64 n3, .int .i64 n4, .int .i64 n5] 83)) := (Below.refl _ _).alloc (Nat.le_refl _) _
      replace bj := Blk.gr bj hal
      replace bz := Blk.gr bz hal
      replace K2 := KeepsTwo.gr K2 hal
      replace hbs := Nat.le_trans hbs (Below.size hal)
      replace o8 := own_below o8 hal
      clear hal j0 j1 j2 j3 jf lj
      generalize w2.heap.size = gn at *
      refine hK _ _ bz ?_
      clear hK K
      refine wpW_branch [7] (by kernel_rfl) (by simp) ?_
      intro w3 hg3 hS3
      replace bj := Blk.gr bj hg3
      replace bz := Blk.gr bz hg3
      replace K2 := KeepsTwo.gr K2 hg3
      replace hbs := Nat.le_trans hbs (Below.size hg3)
      try clear j0 j1 j2 j3 jf lj
      obtain ⟨j0, j1, j2, j3, jf⟩ := blk4 bj
      have lj := bj.lt
      try replace o8 := own_below o8 hg3
      try replace o9 := own_below o9 hg3
      try replace bn := Blk.gr bn hg3
      refine each_cons ?_ (each_nil)
      · refine wpOp_go (by rfl) (Eq.refl _) (by go_simp; done) ?_
        intro K hK
        refine wp_append_at _ (.tmp 121) (.tmp 123) 22 rfl base 83 i0 _ 5 48 Tryz.underlying22 hi iz0 iz1 iz2 rfl (by decide) _ j.fs.length (fcsC j.fs) rfl o8 ⟨gn, 0, none⟩ 1 1 [.string nm, .int .i64 n2, .int .i64 n3, .int .i64 n4, .int .i64 n5] rfl rfl ?hc (by simp [Value.oneCell']) (by unfold maxLen; omega) (by omega) hbs ?_
        case hc =>
          intro j u hj
          rw [Addr.add_lit, Nat.zero_add]
          exact (bn.cell j).trans (by simpa using hj)
        intro u12 wa hown' hgrow hat
        replace bj := bj.grown hgrow (fun e => HR2.out e.symm)
        replace bz := bz.grown hgrow (fun e => HR1.out e.symm)
        replace K2 := K2.grown hgrow
        replace hbs := Nat.le_trans hbs hgrow.size
        have o9 : wa.ownsRow base 83 5 u12 (j.fs.length + 1) (fcsC (j.fs ++ [(nm, ⟨n2, n3, n4, n5⟩)])) := by rw [fcsC_snoc]; exact hown'
        clear hown' hgrow hat
        obtain ⟨A', c', hv, _⟩ := Row.own o9
        subst hv
        clear o8 bn j0 j1 j2 j3 jf lj
        try simp only [Act.put]
        try simp only [List.setIfInBounds_toArray]
        refine hK _ _ bz ?_
        clear hK K
        refine wpW_branch [8] (by kernel_rfl) (by simp) ?_
        intro w4 hg4 hS4
        replace bj := Blk.gr bj hg4
        replace bz := Blk.gr bz hg4
        replace K2 := KeepsTwo.gr K2 hg4
        replace hbs := Nat.le_trans hbs (Below.size hg4)
        try clear j0 j1 j2 j3 jf lj
        obtain ⟨j0, j1, j2, j3, jf⟩ := blk4 bj
        have lj := bj.lt
        try replace o8 := own_below o8 hg4
        try replace o9 := own_below o9 hg4
        try replace bn := Blk.gr bn hg4
        refine each_cons ?_ (each_nil)
        · refine wpOp_go (by rfl) (Eq.refl _) (by go_simp; done) ?_
          intro K hK
          go_simp
          try simp only [Act.put]
          refine hK _ _ bz ?_
          clear hK K
          refine wpW_branch [9] (by kernel_rfl) (by simp) ?_
          intro w5 hg5 hS5
          replace bj := Blk.gr bj hg5
          replace bz := Blk.gr bz hg5
          replace K2 := KeepsTwo.gr K2 hg5
          replace hbs := Nat.le_trans hbs (Below.size hg5)
          try clear j0 j1 j2 j3 jf lj
          obtain ⟨j0, j1, j2, j3, jf⟩ := blk4 bj
          have lj := bj.lt
          try replace o8 := own_below o8 hg5
          try replace o9 := own_below o9 hg5
          try replace bn := Blk.gr bn hg5
          refine each_cons ?_ (each_nil)
          · refine wpOp_go (by rfl) (Eq.refl _) (by go_simp; done) ?_
            intro K hK
            go_simp
            try simp only [Act.put]
            refine hK _ _ bz ?_
            clear hK K
            refine wpW_branch [10] (by kernel_rfl) (by simp) ?_
            intro w6 hg6 hS6
            replace bj := Blk.gr bj hg6
            replace bz := Blk.gr bz hg6
            replace K2 := KeepsTwo.gr K2 hg6
            replace hbs := Nat.le_trans hbs (Below.size hg6)
            try clear j0 j1 j2 j3 jf lj
            obtain ⟨j0, j1, j2, j3, jf⟩ := blk4 bj
            have lj := bj.lt
            try replace o8 := own_below o8 hg6
            try replace o9 := own_below o9 hg6
            try replace bn := Blk.gr bn hg6
            refine each_cons ?_ (each_nil)
            · refine wpOp_go (by rfl) (Eq.refl _) (by go_simp; done) ?_
              intro K hK
              go_simp
              try simp only [Act.put]
              replace bz := bz.far (p := ⟨jb, 3, none⟩) (Blk.ne_ bz bj (by decide)) (.slice A' (j.fs.length + 1) c')
              replace o9 := o9.kept (grown1 w6 jb 3 (.slice A' (j.fs.length + 1) c')) (.inr (own_blk_ne o9 bj (by decide)))
              replace bj := bj.set_ 3 (.slice A' (j.fs.length + 1) c')
              replace K2 := K2.set 3 (.slice A' (j.fs.length + 1) c')
              refine hK _ _ bz ?_
              clear hK K j0 j1 j2 j3 jf lj hbs
              refine wpW_end (by kernel_rfl) ?_
              intro we hg hS
              unfold NQ
              dsimp only
              have bj := Blk.gr bj hg
              have o9 := own_below o9 hg
              have K2 := K20.trans (K2.gr hg)
              refine H.out _ _ _ _ _ _ _ _ _ _ A' c' we ?_ o9 K2
              unfold joC
              simpa using bj
  · refine wpOp_go (by rfl) (Eq.refl _) (by go_simp; done) ?_
    intro K hK
    go_simp
    try simp only [Act.put]
    have bn := Blk.new w1 83 #[.string nm, .int .i64 n2, .int .i64 n3, .int .i64 n4, .int .i64 n5]
    have hal : Gr w1 (w1.alloc (.cells #[.string nm, .int .i64 n2, .int .i64 n3, .int .i64 n4, .int .i64 n5] 83)) := (Below.refl _ _).alloc (Nat.le_refl _) _
    replace bj := Blk.gr bj hal
    replace bz := Blk.gr bz hal
    replace K2 := KeepsTwo.gr K2 hal
    replace hbs := Nat.le_trans hbs (Below.size hal)
    replace o8 := own_below o8 hal
    clear hal j0 j1 j2 j3 jf lj
    generalize w1.heap.size = gn at *
    refine hK _ _ bz ?_
    clear hK K
    refine wpW_branch [4] (by kernel_rfl) (by simp) ?_
    intro w2 hg2 hS2
    replace bj := Blk.gr bj hg2
    replace bz := Blk.gr bz hg2
    replace K2 := KeepsTwo.gr K2 hg2
    replace hbs := Nat.le_trans hbs (Below.size hg2)
    try clear j0 j1 j2 j3 jf lj
    obtain ⟨j0, j1, j2, j3, jf⟩ := blk4 bj
    have lj := bj.lt
    try replace o8 := own_below o8 hg2
    try replace o9 := own_below o9 hg2
    try replace bn := Blk.gr bn hg2
    refine each_cons ?_ (each_nil)
    · refine wpOp_go (by rfl) (Eq.refl _) (by go_simp; done) ?_
      intro K hK
      go_simp
      try simp only [Act.put]
      refine hK _ _ bz ?_
      clear hK K
      refine wpW_branch [7] (by kernel_rfl) (by simp) ?_
      intro w3 hg3 hS3
      replace bj := Blk.gr bj hg3
      replace bz := Blk.gr bz hg3
      replace K2 := KeepsTwo.gr K2 hg3
      replace hbs := Nat.le_trans hbs (Below.size hg3)
      try clear j0 j1 j2 j3 jf lj
      obtain ⟨j0, j1, j2, j3, jf⟩ := blk4 bj
      have lj := bj.lt
      try replace o8 := own_below o8 hg3
      try replace o9 := own_below o9 hg3
      try replace bn := Blk.gr bn hg3
      refine each_cons ?_ (each_nil)
      · refine wpOp_go (by rfl) (Eq.refl _) (by go_simp; done) ?_
        intro K hK
        refine wp_append_at _ (.tmp 121) (.tmp 123) 22 rfl base 83 i0 _ 5 48 Tryz.underlying22 hi iz0 iz1 iz2 rfl (by decide) _ j.fs.length (fcsC j.fs) rfl o8 ⟨gn, 0, none⟩ 1 1 [.string nm, .int .i64 n2, .int .i64 n3, .int .i64 n4, .int .i64 n5] rfl rfl ?hc (by simp [Value.oneCell']) (by unfold maxLen; omega) (by omega) hbs ?_
        case hc =>
          intro j u hj
          rw [Addr.add_lit, Nat.zero_add]
          exact (bn.cell j).trans (by simpa using hj)
        intro u12 wa hown' hgrow hat
        replace bj := bj.grown hgrow (fun e => HR2.out e.symm)
        replace bz := bz.grown hgrow (fun e => HR1.out e.symm)
        replace K2 := K2.grown hgrow
        replace hbs := Nat.le_trans hbs hgrow.size
        have o9 : wa.ownsRow base 83 5 u12 (j.fs.length + 1) (fcsC (j.fs ++ [(nm, ⟨n2, n3, n4, n5⟩)])) := by rw [fcsC_snoc]; exact hown'
        clear hown' hgrow hat
        obtain ⟨A', c', hv, _⟩ := Row.own o9
        subst hv
        clear o8 bn j0 j1 j2 j3 jf lj
        try simp only [Act.put]
        try simp only [List.setIfInBounds_toArray]
        refine hK _ _ bz ?_
        clear hK K
        refine wpW_branch [8] (by kernel_rfl) (by simp) ?_
        intro w4 hg4 hS4
        replace bj := Blk.gr bj hg4
        replace bz := Blk.gr bz hg4
        replace K2 := KeepsTwo.gr K2 hg4
        replace hbs := Nat.le_trans hbs (Below.size hg4)
        try clear j0 j1 j2 j3 jf lj
        obtain ⟨j0, j1, j2, j3, jf⟩ := blk4 bj
        have lj := bj.lt
        try replace o8 := own_below o8 hg4
        try replace o9 := own_below o9 hg4
        try replace bn := Blk.gr bn hg4
        refine each_cons ?_ (each_nil)
        · refine wpOp_go (by rfl) (Eq.refl _) (by go_simp; done) ?_
          intro K hK
          go_simp
          try simp only [Act.put]
          refine hK _ _ bz ?_
          clear hK K
          refine wpW_branch [9] (by kernel_rfl) (by simp) ?_
          intro w5 hg5 hS5
          replace bj := Blk.gr bj hg5
          replace bz := Blk.gr bz hg5
          replace K2 := KeepsTwo.gr K2 hg5
          replace hbs := Nat.le_trans hbs (Below.size hg5)
          try clear j0 j1 j2 j3 jf lj
          obtain ⟨j0, j1, j2, j3, jf⟩ := blk4 bj
          have lj := bj.lt
          try replace o8 := own_below o8 hg5
          try replace o9 := own_below o9 hg5
          try replace bn := Blk.gr bn hg5
          refine each_cons ?_ (each_nil)
          · refine wpOp_go (by rfl) (Eq.refl _) (by go_simp; done) ?_
            intro K hK
            go_simp
            try simp only [Act.put]
            refine hK _ _ bz ?_
            clear hK K
            refine wpW_branch [10] (by kernel_rfl) (by simp) ?_
            intro w6 hg6 hS6
            replace bj := Blk.gr bj hg6
            replace bz := Blk.gr bz hg6
            replace K2 := KeepsTwo.gr K2 hg6
            replace hbs := Nat.le_trans hbs (Below.size hg6)
            try clear j0 j1 j2 j3 jf lj
            obtain ⟨j0, j1, j2, j3, jf⟩ := blk4 bj
            have lj := bj.lt
            try replace o8 := own_below o8 hg6
            try replace o9 := own_below o9 hg6
            try replace bn := Blk.gr bn hg6
            refine each_cons ?_ (each_nil)
            · refine wpOp_go (by rfl) (Eq.refl _) (by go_simp; done) ?_
              intro K hK
              go_simp
              try simp only [Act.put]
              replace bz := bz.far (p := ⟨jb, 3, none⟩) (Blk.ne_ bz bj (by decide)) (.slice A' (j.fs.length + 1) c')
              replace o9 := o9.kept (grown1 w6 jb 3 (.slice A' (j.fs.length + 1) c')) (.inr (own_blk_ne o9 bj (by decide)))
              replace bj := bj.set_ 3 (.slice A' (j.fs.length + 1) c')
              replace K2 := K2.set 3 (.slice A' (j.fs.length + 1) c')
              refine hK _ _ bz ?_
              clear hK K j0 j1 j2 j3 jf lj hbs
              refine wpW_end (by kernel_rfl) ?_
              intro we hg hS
              unfold NQ
              dsimp only
              have bj := Blk.gr bj hg
              have o9 := own_below o9 hg
              have K2 := K20.trans (K2.gr hg)
              refine H.out _ _ _ _ _ _ _ _ _ _ A' c' we ?_ o9 K2
              unfold joC
              simpa using bj
end Go.Proofs.YtaekcfancfoccaaGreatDoor
