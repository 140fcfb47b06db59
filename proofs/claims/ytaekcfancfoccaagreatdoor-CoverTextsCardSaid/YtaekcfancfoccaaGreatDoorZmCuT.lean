/- The drawn regions of cover.Parse that store its results. -/
import Derived.Test.YtaekcfancfoccaaGreatDoorZmCuS
namespace Go.Proofs.YtaekcfancfoccaaGreatDoor
open Go.RowKit Go.Lib

def fin4 (W : World) (rb mb eb : Nat) (u0 u1 u2 u3 x y e : Value) : World :=
  ((((((W.setCell ⟨rb, 0, none⟩ u0).setCell ⟨rb, 1, none⟩ u1).setCell ⟨rb, 2, none⟩ u2).setCell ⟨rb, 3, none⟩ u3).setCell ⟨mb, 0, none⟩ x).setCell ⟨mb, 1, none⟩ y).setCell ⟨eb, 0, none⟩ e
theorem fin4_blk {W : World} {rb mb eb : Nat} (br : Blk W rb 24 #[.string ⟨#[]⟩, .int .i64 0, .int .i64 0, .slice none 0 0]) (bm : Blk W mb 34 #[.int .i64 0, .int .i64 0]) (be : Blk W eb 27 #[.int .i64 0]) (hrm : ¬ rb = mb) (hre : ¬ rb = eb) (hme : ¬ mb = eb) (u0 u1 u2 u3 x y e : Value) :
    Blk (fin4 W rb mb eb u0 u1 u2 u3 x y e) rb 24 #[u0, u1, u2, u3] ∧ Blk (fin4 W rb mb eb u0 u1 u2 u3 x y e) mb 34 #[x, y] ∧ Blk (fin4 W rb mb eb u0 u1 u2 u3 x y e) eb 27 #[e] :=
  ⟨(((Blk.set4 br u0 u1 u2 u3).far (p := ⟨mb, 0, none⟩) hrm x).far (p := ⟨mb, 1, none⟩) hrm y).far (p := ⟨eb, 0, none⟩) hre e,
    (((bm.far4 (p := rb) (Ne.symm hrm) u0 u1 u2 u3).set_ 0 x).set_ 1 y).far (p := ⟨eb, 0, none⟩) hme e,
    (((be.far4 (p := rb) (Ne.symm hre) u0 u1 u2 u3).far (p := ⟨mb, 0, none⟩) (Ne.symm hme) x).far (p := ⟨mb, 1, none⟩) (Ne.symm hme) y).set_ 0 e⟩
theorem fin4_below {B : Nat} {w W : World} {rb mb eb : Nat} (h : Below B w W) (hr : B ≤ rb) (hm : B ≤ mb) (he : B ≤ eb) (u0 u1 u2 u3 x y e : Value) : Below B w (fin4 W rb mb eb u0 u1 u2 u3 x y e) :=
  (((Below.set4 h hr).setCell hm _).setCell hm _).setCell he _

set_option maxRecDepth 100000 in
set_option maxHeartbeats 8000000 in
theorem pReg20 {W : World} {rb mb eb : Nat} (br : Blk W rb 24 #[.string ⟨#[]⟩, .int .i64 0, .int .i64 0, .slice none 0 0]) (bm : Blk W mb 34 #[.int .i64 0, .int .i64 0]) (be : Blk W eb 27 #[.int .i64 0]) {ob jb : Nat} {j : Jo} {A : Option Addr} {c : Nat} (bo : Blk W ob 101 #[.pointer (some ⟨jb, 0, none⟩)]) (bj : Blk W jb 24 #[.string j.nm, .int .i64 j.thick, .int .i64 j.zone, .slice A j.fs.length c]) (hrm : ¬ rb = mb) (hre : ¬ rb = eb) (hme : ¬ mb = eb) {t0 t1 t6 t7 t8 t9 t10 t11 t12 t13 t14 t15 t16 t17 t18 t19 t20 t21 t22 t23 t24 t25 t26 t27 t28 t29 t30 t31 t32 t33 t34 t35 t36 t37 t38 t39 t40 t41 t42 t43 t44 t45 t46 t47 t48 t49 t50 t51 t52 t53 t54 t55 : Value} {ds : List Deferred} (Q : Exit → Act → World → Prop)
    (h : ∀ (t52 t53 t54 t55 : Value), Q .normal ⟨#[t0, t1, .pointer (some ⟨rb, 0, none⟩), .pointer (some ⟨mb, 0, none⟩), .pointer (some ⟨eb, 0, none⟩), .pointer (some ⟨ob, 0, none⟩), t6, t7, t8, t9, t10, t11, t12, t13, t14, t15, t16, t17, t18, t19, t20, t21, t22, t23, t24, t25, t26, t27, t28, t29, t30, t31, t32, t33, t34, t35, t36, t37, t38, t39, t40, t41, t42, t43, t44, t45, t46, t47, t48, t49, t50, t51, t52, t53, t54, t55], ds⟩ (fin4 W rb mb eb (.string j.nm) (.int .i64 j.thick) (.int .i64 j.zone) (.slice A j.fs.length c) (.int .i64 0) (.int .i64 0) (.int .i64 0))) :
    (regOf Tryz.f10 20).wp Tryz.prog Q ⟨#[t0, t1, .pointer (some ⟨rb, 0, none⟩), .pointer (some ⟨mb, 0, none⟩), .pointer (some ⟨eb, 0, none⟩), .pointer (some ⟨ob, 0, none⟩), t6, t7, t8, t9, t10, t11, t12, t13, t14, t15, t16, t17, t18, t19, t20, t21, t22, t23, t24, t25, t26, t27, t28, t29, t30, t31, t32, t33, t34, t35, t36, t37, t38, t39, t40, t41, t42, t43, t44, t45, t46, t47, t48, t49, t50, t51, t52, t53, t54, t55], ds⟩ W := by
  unfold fin4 at h
  have H := Lib.hid h; clear h
  have hmr : ¬ mb = rb := fun e => hrm e.symm
  have her : ¬ eb = rb := fun e => hre e.symm
  have hem : ¬ eb = mb := fun e => hme e.symm
  obtain ⟨r0, r1, r2, r3, rf⟩ := blk4 br
  obtain ⟨m0, m1⟩ := blk2c bm
  have mf : ∀ i, W.frozen? ⟨mb, i, none⟩ = false := bm.frozen
  have e0 : W.cell? ⟨eb, 0, none⟩ = some (.int .i64 0) := be.cell 0
  have ef : ∀ i, W.frozen? ⟨eb, i, none⟩ = false := be.frozen
  have o0 : W.cell? ⟨ob, 0, none⟩ = some (.pointer (some ⟨jb, 0, none⟩)) := bo.cell 0
  obtain ⟨j0, j1, j2, j3, jf⟩ := blk4 bj
  conv in (regOf _ _) => whnf
  go_wp2
  all_goals first | exact H.out _ _ _ _ | (trace_state; sorry)
end Go.Proofs.YtaekcfancfoccaaGreatDoor
