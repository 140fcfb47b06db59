/- Regions of the law FlawClaims: the lists are copied and checked. -/
import Derived.Laws.AppendOwnNone
import Derived.Test.YtidgeagpgllkeaaGreatZcFpN
import Derived.Test.YtidgeagpgllkeaaGreatZcFpJ
import Derived.Test.YtidgeagpgllkeaaGreatZcFfE
namespace Go.Proofs.YtidgeagpgllkeaaGreat
open Go.RowKit

theorem MkOk.gr {l : List Mk} {A : Option Addr} {w w' : World} (h : MkOk l A w.heap.size w) (g : Gr w w') : MkOk l A w'.heap.size w' := ⟨h.len, (h.row.below g (Nat.le_refl _)).more (Below.size g), h.size⟩
theorem Row.gr {A : Option Addr} {size n : Nat} {xs : List Value} {w w' : World} (h : Row w w.heap.size size A n xs) (g : Gr w w') : Row w' w'.heap.size size A n xs := (h.below g (Nat.le_refl _)).more (Below.size g)

set_option maxRecDepth 100000 in
set_option maxHeartbeats 8000000 in
theorem clReg6 (l0 l1 : List Mk) (A0 A1 A2 AF AS : Option Addr) (c0 c1 c2 cF cS B : Nat) (slack : Int) (P : List (Int × Int)) (Fl Sl : List Int) {W : World} {z3 z5 : Nat}
    (HL0 : Hid (∀ w', Gr W w' → MkOk l0 A0 B w')) (HL1 : Hid (∀ w', Gr W w' → MkOk l1 A1 B w')) (HP : Hid (∀ w', Gr W w' → Row w' B 2 A2 P.length (cellsC P))) (HF : Hid (∀ w', Gr W w' → Row w' B 1 AF Fl.length (intsC Fl))) (HS : Hid (∀ w', Gr W w' → Row w' B 1 AS Sl.length (intsC Sl))) (hB : B ≤ W.heap.size) (hc0 : l0.length ≤ c0) (hc1 : l1.length ≤ c1) (hc2 : P.length ≤ c2) (hcF : Fl.length ≤ cF) (hcS : Sl.length ≤ cS) (HN0 : Hid (A0 = none → c0 = 0)) (HN1 : Hid (A1 = none → c1 = 0)) (HN2 : Hid (A2 = none → c2 = 0)) (HNF : Hid (AF = none → cF = 0)) (HNS : Hid (AS = none → cS = 0)) (hn0 : l0.length ≤ 1000) (hn1 : l1.length ≤ 1000) (hnP : P.length ≤ 1000) (hnF : Fl.length ≤ 1000) (hnS : Sl.length ≤ 1000)
    (b3 : Blk W z3 124 #[.slice A0 l0.length c0, .slice A1 l1.length c1]) (b5 : Blk W z5 128 #[.slice A2 P.length c2, .slice AF Fl.length cF, .slice AS Sl.length cS]) {t0 t2 t4 t6 t7 t8 t9 t10 t11 t12 t13 t14 t15 t16 t17 t18 t19 t20 t21 t22 t23 t24 t25 t26 t27 t28 t29 t30 t31 t32 t33 t34 t35 t36 t37 t38 t39 t40 t41 t42 t43 t44 t45 t46 t47 t48 t49 t50 t51 t52 t53 t54 t55 t56 t57 t58 t59 t60 t61 t62 t63 t64 t65 t66 t67 t68 t69 t70 t71 t72 t73 t74 t75 t76 t77 t78 t79 t80 t81 t82 t83 t84 t85 t86 t87 t88 t89 t90 t91 t92 t93 t94 t95 t96 t97 t98 t99 t100 t101 t102 t103 t104 t105 t106 t107 t108 t109 t110 t111 t112 t113 t114 t115 t116 t117 t118 t119 t120 t121 t122 t123 t124 t125 t126 t127 t128 t129 t130 t131 t132 t133 t134 t135 t136 t137 t138 t139 t140 t141 t142 t143 t144 t145 t146 t147 t148 t149 t150 t151 t152 t153 t154 t155 t156 t157 t158 t159 t160 t161 : Value} {ds : List Deferred} (Q : Exit → Act → World → Prop)
    (h : ∀ (t64 t65 t66 t67 t68 t69 t70 t71 t72 t73 t74 t75 t76 t77 t78 t79 t80 t81 t82 t83 t84 : Value) (w' : World), Gr W w' → Q .normal ⟨#[t0, .int .i64 slack, t2, .pointer (some ⟨z3, 0, none⟩), t4, .pointer (some ⟨z5, 0, none⟩), t6, t7, t8, .int .i64 (ccN l0 l1 slack Fl Sl), .int .i64 (ccE l0 l1 slack Fl Sl), t11, t12, t13, t14, t15, t16, t17, t18, t19, t20, t21, t22, t23, t24, t25, t26, t27, t28, t29, t30, t31, t32, t33, t34, t35, t36, t37, t38, t39, t40, t41, t42, t43, t44, t45, t46, t47, t48, t49, t50, t51, t52, t53, t54, t55, t56, t57, t58, t59, t60, t61, t62, t63, t64, t65, t66, t67, t68, t69, t70, t71, t72, t73, t74, t75, t76, t77, t78, t79, t80, t81, t82, t83, t84, t85, t86, t87, t88, t89, t90, t91, t92, t93, t94, t95, t96, t97, t98, t99, t100, t101, t102, t103, t104, t105, t106, t107, t108, t109, t110, t111, t112, t113, t114, t115, t116, t117, t118, t119, t120, t121, t122, t123, t124, t125, t126, t127, t128, t129, t130, t131, t132, t133, t134, t135, t136, t137, t138, t139, t140, t141, t142, t143, t144, t145, t146, t147, t148, t149, t150, t151, t152, t153, t154, t155, t156, t157, t158, t159, t160, t161], ds⟩ w') :
    (regOf Tryz.f16 6).wp Tryz.prog Q ⟨#[t0, .int .i64 slack, t2, .pointer (some ⟨z3, 0, none⟩), t4, .pointer (some ⟨z5, 0, none⟩), t6, t7, t8, t9, t10, t11, t12, t13, t14, t15, t16, t17, t18, t19, t20, t21, t22, t23, t24, t25, t26, t27, t28, t29, t30, t31, t32, t33, t34, t35, t36, t37, t38, t39, t40, t41, t42, t43, t44, t45, t46, t47, t48, t49, t50, t51, t52, t53, t54, t55, t56, t57, t58, t59, t60, t61, t62, t63, t64, t65, t66, t67, t68, t69, t70, t71, t72, t73, t74, t75, t76, t77, t78, t79, t80, t81, t82, t83, t84, t85, t86, t87, t88, t89, t90, t91, t92, t93, t94, t95, t96, t97, t98, t99, t100, t101, t102, t103, t104, t105, t106, t107, t108, t109, t110, t111, t112, t113, t114, t115, t116, t117, t118, t119, t120, t121, t122, t123, t124, t125, t126, t127, t128, t129, t130, t131, t132, t133, t134, t135, t136, t137, t138, t139, t140, t141, t142, t143, t144, t145, t146, t147, t148, t149, t150, t151, t152, t153, t154, t155, t156, t157, t158, t159, t160, t161], ds⟩ W := by
  have H := Lib.hid h; clear h
  obtain ⟨e0, e1, _⟩ := blk2c b3
  obtain ⟨g0, g1, g2, _⟩ := blk3c b5
  have l3 := b3.lt
  have l5 := b5.lt
  conv in (regOf _ _) => whnf
  refine wp_region_w (Gr _) (by kernel_rfl) (Below.refl _ _).drew ?_
  refine wpW_det (t' := ?ct0R1) 0 (by rfl) (by kernel_rfl) (NQ_free _) (by kernel_rfl) ?cw0R1 ?ch0R1 ?ca0R1 (Eq.refl _) ?cH0R1
  case cw0R1 => (go_simp; done)
  case ch0R1 =>
    intro ds w' hS K hK
    have hc := (bcell hS).1
    have hf := (bcell hS).2
    have hz := hS.size
    try simp at hz
    go_simp
    try go_bits
    first
      | exact hK _ hS (Gr.refl _)
      | exact hK _ (by repeat (first | (with_reducible exact Below.refl _ _) | (with_reducible assumption) | ((with_reducible refine Below.setCell ?_ ?_ _); rotate_left; · (first | exact Nat.le_refl _ | (simp; done) | (simp; omega) | omega)) | ((with_reducible refine Below.alloc ?_ ?_ _); rotate_left; · (first | exact Nat.le_refl _ | (simp; done) | (simp; omega) | omega)) | (with_reducible apply Below.drew) | (with_reducible apply below_drewN') | (refine Below.trans ?_ (Below.mono (by assumption) (by first | exact Nat.le_refl _ | (simp; done) | (simp; omega) | omega))) | exact Below.refl _ _ | assumption)) (by repeat (first | (with_reducible exact Below.refl _ _) | (with_reducible assumption) | ((with_reducible refine Below.setCell ?_ ?_ _); rotate_left; · (first | exact Nat.le_refl _ | (simp; done) | (simp; omega) | omega)) | ((with_reducible refine Below.alloc ?_ ?_ _); rotate_left; · (first | exact Nat.le_refl _ | (simp; done) | (simp; omega) | omega)) | (with_reducible apply Below.drew) | (with_reducible apply below_drewN') | (refine Below.trans ?_ (Below.mono (by assumption) (by first | exact Nat.le_refl _ | (simp; done) | (simp; omega) | omega))) | exact Below.refl _ _ | assumption))
  case ca0R1 => (first | (simp [Act.put]; done) | (simp [Act.put, *]; done))
  try dsimp only
  refine wpW_det (t' := ?ct1R1) 1 (by rfl) (by kernel_rfl) (NQ_free _) (by kernel_rfl) ?cw1R1 ?ch1R1 ?ca1R1 (Eq.refl _) ?cH1R1
  case cw1R1 => (go_simp; done)
  case ch1R1 =>
    intro ds w' hS K hK
    have hc := (bcell hS).1
    have hf := (bcell hS).2
    have hz := hS.size
    try simp at hz
    go_simp
    try go_bits
    first
      | exact hK _ hS (Gr.refl _)
      | exact hK _ (by repeat (first | (with_reducible exact Below.refl _ _) | (with_reducible assumption) | ((with_reducible refine Below.setCell ?_ ?_ _); rotate_left; · (first | exact Nat.le_refl _ | (simp; done) | (simp; omega) | omega)) | ((with_reducible refine Below.alloc ?_ ?_ _); rotate_left; · (first | exact Nat.le_refl _ | (simp; done) | (simp; omega) | omega)) | (with_reducible apply Below.drew) | (with_reducible apply below_drewN') | (refine Below.trans ?_ (Below.mono (by assumption) (by first | exact Nat.le_refl _ | (simp; done) | (simp; omega) | omega))) | exact Below.refl _ _ | assumption)) (by repeat (first | (with_reducible exact Below.refl _ _) | (with_reducible assumption) | ((with_reducible refine Below.setCell ?_ ?_ _); rotate_left; · (first | exact Nat.le_refl _ | (simp; done) | (simp; omega) | omega)) | ((with_reducible refine Below.alloc ?_ ?_ _); rotate_left; · (first | exact Nat.le_refl _ | (simp; done) | (simp; omega) | omega)) | (with_reducible apply Below.drew) | (with_reducible apply below_drewN') | (refine Below.trans ?_ (Below.mono (by assumption) (by first | exact Nat.le_refl _ | (simp; done) | (simp; omega) | omega))) | exact Below.refl _ _ | assumption))
  case ca1R1 => (first | (simp [Act.put]; done) | (simp [Act.put, *]; done))
  try dsimp only
  refine wpW_det (t' := ?ct3R1) 3 (by rfl) (by kernel_rfl) (NQ_free _) (by kernel_rfl) ?cw3R1 ?ch3R1 ?ca3R1 (Eq.refl _) ?cH3R1
  case cw3R1 => (go_simp; done)
  case ch3R1 =>
    intro ds w' hS K hK
    have hc := (bcell hS).1
    have hf := (bcell hS).2
    have hz := hS.size
    try simp at hz
    go_simp
    try go_bits
    first
      | exact hK _ hS (Gr.refl _)
      | exact hK _ (by repeat (first | (with_reducible exact Below.refl _ _) | (with_reducible assumption) | ((with_reducible refine Below.setCell ?_ ?_ _); rotate_left; · (first | exact Nat.le_refl _ | (simp; done) | (simp; omega) | omega)) | ((with_reducible refine Below.alloc ?_ ?_ _); rotate_left; · (first | exact Nat.le_refl _ | (simp; done) | (simp; omega) | omega)) | (with_reducible apply Below.drew) | (with_reducible apply below_drewN') | (refine Below.trans ?_ (Below.mono (by assumption) (by first | exact Nat.le_refl _ | (simp; done) | (simp; omega) | omega))) | exact Below.refl _ _ | assumption)) (by repeat (first | (with_reducible exact Below.refl _ _) | (with_reducible assumption) | ((with_reducible refine Below.setCell ?_ ?_ _); rotate_left; · (first | exact Nat.le_refl _ | (simp; done) | (simp; omega) | omega)) | ((with_reducible refine Below.alloc ?_ ?_ _); rotate_left; · (first | exact Nat.le_refl _ | (simp; done) | (simp; omega) | omega)) | (with_reducible apply Below.drew) | (with_reducible apply below_drewN') | (refine Below.trans ?_ (Below.mono (by assumption) (by first | exact Nat.le_refl _ | (simp; done) | (simp; omega) | omega))) | exact Below.refl _ _ | assumption))
  case ca3R1 => (first | (simp [Act.put]; done) | (simp [Act.put, *]; done))
  try dsimp only
  refine wpW_det (t' := ?ct4R1) 4 (by rfl) (by kernel_rfl) (NQ_free _) (by kernel_rfl) ?cw4R1 ?ch4R1 ?ca4R1 (Eq.refl _) ?cH4R1
  case cw4R1 => (go_simp; done)
  case ch4R1 =>
    intro ds w' hS K hK
    have hc := (bcell hS).1
    have hf := (bcell hS).2
    have hz := hS.size
    try simp at hz
    go_simp
    try go_bits
    first
      | exact hK _ hS (Gr.refl _)
      | exact hK _ (by repeat (first | (with_reducible exact Below.refl _ _) | (with_reducible assumption) | ((with_reducible refine Below.setCell ?_ ?_ _); rotate_left; · (first | exact Nat.le_refl _ | (simp; done) | (simp; omega) | omega)) | ((with_reducible refine Below.alloc ?_ ?_ _); rotate_left; · (first | exact Nat.le_refl _ | (simp; done) | (simp; omega) | omega)) | (with_reducible apply Below.drew) | (with_reducible apply below_drewN') | (refine Below.trans ?_ (Below.mono (by assumption) (by first | exact Nat.le_refl _ | (simp; done) | (simp; omega) | omega))) | exact Below.refl _ _ | assumption)) (by repeat (first | (with_reducible exact Below.refl _ _) | (with_reducible assumption) | ((with_reducible refine Below.setCell ?_ ?_ _); rotate_left; · (first | exact Nat.le_refl _ | (simp; done) | (simp; omega) | omega)) | ((with_reducible refine Below.alloc ?_ ?_ _); rotate_left; · (first | exact Nat.le_refl _ | (simp; done) | (simp; omega) | omega)) | (with_reducible apply Below.drew) | (with_reducible apply below_drewN') | (refine Below.trans ?_ (Below.mono (by assumption) (by first | exact Nat.le_refl _ | (simp; done) | (simp; omega) | omega))) | exact Below.refl _ _ | assumption))
  case ca4R1 => (first | (simp [Act.put]; done) | (simp [Act.put, *]; done))
  try dsimp only
  refine wpW_det (t' := ?ct7R1) 7 (by rfl) (by kernel_rfl) (NQ_free _) (by kernel_rfl) ?cw7R1 ?ch7R1 ?ca7R1 (Eq.refl _) ?cH7R1
  case cw7R1 => (go_simp; done)
  case ch7R1 =>
    intro ds w' hS K hK
    have hc := (bcell hS).1
    have hf := (bcell hS).2
    have hz := hS.size
    try simp at hz
    go_simp
    try go_bits
    first
      | exact hK _ hS (Gr.refl _)
      | exact hK _ (by repeat (first | (with_reducible exact Below.refl _ _) | (with_reducible assumption) | ((with_reducible refine Below.setCell ?_ ?_ _); rotate_left; · (first | exact Nat.le_refl _ | (simp; done) | (simp; omega) | omega)) | ((with_reducible refine Below.alloc ?_ ?_ _); rotate_left; · (first | exact Nat.le_refl _ | (simp; done) | (simp; omega) | omega)) | (with_reducible apply Below.drew) | (with_reducible apply below_drewN') | (refine Below.trans ?_ (Below.mono (by assumption) (by first | exact Nat.le_refl _ | (simp; done) | (simp; omega) | omega))) | exact Below.refl _ _ | assumption)) (by repeat (first | (with_reducible exact Below.refl _ _) | (with_reducible assumption) | ((with_reducible refine Below.setCell ?_ ?_ _); rotate_left; · (first | exact Nat.le_refl _ | (simp; done) | (simp; omega) | omega)) | ((with_reducible refine Below.alloc ?_ ?_ _); rotate_left; · (first | exact Nat.le_refl _ | (simp; done) | (simp; omega) | omega)) | (with_reducible apply Below.drew) | (with_reducible apply below_drewN') | (refine Below.trans ?_ (Below.mono (by assumption) (by first | exact Nat.le_refl _ | (simp; done) | (simp; omega) | omega))) | exact Below.refl _ _ | assumption))
  case ca7R1 => (first | (simp [Act.put]; done) | (simp [Act.put, *]; done))
  try dsimp only
  refine wpW_det (t' := ?ct8R1) 8 (by rfl) (by kernel_rfl) (NQ_free _) (by kernel_rfl) ?cw8R1 ?ch8R1 ?ca8R1 (Eq.refl _) ?cH8R1
  case cw8R1 => (go_simp; done)
  case ch8R1 =>
    intro ds w' hS K hK
    have hc := (bcell hS).1
    have hf := (bcell hS).2
    have hz := hS.size
    try simp at hz
    go_simp
    try go_bits
    first
      | exact hK _ hS (Gr.refl _)
      | exact hK _ (by repeat (first | (with_reducible exact Below.refl _ _) | (with_reducible assumption) | ((with_reducible refine Below.setCell ?_ ?_ _); rotate_left; · (first | exact Nat.le_refl _ | (simp; done) | (simp; omega) | omega)) | ((with_reducible refine Below.alloc ?_ ?_ _); rotate_left; · (first | exact Nat.le_refl _ | (simp; done) | (simp; omega) | omega)) | (with_reducible apply Below.drew) | (with_reducible apply below_drewN') | (refine Below.trans ?_ (Below.mono (by assumption) (by first | exact Nat.le_refl _ | (simp; done) | (simp; omega) | omega))) | exact Below.refl _ _ | assumption)) (by repeat (first | (with_reducible exact Below.refl _ _) | (with_reducible assumption) | ((with_reducible refine Below.setCell ?_ ?_ _); rotate_left; · (first | exact Nat.le_refl _ | (simp; done) | (simp; omega) | omega)) | ((with_reducible refine Below.alloc ?_ ?_ _); rotate_left; · (first | exact Nat.le_refl _ | (simp; done) | (simp; omega) | omega)) | (with_reducible apply Below.drew) | (with_reducible apply below_drewN') | (refine Below.trans ?_ (Below.mono (by assumption) (by first | exact Nat.le_refl _ | (simp; done) | (simp; omega) | omega))) | exact Below.refl _ _ | assumption))
  case ca8R1 => (first | (simp [Act.put]; done) | (simp [Act.put, *]; done))
  try dsimp only
  refine wpW_det (t' := ?ct9R1) 9 (by rfl) (by kernel_rfl) (NQ_free _) (by kernel_rfl) ?cw9R1 ?ch9R1 ?ca9R1 (Eq.refl _) ?cH9R1
  case cw9R1 => (go_simp; done)
  case ch9R1 =>
    intro ds w' hS K hK
    have hc := (bcell hS).1
    have hf := (bcell hS).2
    have hz := hS.size
    try simp at hz
    go_simp
    try go_bits
    first
      | exact hK _ hS (Gr.refl _)
      | exact hK _ (by repeat (first | (with_reducible exact Below.refl _ _) | (with_reducible assumption) | ((with_reducible refine Below.setCell ?_ ?_ _); rotate_left; · (first | exact Nat.le_refl _ | (simp; done) | (simp; omega) | omega)) | ((with_reducible refine Below.alloc ?_ ?_ _); rotate_left; · (first | exact Nat.le_refl _ | (simp; done) | (simp; omega) | omega)) | (with_reducible apply Below.drew) | (with_reducible apply below_drewN') | (refine Below.trans ?_ (Below.mono (by assumption) (by first | exact Nat.le_refl _ | (simp; done) | (simp; omega) | omega))) | exact Below.refl _ _ | assumption)) (by repeat (first | (with_reducible exact Below.refl _ _) | (with_reducible assumption) | ((with_reducible refine Below.setCell ?_ ?_ _); rotate_left; · (first | exact Nat.le_refl _ | (simp; done) | (simp; omega) | omega)) | ((with_reducible refine Below.alloc ?_ ?_ _); rotate_left; · (first | exact Nat.le_refl _ | (simp; done) | (simp; omega) | omega)) | (with_reducible apply Below.drew) | (with_reducible apply below_drewN') | (refine Below.trans ?_ (Below.mono (by assumption) (by first | exact Nat.le_refl _ | (simp; done) | (simp; omega) | omega))) | exact Below.refl _ _ | assumption))
  case ca9R1 => (first | (simp [Act.put]; done) | (simp [Act.put, *]; done))
  try dsimp only
  refine wpW_det (t' := ?ct10R1) 10 (by rfl) (by kernel_rfl) (NQ_free _) (by kernel_rfl) ?cw10R1 ?ch10R1 ?ca10R1 (Eq.refl _) ?cH10R1
  case cw10R1 => (go_simp; done)
  case ch10R1 =>
    intro ds w' hS K hK
    have hc := (bcell hS).1
    have hf := (bcell hS).2
    have hz := hS.size
    try simp at hz
    go_simp
    try go_bits
    first
      | exact hK _ hS (Gr.refl _)
      | exact hK _ (by repeat (first | (with_reducible exact Below.refl _ _) | (with_reducible assumption) | ((with_reducible refine Below.setCell ?_ ?_ _); rotate_left; · (first | exact Nat.le_refl _ | (simp; done) | (simp; omega) | omega)) | ((with_reducible refine Below.alloc ?_ ?_ _); rotate_left; · (first | exact Nat.le_refl _ | (simp; done) | (simp; omega) | omega)) | (with_reducible apply Below.drew) | (with_reducible apply below_drewN') | (refine Below.trans ?_ (Below.mono (by assumption) (by first | exact Nat.le_refl _ | (simp; done) | (simp; omega) | omega))) | exact Below.refl _ _ | assumption)) (by repeat (first | (with_reducible exact Below.refl _ _) | (with_reducible assumption) | ((with_reducible refine Below.setCell ?_ ?_ _); rotate_left; · (first | exact Nat.le_refl _ | (simp; done) | (simp; omega) | omega)) | ((with_reducible refine Below.alloc ?_ ?_ _); rotate_left; · (first | exact Nat.le_refl _ | (simp; done) | (simp; omega) | omega)) | (with_reducible apply Below.drew) | (with_reducible apply below_drewN') | (refine Below.trans ?_ (Below.mono (by assumption) (by first | exact Nat.le_refl _ | (simp; done) | (simp; omega) | omega))) | exact Below.refl _ _ | assumption))
  case ca10R1 => (first | (simp [Act.put]; done) | (simp [Act.put, *]; done))
  try dsimp only
  refine wpW_det (t' := ?ct12R1) 12 (by rfl) (by kernel_rfl) (NQ_free _) (by kernel_rfl) ?cw12R1 ?ch12R1 ?ca12R1 (Eq.refl _) ?cH12R1
  case cw12R1 => (go_simp; done)
  case ch12R1 =>
    intro ds w' hS K hK
    have hc := (bcell hS).1
    have hf := (bcell hS).2
    have hz := hS.size
    try simp at hz
    go_simp
    try go_bits
    first
      | exact hK _ hS (Gr.refl _)
      | exact hK _ (by repeat (first | (with_reducible exact Below.refl _ _) | (with_reducible assumption) | ((with_reducible refine Below.setCell ?_ ?_ _); rotate_left; · (first | exact Nat.le_refl _ | (simp; done) | (simp; omega) | omega)) | ((with_reducible refine Below.alloc ?_ ?_ _); rotate_left; · (first | exact Nat.le_refl _ | (simp; done) | (simp; omega) | omega)) | (with_reducible apply Below.drew) | (with_reducible apply below_drewN') | (refine Below.trans ?_ (Below.mono (by assumption) (by first | exact Nat.le_refl _ | (simp; done) | (simp; omega) | omega))) | exact Below.refl _ _ | assumption)) (by repeat (first | (with_reducible exact Below.refl _ _) | (with_reducible assumption) | ((with_reducible refine Below.setCell ?_ ?_ _); rotate_left; · (first | exact Nat.le_refl _ | (simp; done) | (simp; omega) | omega)) | ((with_reducible refine Below.alloc ?_ ?_ _); rotate_left; · (first | exact Nat.le_refl _ | (simp; done) | (simp; omega) | omega)) | (with_reducible apply Below.drew) | (with_reducible apply below_drewN') | (refine Below.trans ?_ (Below.mono (by assumption) (by first | exact Nat.le_refl _ | (simp; done) | (simp; omega) | omega))) | exact Below.refl _ _ | assumption))
  case ca12R1 => (first | (simp [Act.put]; done) | (simp [Act.put, *]; done))
  try dsimp only
  refine wpW_det (t' := ?ct13R1) 13 (by rfl) (by kernel_rfl) (NQ_free _) (by kernel_rfl) ?cw13R1 ?ch13R1 ?ca13R1 (Eq.refl _) ?cH13R1
  case cw13R1 => (go_simp; done)
  case ch13R1 =>
    intro ds w' hS K hK
    have hc := (bcell hS).1
    have hf := (bcell hS).2
    have hz := hS.size
    try simp at hz
    go_simp
    try go_bits
    first
      | exact hK _ hS (Gr.refl _)
      | exact hK _ (by repeat (first | (with_reducible exact Below.refl _ _) | (with_reducible assumption) | ((with_reducible refine Below.setCell ?_ ?_ _); rotate_left; · (first | exact Nat.le_refl _ | (simp; done) | (simp; omega) | omega)) | ((with_reducible refine Below.alloc ?_ ?_ _); rotate_left; · (first | exact Nat.le_refl _ | (simp; done) | (simp; omega) | omega)) | (with_reducible apply Below.drew) | (with_reducible apply below_drewN') | (refine Below.trans ?_ (Below.mono (by assumption) (by first | exact Nat.le_refl _ | (simp; done) | (simp; omega) | omega))) | exact Below.refl _ _ | assumption)) (by repeat (first | (with_reducible exact Below.refl _ _) | (with_reducible assumption) | ((with_reducible refine Below.setCell ?_ ?_ _); rotate_left; · (first | exact Nat.le_refl _ | (simp; done) | (simp; omega) | omega)) | ((with_reducible refine Below.alloc ?_ ?_ _); rotate_left; · (first | exact Nat.le_refl _ | (simp; done) | (simp; omega) | omega)) | (with_reducible apply Below.drew) | (with_reducible apply below_drewN') | (refine Below.trans ?_ (Below.mono (by assumption) (by first | exact Nat.le_refl _ | (simp; done) | (simp; omega) | omega))) | exact Below.refl _ _ | assumption))
  case ca13R1 => (first | (simp [Act.put]; done) | (simp [Act.put, *]; done))
  try dsimp only
  refine wpW_det (t' := ?ct14R1) 14 (by rfl) (by kernel_rfl) (NQ_free _) (by kernel_rfl) ?cw14R1 ?ch14R1 ?ca14R1 (Eq.refl _) ?cH14R1
  case cw14R1 => (go_simp; done)
  case ch14R1 =>
    intro ds w' hS K hK
    have hc := (bcell hS).1
    have hf := (bcell hS).2
    have hz := hS.size
    try simp at hz
    go_simp
    try go_bits
    first
      | exact hK _ hS (Gr.refl _)
      | exact hK _ (by repeat (first | (with_reducible exact Below.refl _ _) | (with_reducible assumption) | ((with_reducible refine Below.setCell ?_ ?_ _); rotate_left; · (first | exact Nat.le_refl _ | (simp; done) | (simp; omega) | omega)) | ((with_reducible refine Below.alloc ?_ ?_ _); rotate_left; · (first | exact Nat.le_refl _ | (simp; done) | (simp; omega) | omega)) | (with_reducible apply Below.drew) | (with_reducible apply below_drewN') | (refine Below.trans ?_ (Below.mono (by assumption) (by first | exact Nat.le_refl _ | (simp; done) | (simp; omega) | omega))) | exact Below.refl _ _ | assumption)) (by repeat (first | (with_reducible exact Below.refl _ _) | (with_reducible assumption) | ((with_reducible refine Below.setCell ?_ ?_ _); rotate_left; · (first | exact Nat.le_refl _ | (simp; done) | (simp; omega) | omega)) | ((with_reducible refine Below.alloc ?_ ?_ _); rotate_left; · (first | exact Nat.le_refl _ | (simp; done) | (simp; omega) | omega)) | (with_reducible apply Below.drew) | (with_reducible apply below_drewN') | (refine Below.trans ?_ (Below.mono (by assumption) (by first | exact Nat.le_refl _ | (simp; done) | (simp; omega) | omega))) | exact Below.refl _ _ | assumption))
  case ca14R1 => (first | (simp [Act.put]; done) | (simp [Act.put, *]; done))
  try dsimp only
  clear e0 e1 g0 g1 g2 l3 l5 b3 b5
  refine wpW_branch [2] (by kernel_rfl) (by simp) ?_
  intro w1 hg1 hS1
  try have m0 := MkOk.gr m0 hg1
  try have m1 := MkOk.gr m1 hg1
  try have rF := Row.gr rF hg1
  try have rS := Row.gr rS hg1
  refine each_cons ?_ (each_nil)
  · refine wpOp_go (by rfl) (Eq.refl _) (by go_simp; done) ?_
    intro K hK
    go_simp
    try simp only [Act.put]
    refine (copyMarks_any l0 A0 c0 B _ (HL0.out _ hS1) hc0 (Nat.le_trans hB (Below.size hS1)) HN0.out).mono ?_
    rintro e ws ⟨v, rfl, own, hBs⟩
    obtain ⟨D0, d0, rfl, m0, q0⟩ := copied own (by omega) (HL0.out _ (Gr.trans hS1 hBs)).size
    skip
    refine hK _ _ (Gr.trans hS1 hBs) ?_
    clear hK K own hBs
    refine wpW_branch [5] (by kernel_rfl) (by simp) ?_
    intro w2 hg2 hS2
    try have m0 := MkOk.gr m0 hg2
    try have m1 := MkOk.gr m1 hg2
    try have rF := Row.gr rF hg2
    try have rS := Row.gr rS hg2
    refine each_cons ?_ (each_nil)
    · refine wpOp_go (by rfl) (Eq.refl _) (by go_simp; done) ?_
      intro K hK
      go_simp
      try simp only [Act.put]
      refine (copyMarks_any l1 A1 c1 B _ (HL1.out _ hS2) hc1 (Nat.le_trans hB (Below.size hS2)) HN1.out).mono ?_
      rintro e ws ⟨v, rfl, own, hBs⟩
      obtain ⟨D1, d1, rfl, m1, q1⟩ := copied own (by omega) (HL1.out _ (Gr.trans hS2 hBs)).size
      have m0 := MkOk.gr m0 hBs
      refine hK _ _ (Gr.trans hS2 hBs) ?_
      clear hK K own hBs
      refine wpW_branch [6, 11] (by kernel_rfl) (by simp) ?_
      intro w3 hg3 hS3
      try have m0 := MkOk.gr m0 hg3
      try have m1 := MkOk.gr m1 hg3
      try have rF := Row.gr rF hg3
      try have rS := Row.gr rS hg3
      refine each_cons ?_ (each_cons ?_ (each_nil))
      · refine wpOp_go (by rfl) (Eq.refl _) (by go_simp; done) ?_
        intro K hK
        go_simp
        try simp only [Act.put]
        refine hK _ _ hS3 ?_
        clear hK K
        refine wpW_branch [11] (by kernel_rfl) (by simp) ?_
        intro w4 hg4 hS4
        try have m0 := MkOk.gr m0 hg4
        try have m1 := MkOk.gr m1 hg4
        try have rF := Row.gr rF hg4
        try have rS := Row.gr rS hg4
        refine each_cons ?_ (each_nil)
        · refine wpOp_go (by rfl) (Eq.refl _) (by go_simp; done) ?_
          intro K hK
          go_simp
          try simp only [Act.put]
          refine (copyInts_any Fl AF cF B _ (HF.out _ hS4) (by omega) hcF (Nat.le_trans hB (Below.size hS4)) HNF.out).mono ?_
          rintro e ws ⟨v, rfl, own, hBs⟩
          obtain ⟨DF, dF, rfl, rF, _, _⟩ := own_row2 own
          have m0 := MkOk.gr m0 hBs
          have m1 := MkOk.gr m1 hBs
          refine hK _ _ (Gr.trans hS4 hBs) ?_
          clear hK K own hBs
          refine wpW_branch [15] (by kernel_rfl) (by simp) ?_
          intro w5 hg5 hS5
          try have m0 := MkOk.gr m0 hg5
          try have m1 := MkOk.gr m1 hg5
          try have rF := Row.gr rF hg5
          try have rS := Row.gr rS hg5
          refine each_cons ?_ (each_nil)
          · refine wpOp_go (by rfl) (Eq.refl _) (by go_simp; done) ?_
            intro K hK
            go_simp
            try simp only [Act.put]
            refine (copyInts_any Sl AS cS B _ (HS.out _ hS5) (by omega) hcS (Nat.le_trans hB (Below.size hS5)) HNS.out).mono ?_
            rintro e ws ⟨v, rfl, own, hBs⟩
            obtain ⟨DS, dS, rfl, rS, _, _⟩ := own_row2 own
            have m0 := MkOk.gr m0 hBs
            have m1 := MkOk.gr m1 hBs
            have rF := Row.gr rF hBs
            refine hK _ _ (Gr.trans hS5 hBs) ?_
            clear hK K own hBs
            refine wpW_branch [16] (by kernel_rfl) (by simp) ?_
            intro w6 hg6 hS6
            try have m0 := MkOk.gr m0 hg6
            try have m1 := MkOk.gr m1 hg6
            try have rF := Row.gr rF hg6
            try have rS := Row.gr rS hg6
            refine each_cons ?_ (each_nil)
            · refine wpOp_go (by rfl) (Eq.refl _) (by go_simp; done) ?_
              intro K hK
              go_simp
              try simp only [Act.put]
              refine hK _ _ hS6 ?_
              clear hK K
              refine wpW_branch [17] (by kernel_rfl) (by simp) ?_
              intro w7 hg7 hS7
              try have m0 := MkOk.gr m0 hg7
              try have m1 := MkOk.gr m1 hg7
              try have rF := Row.gr rF hg7
              try have rS := Row.gr rS hg7
              refine each_cons ?_ (each_nil)
              · refine wpOp_go (by rfl) (Eq.refl _) (by go_simp; done) ?_
                intro K hK
                go_simp
                try simp only [Act.put]
                refine (checkCover_any l0 l1 D0 D1 DF DS d0 d1 dF dS _ slack Fl Sl _ m0 m1 rF rS q0 q1 (Nat.le_refl _) hn0 hn1 hnF hnS).mono ?_
                rintro e ws ⟨rfl, hBs⟩
                refine hK _ _ (Gr.trans hS7 hBs) ?_
                clear hK K m0 m1 rF rS hBs
                refine wpW_det (t' := ?ct18R2) 18 (by rfl) (by kernel_rfl) (NQ_free _) (by kernel_rfl) ?cw18R2 ?ch18R2 ?ca18R2 (Eq.refl _) ?cH18R2
                case cw18R2 => (go_simp; done)
                case ch18R2 =>
                  intro ds w' hS K hK
                  have hc := (bcell hS).1
                  have hf := (bcell hS).2
                  have hz := hS.size
                  try simp at hz
                  go_simp
                  try go_bits
                  first
                    | exact hK _ hS (Gr.refl _)
                    | exact hK _ (by repeat (first | (with_reducible exact Below.refl _ _) | (with_reducible assumption) | ((with_reducible refine Below.setCell ?_ ?_ _); rotate_left; · (first | exact Nat.le_refl _ | (simp; done) | (simp; omega) | omega)) | ((with_reducible refine Below.alloc ?_ ?_ _); rotate_left; · (first | exact Nat.le_refl _ | (simp; done) | (simp; omega) | omega)) | (with_reducible apply Below.drew) | (with_reducible apply below_drewN') | (refine Below.trans ?_ (Below.mono (by assumption) (by first | exact Nat.le_refl _ | (simp; done) | (simp; omega) | omega))) | exact Below.refl _ _ | assumption)) (by repeat (first | (with_reducible exact Below.refl _ _) | (with_reducible assumption) | ((with_reducible refine Below.setCell ?_ ?_ _); rotate_left; · (first | exact Nat.le_refl _ | (simp; done) | (simp; omega) | omega)) | ((with_reducible refine Below.alloc ?_ ?_ _); rotate_left; · (first | exact Nat.le_refl _ | (simp; done) | (simp; omega) | omega)) | (with_reducible apply Below.drew) | (with_reducible apply below_drewN') | (refine Below.trans ?_ (Below.mono (by assumption) (by first | exact Nat.le_refl _ | (simp; done) | (simp; omega) | omega))) | exact Below.refl _ _ | assumption))
                case ca18R2 => (first | (simp [Act.put]; done) | (simp [Act.put, *]; done))
                try dsimp only
                refine wpW_det (t' := ?ct19R2) 19 (by rfl) (by kernel_rfl) (NQ_free _) (by kernel_rfl) ?cw19R2 ?ch19R2 ?ca19R2 (Eq.refl _) ?cH19R2
                case cw19R2 => (go_simp; done)
                case ch19R2 =>
                  intro ds w' hS K hK
                  have hc := (bcell hS).1
                  have hf := (bcell hS).2
                  have hz := hS.size
                  try simp at hz
                  go_simp
                  try go_bits
                  first
                    | exact hK _ hS (Gr.refl _)
                    | exact hK _ (by repeat (first | (with_reducible exact Below.refl _ _) | (with_reducible assumption) | ((with_reducible refine Below.setCell ?_ ?_ _); rotate_left; · (first | exact Nat.le_refl _ | (simp; done) | (simp; omega) | omega)) | ((with_reducible refine Below.alloc ?_ ?_ _); rotate_left; · (first | exact Nat.le_refl _ | (simp; done) | (simp; omega) | omega)) | (with_reducible apply Below.drew) | (with_reducible apply below_drewN') | (refine Below.trans ?_ (Below.mono (by assumption) (by first | exact Nat.le_refl _ | (simp; done) | (simp; omega) | omega))) | exact Below.refl _ _ | assumption)) (by repeat (first | (with_reducible exact Below.refl _ _) | (with_reducible assumption) | ((with_reducible refine Below.setCell ?_ ?_ _); rotate_left; · (first | exact Nat.le_refl _ | (simp; done) | (simp; omega) | omega)) | ((with_reducible refine Below.alloc ?_ ?_ _); rotate_left; · (first | exact Nat.le_refl _ | (simp; done) | (simp; omega) | omega)) | (with_reducible apply Below.drew) | (with_reducible apply below_drewN') | (refine Below.trans ?_ (Below.mono (by assumption) (by first | exact Nat.le_refl _ | (simp; done) | (simp; omega) | omega))) | exact Below.refl _ _ | assumption))
                case ca19R2 => (first | (simp [Act.put]; done) | (simp [Act.put, *]; done))
                try dsimp only
                refine wpW_det (t' := ?ct20R2) 20 (by rfl) (by kernel_rfl) (NQ_free _) (by kernel_rfl) ?cw20R2 ?ch20R2 ?ca20R2 (Eq.refl _) ?cH20R2
                case cw20R2 => (go_simp; done)
                case ch20R2 =>
                  intro ds w' hS K hK
                  have hc := (bcell hS).1
                  have hf := (bcell hS).2
                  have hz := hS.size
                  try simp at hz
                  go_simp
                  try go_bits
                  first
                    | exact hK _ hS (Gr.refl _)
                    | exact hK _ (by repeat (first | (with_reducible exact Below.refl _ _) | (with_reducible assumption) | ((with_reducible refine Below.setCell ?_ ?_ _); rotate_left; · (first | exact Nat.le_refl _ | (simp; done) | (simp; omega) | omega)) | ((with_reducible refine Below.alloc ?_ ?_ _); rotate_left; · (first | exact Nat.le_refl _ | (simp; done) | (simp; omega) | omega)) | (with_reducible apply Below.drew) | (with_reducible apply below_drewN') | (refine Below.trans ?_ (Below.mono (by assumption) (by first | exact Nat.le_refl _ | (simp; done) | (simp; omega) | omega))) | exact Below.refl _ _ | assumption)) (by repeat (first | (with_reducible exact Below.refl _ _) | (with_reducible assumption) | ((with_reducible refine Below.setCell ?_ ?_ _); rotate_left; · (first | exact Nat.le_refl _ | (simp; done) | (simp; omega) | omega)) | ((with_reducible refine Below.alloc ?_ ?_ _); rotate_left; · (first | exact Nat.le_refl _ | (simp; done) | (simp; omega) | omega)) | (with_reducible apply Below.drew) | (with_reducible apply below_drewN') | (refine Below.trans ?_ (Below.mono (by assumption) (by first | exact Nat.le_refl _ | (simp; done) | (simp; omega) | omega))) | exact Below.refl _ _ | assumption))
                case ca20R2 => (first | (simp [Act.put]; done) | (simp [Act.put, *]; done))
                try dsimp only
                refine wpW_det (t' := ?ct21R2) 21 (by rfl) (by kernel_rfl) (NQ_free _) (by kernel_rfl) ?cw21R2 ?ch21R2 ?ca21R2 (Eq.refl _) ?cH21R2
                case cw21R2 => (go_simp; done)
                case ch21R2 =>
                  intro ds w' hS K hK
                  have hc := (bcell hS).1
                  have hf := (bcell hS).2
                  have hz := hS.size
                  try simp at hz
                  go_simp
                  try go_bits
                  first
                    | exact hK _ hS (Gr.refl _)
                    | exact hK _ (by repeat (first | (with_reducible exact Below.refl _ _) | (with_reducible assumption) | ((with_reducible refine Below.setCell ?_ ?_ _); rotate_left; · (first | exact Nat.le_refl _ | (simp; done) | (simp; omega) | omega)) | ((with_reducible refine Below.alloc ?_ ?_ _); rotate_left; · (first | exact Nat.le_refl _ | (simp; done) | (simp; omega) | omega)) | (with_reducible apply Below.drew) | (with_reducible apply below_drewN') | (refine Below.trans ?_ (Below.mono (by assumption) (by first | exact Nat.le_refl _ | (simp; done) | (simp; omega) | omega))) | exact Below.refl _ _ | assumption)) (by repeat (first | (with_reducible exact Below.refl _ _) | (with_reducible assumption) | ((with_reducible refine Below.setCell ?_ ?_ _); rotate_left; · (first | exact Nat.le_refl _ | (simp; done) | (simp; omega) | omega)) | ((with_reducible refine Below.alloc ?_ ?_ _); rotate_left; · (first | exact Nat.le_refl _ | (simp; done) | (simp; omega) | omega)) | (with_reducible apply Below.drew) | (with_reducible apply below_drewN') | (refine Below.trans ?_ (Below.mono (by assumption) (by first | exact Nat.le_refl _ | (simp; done) | (simp; omega) | omega))) | exact Below.refl _ _ | assumption))
                case ca21R2 => (first | (simp [Act.put]; done) | (simp [Act.put, *]; done))
                try dsimp only
                refine wpW_det (t' := ?ct22R2) 22 (by rfl) (by kernel_rfl) (NQ_free _) (by kernel_rfl) ?cw22R2 ?ch22R2 ?ca22R2 (Eq.refl _) ?cH22R2
                case cw22R2 => (go_simp; done)
                case ch22R2 =>
                  intro ds w' hS K hK
                  have hc := (bcell hS).1
                  have hf := (bcell hS).2
                  have hz := hS.size
                  try simp at hz
                  go_simp
                  try go_bits
                  first
                    | exact hK _ hS (Gr.refl _)
                    | exact hK _ (by repeat (first | (with_reducible exact Below.refl _ _) | (with_reducible assumption) | ((with_reducible refine Below.setCell ?_ ?_ _); rotate_left; · (first | exact Nat.le_refl _ | (simp; done) | (simp; omega) | omega)) | ((with_reducible refine Below.alloc ?_ ?_ _); rotate_left; · (first | exact Nat.le_refl _ | (simp; done) | (simp; omega) | omega)) | (with_reducible apply Below.drew) | (with_reducible apply below_drewN') | (refine Below.trans ?_ (Below.mono (by assumption) (by first | exact Nat.le_refl _ | (simp; done) | (simp; omega) | omega))) | exact Below.refl _ _ | assumption)) (by repeat (first | (with_reducible exact Below.refl _ _) | (with_reducible assumption) | ((with_reducible refine Below.setCell ?_ ?_ _); rotate_left; · (first | exact Nat.le_refl _ | (simp; done) | (simp; omega) | omega)) | ((with_reducible refine Below.alloc ?_ ?_ _); rotate_left; · (first | exact Nat.le_refl _ | (simp; done) | (simp; omega) | omega)) | (with_reducible apply Below.drew) | (with_reducible apply below_drewN') | (refine Below.trans ?_ (Below.mono (by assumption) (by first | exact Nat.le_refl _ | (simp; done) | (simp; omega) | omega))) | exact Below.refl _ _ | assumption))
                case ca22R2 => (first | (simp [Act.put]; done) | (simp [Act.put, *]; done))
                try dsimp only
                refine wpW_end (by kernel_rfl) ?_
                intro we hg hS
                unfold NQ
                dsimp only
                exact H.out _ _ _ _ _ _ _ _ _ _ _ _ _ _ _ _ _ _ _ _ _ we hS
      · refine wpOp_go (by rfl) (Eq.refl _) (by go_simp; done) ?_
        intro K hK
        go_simp
        try simp only [Act.put]
        refine (copyInts_any Fl AF cF B _ (HF.out _ hS3) (by omega) hcF (Nat.le_trans hB (Below.size hS3)) HNF.out).mono ?_
        rintro e ws ⟨v, rfl, own, hBs⟩
        obtain ⟨DF, dF, rfl, rF, _, _⟩ := own_row2 own
        have m0 := MkOk.gr m0 hBs
        have m1 := MkOk.gr m1 hBs
        refine hK _ _ (Gr.trans hS3 hBs) ?_
        clear hK K own hBs
        refine wpW_branch [6, 15] (by kernel_rfl) (by simp) ?_
        intro w4 hg4 hS4
        try have m0 := MkOk.gr m0 hg4
        try have m1 := MkOk.gr m1 hg4
        try have rF := Row.gr rF hg4
        try have rS := Row.gr rS hg4
        refine each_cons ?_ (each_cons ?_ (each_nil))
        · refine wpOp_go (by rfl) (Eq.refl _) (by go_simp; done) ?_
          intro K hK
          go_simp
          try simp only [Act.put]
          refine hK _ _ hS4 ?_
          clear hK K
          refine wpW_branch [15] (by kernel_rfl) (by simp) ?_
          intro w5 hg5 hS5
          try have m0 := MkOk.gr m0 hg5
          try have m1 := MkOk.gr m1 hg5
          try have rF := Row.gr rF hg5
          try have rS := Row.gr rS hg5
          refine each_cons ?_ (each_nil)
          · refine wpOp_go (by rfl) (Eq.refl _) (by go_simp; done) ?_
            intro K hK
            go_simp
            try simp only [Act.put]
            refine (copyInts_any Sl AS cS B _ (HS.out _ hS5) (by omega) hcS (Nat.le_trans hB (Below.size hS5)) HNS.out).mono ?_
            rintro e ws ⟨v, rfl, own, hBs⟩
            obtain ⟨DS, dS, rfl, rS, _, _⟩ := own_row2 own
            have m0 := MkOk.gr m0 hBs
            have m1 := MkOk.gr m1 hBs
            have rF := Row.gr rF hBs
            refine hK _ _ (Gr.trans hS5 hBs) ?_
            clear hK K own hBs
            refine wpW_branch [16] (by kernel_rfl) (by simp) ?_
            intro w6 hg6 hS6
            try have m0 := MkOk.gr m0 hg6
            try have m1 := MkOk.gr m1 hg6
            try have rF := Row.gr rF hg6
            try have rS := Row.gr rS hg6
            refine each_cons ?_ (each_nil)
            · refine wpOp_go (by rfl) (Eq.refl _) (by go_simp; done) ?_
              intro K hK
              go_simp
              try simp only [Act.put]
              refine hK _ _ hS6 ?_
              clear hK K
              refine wpW_branch [17] (by kernel_rfl) (by simp) ?_
              intro w7 hg7 hS7
              try have m0 := MkOk.gr m0 hg7
              try have m1 := MkOk.gr m1 hg7
              try have rF := Row.gr rF hg7
              try have rS := Row.gr rS hg7
              refine each_cons ?_ (each_nil)
              · refine wpOp_go (by rfl) (Eq.refl _) (by go_simp; done) ?_
                intro K hK
                go_simp
                try simp only [Act.put]
                refine (checkCover_any l0 l1 D0 D1 DF DS d0 d1 dF dS _ slack Fl Sl _ m0 m1 rF rS q0 q1 (Nat.le_refl _) hn0 hn1 hnF hnS).mono ?_
                rintro e ws ⟨rfl, hBs⟩
                refine hK _ _ (Gr.trans hS7 hBs) ?_
                clear hK K m0 m1 rF rS hBs
                refine wpW_det (t' := ?ct18R3) 18 (by rfl) (by kernel_rfl) (NQ_free _) (by kernel_rfl) ?cw18R3 ?ch18R3 ?ca18R3 (Eq.refl _) ?cH18R3
                case cw18R3 => (go_simp; done)
                case ch18R3 =>
                  intro ds w' hS K hK
                  have hc := (bcell hS).1
                  have hf := (bcell hS).2
                  have hz := hS.size
                  try simp at hz
                  go_simp
                  try go_bits
                  first
                    | exact hK _ hS (Gr.refl _)
                    | exact hK _ (by repeat (first | (with_reducible exact Below.refl _ _) | (with_reducible assumption) | ((with_reducible refine Below.setCell ?_ ?_ _); rotate_left; · (first | exact Nat.le_refl _ | (simp; done) | (simp; omega) | omega)) | ((with_reducible refine Below.alloc ?_ ?_ _); rotate_left; · (first | exact Nat.le_refl _ | (simp; done) | (simp; omega) | omega)) | (with_reducible apply Below.drew) | (with_reducible apply below_drewN') | (refine Below.trans ?_ (Below.mono (by assumption) (by first | exact Nat.le_refl _ | (simp; done) | (simp; omega) | omega))) | exact Below.refl _ _ | assumption)) (by repeat (first | (with_reducible exact Below.refl _ _) | (with_reducible assumption) | ((with_reducible refine Below.setCell ?_ ?_ _); rotate_left; · (first | exact Nat.le_refl _ | (simp; done) | (simp; omega) | omega)) | ((with_reducible refine Below.alloc ?_ ?_ _); rotate_left; · (first | exact Nat.le_refl _ | (simp; done) | (simp; omega) | omega)) | (with_reducible apply Below.drew) | (with_reducible apply below_drewN') | (refine Below.trans ?_ (Below.mono (by assumption) (by first | exact Nat.le_refl _ | (simp; done) | (simp; omega) | omega))) | exact Below.refl _ _ | assumption))
                case ca18R3 => (first | (simp [Act.put]; done) | (simp [Act.put, *]; done))
                try dsimp only
                refine wpW_det (t' := ?ct19R3) 19 (by rfl) (by kernel_rfl) (NQ_free _) (by kernel_rfl) ?cw19R3 ?ch19R3 ?ca19R3 (Eq.refl _) ?cH19R3
                case cw19R3 => (go_simp; done)
                case ch19R3 =>
                  intro ds w' hS K hK
                  have hc := (bcell hS).1
                  have hf := (bcell hS).2
                  have hz := hS.size
                  try simp at hz
                  go_simp
                  try go_bits
                  first
                    | exact hK _ hS (Gr.refl _)
                    | exact hK _ (by repeat (first | (with_reducible exact Below.refl _ _) | (with_reducible assumption) | ((with_reducible refine Below.setCell ?_ ?_ _); rotate_left; · (first | exact Nat.le_refl _ | (simp; done) | (simp; omega) | omega)) | ((with_reducible refine Below.alloc ?_ ?_ _); rotate_left; · (first | exact Nat.le_refl _ | (simp; done) | (simp; omega) | omega)) | (with_reducible apply Below.drew) | (with_reducible apply below_drewN') | (refine Below.trans ?_ (Below.mono (by assumption) (by first | exact Nat.le_refl _ | (simp; done) | (simp; omega) | omega))) | exact Below.refl _ _ | assumption)) (by repeat (first | (with_reducible exact Below.refl _ _) | (with_reducible assumption) | ((with_reducible refine Below.setCell ?_ ?_ _); rotate_left; · (first | exact Nat.le_refl _ | (simp; done) | (simp; omega) | omega)) | ((with_reducible refine Below.alloc ?_ ?_ _); rotate_left; · (first | exact Nat.le_refl _ | (simp; done) | (simp; omega) | omega)) | (with_reducible apply Below.drew) | (with_reducible apply below_drewN') | (refine Below.trans ?_ (Below.mono (by assumption) (by first | exact Nat.le_refl _ | (simp; done) | (simp; omega) | omega))) | exact Below.refl _ _ | assumption))
                case ca19R3 => (first | (simp [Act.put]; done) | (simp [Act.put, *]; done))
                try dsimp only
                refine wpW_det (t' := ?ct20R3) 20 (by rfl) (by kernel_rfl) (NQ_free _) (by kernel_rfl) ?cw20R3 ?ch20R3 ?ca20R3 (Eq.refl _) ?cH20R3
                case cw20R3 => (go_simp; done)
                case ch20R3 =>
                  intro ds w' hS K hK
                  have hc := (bcell hS).1
                  have hf := (bcell hS).2
                  have hz := hS.size
                  try simp at hz
                  go_simp
                  try go_bits
                  first
                    | exact hK _ hS (Gr.refl _)
                    | exact hK _ (by repeat (first | (with_reducible exact Below.refl _ _) | (with_reducible assumption) | ((with_reducible refine Below.setCell ?_ ?_ _); rotate_left; · (first | exact Nat.le_refl _ | (simp; done) | (simp; omega) | omega)) | ((with_reducible refine Below.alloc ?_ ?_ _); rotate_left; · (first | exact Nat.le_refl _ | (simp; done) | (simp; omega) | omega)) | (with_reducible apply Below.drew) | (with_reducible apply below_drewN') | (refine Below.trans ?_ (Below.mono (by assumption) (by first | exact Nat.le_refl _ | (simp; done) | (simp; omega) | omega))) | exact Below.refl _ _ | assumption)) (by repeat (first | (with_reducible exact Below.refl _ _) | (with_reducible assumption) | ((with_reducible refine Below.setCell ?_ ?_ _); rotate_left; · (first | exact Nat.le_refl _ | (simp; done) | (simp; omega) | omega)) | ((with_reducible refine Below.alloc ?_ ?_ _); rotate_left; · (first | exact Nat.le_refl _ | (simp; done) | (simp; omega) | omega)) | (with_reducible apply Below.drew) | (with_reducible apply below_drewN') | (refine Below.trans ?_ (Below.mono (by assumption) (by first | exact Nat.le_refl _ | (simp; done) | (simp; omega) | omega))) | exact Below.refl _ _ | assumption))
                case ca20R3 => (first | (simp [Act.put]; done) | (simp [Act.put, *]; done))
                try dsimp only
                refine wpW_det (t' := ?ct21R3) 21 (by rfl) (by kernel_rfl) (NQ_free _) (by kernel_rfl) ?cw21R3 ?ch21R3 ?ca21R3 (Eq.refl _) ?cH21R3
                case cw21R3 => (go_simp; done)
                case ch21R3 =>
                  intro ds w' hS K hK
                  have hc := (bcell hS).1
                  have hf := (bcell hS).2
                  have hz := hS.size
                  try simp at hz
                  go_simp
                  try go_bits
                  first
                    | exact hK _ hS (Gr.refl _)
                    | exact hK _ (by repeat (first | (with_reducible exact Below.refl _ _) | (with_reducible assumption) | ((with_reducible refine Below.setCell ?_ ?_ _); rotate_left; · (first | exact Nat.le_refl _ | (simp; done) | (simp; omega) | omega)) | ((with_reducible refine Below.alloc ?_ ?_ _); rotate_left; · (first | exact Nat.le_refl _ | (simp; done) | (simp; omega) | omega)) | (with_reducible apply Below.drew) | (with_reducible apply below_drewN') | (refine Below.trans ?_ (Below.mono (by assumption) (by first | exact Nat.le_refl _ | (simp; done) | (simp; omega) | omega))) | exact Below.refl _ _ | assumption)) (by repeat (first | (with_reducible exact Below.refl _ _) | (with_reducible assumption) | ((with_reducible refine Below.setCell ?_ ?_ _); rotate_left; · (first | exact Nat.le_refl _ | (simp; done) | (simp; omega) | omega)) | ((with_reducible refine Below.alloc ?_ ?_ _); rotate_left; · (first | exact Nat.le_refl _ | (simp; done) | (simp; omega) | omega)) | (with_reducible apply Below.drew) | (with_reducible apply below_drewN') | (refine Below.trans ?_ (Below.mono (by assumption) (by first | exact Nat.le_refl _ | (simp; done) | (simp; omega) | omega))) | exact Below.refl _ _ | assumption))
                case ca21R3 => (first | (simp [Act.put]; done) | (simp [Act.put, *]; done))
                try dsimp only
                refine wpW_det (t' := ?ct22R3) 22 (by rfl) (by kernel_rfl) (NQ_free _) (by kernel_rfl) ?cw22R3 ?ch22R3 ?ca22R3 (Eq.refl _) ?cH22R3
                case cw22R3 => (go_simp; done)
                case ch22R3 =>
                  intro ds w' hS K hK
                  have hc := (bcell hS).1
                  have hf := (bcell hS).2
                  have hz := hS.size
                  try simp at hz
                  go_simp
                  try go_bits
                  first
                    | exact hK _ hS (Gr.refl _)
                    | exact hK _ (by repeat (first | (with_reducible exact Below.refl _ _) | (with_reducible assumption) | ((with_reducible refine Below.setCell ?_ ?_ _); rotate_left; · (first | exact Nat.le_refl _ | (simp; done) | (simp; omega) | omega)) | ((with_reducible refine Below.alloc ?_ ?_ _); rotate_left; · (first | exact Nat.le_refl _ | (simp; done) | (simp; omega) | omega)) | (with_reducible apply Below.drew) | (with_reducible apply below_drewN') | (refine Below.trans ?_ (Below.mono (by assumption) (by first | exact Nat.le_refl _ | (simp; done) | (simp; omega) | omega))) | exact Below.refl _ _ | assumption)) (by repeat (first | (with_reducible exact Below.refl _ _) | (with_reducible assumption) | ((with_reducible refine Below.setCell ?_ ?_ _); rotate_left; · (first | exact Nat.le_refl _ | (simp; done) | (simp; omega) | omega)) | ((with_reducible refine Below.alloc ?_ ?_ _); rotate_left; · (first | exact Nat.le_refl _ | (simp; done) | (simp; omega) | omega)) | (with_reducible apply Below.drew) | (with_reducible apply below_drewN') | (refine Below.trans ?_ (Below.mono (by assumption) (by first | exact Nat.le_refl _ | (simp; done) | (simp; omega) | omega))) | exact Below.refl _ _ | assumption))
                case ca22R3 => (first | (simp [Act.put]; done) | (simp [Act.put, *]; done))
                try dsimp only
                refine wpW_end (by kernel_rfl) ?_
                intro we hg hS
                unfold NQ
                dsimp only
                exact H.out _ _ _ _ _ _ _ _ _ _ _ _ _ _ _ _ _ _ _ _ _ we hS
        · refine wpOp_go (by rfl) (Eq.refl _) (by go_simp; done) ?_
          intro K hK
          go_simp
          try simp only [Act.put]
          refine (copyInts_any Sl AS cS B _ (HS.out _ hS4) (by omega) hcS (Nat.le_trans hB (Below.size hS4)) HNS.out).mono ?_
          rintro e ws ⟨v, rfl, own, hBs⟩
          obtain ⟨DS, dS, rfl, rS, _, _⟩ := own_row2 own
          have m0 := MkOk.gr m0 hBs
          have m1 := MkOk.gr m1 hBs
          have rF := Row.gr rF hBs
          refine hK _ _ (Gr.trans hS4 hBs) ?_
          clear hK K own hBs
          refine wpW_branch [6, 16] (by kernel_rfl) (by simp) ?_
          intro w5 hg5 hS5
          try have m0 := MkOk.gr m0 hg5
          try have m1 := MkOk.gr m1 hg5
          try have rF := Row.gr rF hg5
          try have rS := Row.gr rS hg5
          refine each_cons ?_ (each_cons ?_ (each_nil))
          · refine wpOp_go (by rfl) (Eq.refl _) (by go_simp; done) ?_
            intro K hK
            go_simp
            try simp only [Act.put]
            refine hK _ _ hS5 ?_
            clear hK K
            refine wpW_branch [16] (by kernel_rfl) (by simp) ?_
            intro w6 hg6 hS6
            try have m0 := MkOk.gr m0 hg6
            try have m1 := MkOk.gr m1 hg6
            try have rF := Row.gr rF hg6
            try have rS := Row.gr rS hg6
            refine each_cons ?_ (each_nil)
            · refine wpOp_go (by rfl) (Eq.refl _) (by go_simp; done) ?_
              intro K hK
              go_simp
              try simp only [Act.put]
              refine hK _ _ hS6 ?_
              clear hK K
              refine wpW_branch [17] (by kernel_rfl) (by simp) ?_
              intro w7 hg7 hS7
              try have m0 := MkOk.gr m0 hg7
              try have m1 := MkOk.gr m1 hg7
              try have rF := Row.gr rF hg7
              try have rS := Row.gr rS hg7
              refine each_cons ?_ (each_nil)
              · refine wpOp_go (by rfl) (Eq.refl _) (by go_simp; done) ?_
                intro K hK
                go_simp
                try simp only [Act.put]
                refine (checkCover_any l0 l1 D0 D1 DF DS d0 d1 dF dS _ slack Fl Sl _ m0 m1 rF rS q0 q1 (Nat.le_refl _) hn0 hn1 hnF hnS).mono ?_
                rintro e ws ⟨rfl, hBs⟩
                refine hK _ _ (Gr.trans hS7 hBs) ?_
                clear hK K m0 m1 rF rS hBs
                refine wpW_det (t' := ?ct18R4) 18 (by rfl) (by kernel_rfl) (NQ_free _) (by kernel_rfl) ?cw18R4 ?ch18R4 ?ca18R4 (Eq.refl _) ?cH18R4
                case cw18R4 => (go_simp; done)
                case ch18R4 =>
                  intro ds w' hS K hK
                  have hc := (bcell hS).1
                  have hf := (bcell hS).2
                  have hz := hS.size
                  try simp at hz
                  go_simp
                  try go_bits
                  first
                    | exact hK _ hS (Gr.refl _)
                    | exact hK _ (by repeat (first | (with_reducible exact Below.refl _ _) | (with_reducible assumption) | ((with_reducible refine Below.setCell ?_ ?_ _); rotate_left; · (first | exact Nat.le_refl _ | (simp; done) | (simp; omega) | omega)) | ((with_reducible refine Below.alloc ?_ ?_ _); rotate_left; · (first | exact Nat.le_refl _ | (simp; done) | (simp; omega) | omega)) | (with_reducible apply Below.drew) | (with_reducible apply below_drewN') | (refine Below.trans ?_ (Below.mono (by assumption) (by first | exact Nat.le_refl _ | (simp; done) | (simp; omega) | omega))) | exact Below.refl _ _ | assumption)) (by repeat (first | (with_reducible exact Below.refl _ _) | (with_reducible assumption) | ((with_reducible refine Below.setCell ?_ ?_ _); rotate_left; · (first | exact Nat.le_refl _ | (simp; done) | (simp; omega) | omega)) | ((with_reducible refine Below.alloc ?_ ?_ _); rotate_left; · (first | exact Nat.le_refl _ | (simp; done) | (simp; omega) | omega)) | (with_reducible apply Below.drew) | (with_reducible apply below_drewN') | (refine Below.trans ?_ (Below.mono (by assumption) (by first | exact Nat.le_refl _ | (simp; done) | (simp; omega) | omega))) | exact Below.refl _ _ | assumption))
                case ca18R4 => (first | (simp [Act.put]; done) | (simp [Act.put, *]; done))
                try dsimp only
                refine wpW_det (t' := ?ct19R4) 19 (by rfl) (by kernel_rfl) (NQ_free _) (by kernel_rfl) ?cw19R4 ?ch19R4 ?ca19R4 (Eq.refl _) ?cH19R4
                case cw19R4 => (go_simp; done)
                case ch19R4 =>
                  intro ds w' hS K hK
                  have hc := (bcell hS).1
                  have hf := (bcell hS).2
                  have hz := hS.size
                  try simp at hz
                  go_simp
                  try go_bits
                  first
                    | exact hK _ hS (Gr.refl _)
                    | exact hK _ (by repeat (first | (with_reducible exact Below.refl _ _) | (with_reducible assumption) | ((with_reducible refine Below.setCell ?_ ?_ _); rotate_left; · (first | exact Nat.le_refl _ | (simp; done) | (simp; omega) | omega)) | ((with_reducible refine Below.alloc ?_ ?_ _); rotate_left; · (first | exact Nat.le_refl _ | (simp; done) | (simp; omega) | omega)) | (with_reducible apply Below.drew) | (with_reducible apply below_drewN') | (refine Below.trans ?_ (Below.mono (by assumption) (by first | exact Nat.le_refl _ | (simp; done) | (simp; omega) | omega))) | exact Below.refl _ _ | assumption)) (by repeat (first | (with_reducible exact Below.refl _ _) | (with_reducible assumption) | ((with_reducible refine Below.setCell ?_ ?_ _); rotate_left; · (first | exact Nat.le_refl _ | (simp; done) | (simp; omega) | omega)) | ((with_reducible refine Below.alloc ?_ ?_ _); rotate_left; · (first | exact Nat.le_refl _ | (simp; done) | (simp; omega) | omega)) | (with_reducible apply Below.drew) | (with_reducible apply below_drewN') | (refine Below.trans ?_ (Below.mono (by assumption) (by first | exact Nat.le_refl _ | (simp; done) | (simp; omega) | omega))) | exact Below.refl _ _ | assumption))
                case ca19R4 => (first | (simp [Act.put]; done) | (simp [Act.put, *]; done))
                try dsimp only
                refine wpW_det (t' := ?ct20R4) 20 (by rfl) (by kernel_rfl) (NQ_free _) (by kernel_rfl) ?cw20R4 ?ch20R4 ?ca20R4 (Eq.refl _) ?cH20R4
                case cw20R4 => (go_simp; done)
                case ch20R4 =>
                  intro ds w' hS K hK
                  have hc := (bcell hS).1
                  have hf := (bcell hS).2
                  have hz := hS.size
                  try simp at hz
                  go_simp
                  try go_bits
                  first
                    | exact hK _ hS (Gr.refl _)
                    | exact hK _ (by repeat (first | (with_reducible exact Below.refl _ _) | (with_reducible assumption) | ((with_reducible refine Below.setCell ?_ ?_ _); rotate_left; · (first | exact Nat.le_refl _ | (simp; done) | (simp; omega) | omega)) | ((with_reducible refine Below.alloc ?_ ?_ _); rotate_left; · (first | exact Nat.le_refl _ | (simp; done) | (simp; omega) | omega)) | (with_reducible apply Below.drew) | (with_reducible apply below_drewN') | (refine Below.trans ?_ (Below.mono (by assumption) (by first | exact Nat.le_refl _ | (simp; done) | (simp; omega) | omega))) | exact Below.refl _ _ | assumption)) (by repeat (first | (with_reducible exact Below.refl _ _) | (with_reducible assumption) | ((with_reducible refine Below.setCell ?_ ?_ _); rotate_left; · (first | exact Nat.le_refl _ | (simp; done) | (simp; omega) | omega)) | ((with_reducible refine Below.alloc ?_ ?_ _); rotate_left; · (first | exact Nat.le_refl _ | (simp; done) | (simp; omega) | omega)) | (with_reducible apply Below.drew) | (with_reducible apply below_drewN') | (refine Below.trans ?_ (Below.mono (by assumption) (by first | exact Nat.le_refl _ | (simp; done) | (simp; omega) | omega))) | exact Below.refl _ _ | assumption))
                case ca20R4 => (first | (simp [Act.put]; done) | (simp [Act.put, *]; done))
                try dsimp only
                refine wpW_det (t' := ?ct21R4) 21 (by rfl) (by kernel_rfl) (NQ_free _) (by kernel_rfl) ?cw21R4 ?ch21R4 ?ca21R4 (Eq.refl _) ?cH21R4
                case cw21R4 => (go_simp; done)
                case ch21R4 =>
                  intro ds w' hS K hK
                  have hc := (bcell hS).1
                  have hf := (bcell hS).2
                  have hz := hS.size
                  try simp at hz
                  go_simp
                  try go_bits
                  first
                    | exact hK _ hS (Gr.refl _)
                    | exact hK _ (by repeat (first | (with_reducible exact Below.refl _ _) | (with_reducible assumption) | ((with_reducible refine Below.setCell ?_ ?_ _); rotate_left; · (first | exact Nat.le_refl _ | (simp; done) | (simp; omega) | omega)) | ((with_reducible refine Below.alloc ?_ ?_ _); rotate_left; · (first | exact Nat.le_refl _ | (simp; done) | (simp; omega) | omega)) | (with_reducible apply Below.drew) | (with_reducible apply below_drewN') | (refine Below.trans ?_ (Below.mono (by assumption) (by first | exact Nat.le_refl _ | (simp; done) | (simp; omega) | omega))) | exact Below.refl _ _ | assumption)) (by repeat (first | (with_reducible exact Below.refl _ _) | (with_reducible assumption) | ((with_reducible refine Below.setCell ?_ ?_ _); rotate_left; · (first | exact Nat.le_refl _ | (simp; done) | (simp; omega) | omega)) | ((with_reducible refine Below.alloc ?_ ?_ _); rotate_left; · (first | exact Nat.le_refl _ | (simp; done) | (simp; omega) | omega)) | (with_reducible apply Below.drew) | (with_reducible apply below_drewN') | (refine Below.trans ?_ (Below.mono (by assumption) (by first | exact Nat.le_refl _ | (simp; done) | (simp; omega) | omega))) | exact Below.refl _ _ | assumption))
                case ca21R4 => (first | (simp [Act.put]; done) | (simp [Act.put, *]; done))
                try dsimp only
                refine wpW_det (t' := ?ct22R4) 22 (by rfl) (by kernel_rfl) (NQ_free _) (by kernel_rfl) ?cw22R4 ?ch22R4 ?ca22R4 (Eq.refl _) ?cH22R4
                case cw22R4 => (go_simp; done)
                case ch22R4 =>
                  intro ds w' hS K hK
                  have hc := (bcell hS).1
                  have hf := (bcell hS).2
                  have hz := hS.size
                  try simp at hz
                  go_simp
                  try go_bits
                  first
                    | exact hK _ hS (Gr.refl _)
                    | exact hK _ (by repeat (first | (with_reducible exact Below.refl _ _) | (with_reducible assumption) | ((with_reducible refine Below.setCell ?_ ?_ _); rotate_left; · (first | exact Nat.le_refl _ | (simp; done) | (simp; omega) | omega)) | ((with_reducible refine Below.alloc ?_ ?_ _); rotate_left; · (first | exact Nat.le_refl _ | (simp; done) | (simp; omega) | omega)) | (with_reducible apply Below.drew) | (with_reducible apply below_drewN') | (refine Below.trans ?_ (Below.mono (by assumption) (by first | exact Nat.le_refl _ | (simp; done) | (simp; omega) | omega))) | exact Below.refl _ _ | assumption)) (by repeat (first | (with_reducible exact Below.refl _ _) | (with_reducible assumption) | ((with_reducible refine Below.setCell ?_ ?_ _); rotate_left; · (first | exact Nat.le_refl _ | (simp; done) | (simp; omega) | omega)) | ((with_reducible refine Below.alloc ?_ ?_ _); rotate_left; · (first | exact Nat.le_refl _ | (simp; done) | (simp; omega) | omega)) | (with_reducible apply Below.drew) | (with_reducible apply below_drewN') | (refine Below.trans ?_ (Below.mono (by assumption) (by first | exact Nat.le_refl _ | (simp; done) | (simp; omega) | omega))) | exact Below.refl _ _ | assumption))
                case ca22R4 => (first | (simp [Act.put]; done) | (simp [Act.put, *]; done))
                try dsimp only
                refine wpW_end (by kernel_rfl) ?_
                intro we hg hS
                unfold NQ
                dsimp only
                exact H.out _ _ _ _ _ _ _ _ _ _ _ _ _ _ _ _ _ _ _ _ _ we hS
          · refine wpOp_go (by rfl) (Eq.refl _) (by go_simp; done) ?_
            intro K hK
            go_simp
            try simp only [Act.put]
            refine hK _ _ hS5 ?_
            clear hK K
            refine wpW_branch [6] (by kernel_rfl) (by simp) ?_
            intro w6 hg6 hS6
            try have m0 := MkOk.gr m0 hg6
            try have m1 := MkOk.gr m1 hg6
            try have rF := Row.gr rF hg6
            try have rS := Row.gr rS hg6
            refine each_cons ?_ (each_nil)
            · refine wpOp_go (by rfl) (Eq.refl _) (by go_simp; done) ?_
              intro K hK
              go_simp
              try simp only [Act.put]
              refine hK _ _ hS6 ?_
              clear hK K
              refine wpW_branch [17] (by kernel_rfl) (by simp) ?_
              intro w7 hg7 hS7
              try have m0 := MkOk.gr m0 hg7
              try have m1 := MkOk.gr m1 hg7
              try have rF := Row.gr rF hg7
              try have rS := Row.gr rS hg7
              refine each_cons ?_ (each_nil)
              · refine wpOp_go (by rfl) (Eq.refl _) (by go_simp; done) ?_
                intro K hK
                go_simp
                try simp only [Act.put]
                refine (checkCover_any l0 l1 D0 D1 DF DS d0 d1 dF dS _ slack Fl Sl _ m0 m1 rF rS q0 q1 (Nat.le_refl _) hn0 hn1 hnF hnS).mono ?_
                rintro e ws ⟨rfl, hBs⟩
                refine hK _ _ (Gr.trans hS7 hBs) ?_
                clear hK K m0 m1 rF rS hBs
                refine wpW_det (t' := ?ct18R5) 18 (by rfl) (by kernel_rfl) (NQ_free _) (by kernel_rfl) ?cw18R5 ?ch18R5 ?ca18R5 (Eq.refl _) ?cH18R5
                case cw18R5 => (go_simp; done)
                case ch18R5 =>
                  intro ds w' hS K hK
                  have hc := (bcell hS).1
                  have hf := (bcell hS).2
                  have hz := hS.size
                  try simp at hz
                  go_simp
                  try go_bits
                  first
                    | exact hK _ hS (Gr.refl _)
                    | exact hK _ (by repeat (first | (with_reducible exact Below.refl _ _) | (with_reducible assumption) | ((with_reducible refine Below.setCell ?_ ?_ _); rotate_left; · (first | exact Nat.le_refl _ | (simp; done) | (simp; omega) | omega)) | ((with_reducible refine Below.alloc ?_ ?_ _); rotate_left; · (first | exact Nat.le_refl _ | (simp; done) | (simp; omega) | omega)) | (with_reducible apply Below.drew) | (with_reducible apply below_drewN') | (refine Below.trans ?_ (Below.mono (by assumption) (by first | exact Nat.le_refl _ | (simp; done) | (simp; omega) | omega))) | exact Below.refl _ _ | assumption)) (by repeat (first | (with_reducible exact Below.refl _ _) | (with_reducible assumption) | ((with_reducible refine Below.setCell ?_ ?_ _); rotate_left; · (first | exact Nat.le_refl _ | (simp; done) | (simp; omega) | omega)) | ((with_reducible refine Below.alloc ?_ ?_ _); rotate_left; · (first | exact Nat.le_refl _ | (simp; done) | (simp; omega) | omega)) | (with_reducible apply Below.drew) | (with_reducible apply below_drewN') | (refine Below.trans ?_ (Below.mono (by assumption) (by first | exact Nat.le_refl _ | (simp; done) | (simp; omega) | omega))) | exact Below.refl _ _ | assumption))
                case ca18R5 => (first | (simp [Act.put]; done) | (simp [Act.put, *]; done))
                try dsimp only
                refine wpW_det (t' := ?ct19R5) 19 (by rfl) (by kernel_rfl) (NQ_free _) (by kernel_rfl) ?cw19R5 ?ch19R5 ?ca19R5 (Eq.refl _) ?cH19R5
                case cw19R5 => (go_simp; done)
                case ch19R5 =>
                  intro ds w' hS K hK
                  have hc := (bcell hS).1
                  have hf := (bcell hS).2
                  have hz := hS.size
                  try simp at hz
                  go_simp
                  try go_bits
                  first
                    | exact hK _ hS (Gr.refl _)
                    | exact hK _ (by repeat (first | (with_reducible exact Below.refl _ _) | (with_reducible assumption) | ((with_reducible refine Below.setCell ?_ ?_ _); rotate_left; · (first | exact Nat.le_refl _ | (simp; done) | (simp; omega) | omega)) | ((with_reducible refine Below.alloc ?_ ?_ _); rotate_left; · (first | exact Nat.le_refl _ | (simp; done) | (simp; omega) | omega)) | (with_reducible apply Below.drew) | (with_reducible apply below_drewN') | (refine Below.trans ?_ (Below.mono (by assumption) (by first | exact Nat.le_refl _ | (simp; done) | (simp; omega) | omega))) | exact Below.refl _ _ | assumption)) (by repeat (first | (with_reducible exact Below.refl _ _) | (with_reducible assumption) | ((with_reducible refine Below.setCell ?_ ?_ _); rotate_left; · (first | exact Nat.le_refl _ | (simp; done) | (simp; omega) | omega)) | ((with_reducible refine Below.alloc ?_ ?_ _); rotate_left; · (first | exact Nat.le_refl _ | (simp; done) | (simp; omega) | omega)) | (with_reducible apply Below.drew) | (with_reducible apply below_drewN') | (refine Below.trans ?_ (Below.mono (by assumption) (by first | exact Nat.le_refl _ | (simp; done) | (simp; omega) | omega))) | exact Below.refl _ _ | assumption))
                case ca19R5 => (first | (simp [Act.put]; done) | (simp [Act.put, *]; done))
                try dsimp only
                refine wpW_det (t' := ?ct20R5) 20 (by rfl) (by kernel_rfl) (NQ_free _) (by kernel_rfl) ?cw20R5 ?ch20R5 ?ca20R5 (Eq.refl _) ?cH20R5
                case cw20R5 => (go_simp; done)
                case ch20R5 =>
                  intro ds w' hS K hK
                  have hc := (bcell hS).1
                  have hf := (bcell hS).2
                  have hz := hS.size
                  try simp at hz
                  go_simp
                  try go_bits
                  first
                    | exact hK _ hS (Gr.refl _)
                    | exact hK _ (by repeat (first | (with_reducible exact Below.refl _ _) | (with_reducible assumption) | ((with_reducible refine Below.setCell ?_ ?_ _); rotate_left; · (first | exact Nat.le_refl _ | (simp; done) | (simp; omega) | omega)) | ((with_reducible refine Below.alloc ?_ ?_ _); rotate_left; · (first | exact Nat.le_refl _ | (simp; done) | (simp; omega) | omega)) | (with_reducible apply Below.drew) | (with_reducible apply below_drewN') | (refine Below.trans ?_ (Below.mono (by assumption) (by first | exact Nat.le_refl _ | (simp; done) | (simp; omega) | omega))) | exact Below.refl _ _ | assumption)) (by repeat (first | (with_reducible exact Below.refl _ _) | (with_reducible assumption) | ((with_reducible refine Below.setCell ?_ ?_ _); rotate_left; · (first | exact Nat.le_refl _ | (simp; done) | (simp; omega) | omega)) | ((with_reducible refine Below.alloc ?_ ?_ _); rotate_left; · (first | exact Nat.le_refl _ | (simp; done) | (simp; omega) | omega)) | (with_reducible apply Below.drew) | (with_reducible apply below_drewN') | (refine Below.trans ?_ (Below.mono (by assumption) (by first | exact Nat.le_refl _ | (simp; done) | (simp; omega) | omega))) | exact Below.refl _ _ | assumption))
                case ca20R5 => (first | (simp [Act.put]; done) | (simp [Act.put, *]; done))
                try dsimp only
                refine wpW_det (t' := ?ct21R5) 21 (by rfl) (by kernel_rfl) (NQ_free _) (by kernel_rfl) ?cw21R5 ?ch21R5 ?ca21R5 (Eq.refl _) ?cH21R5
                case cw21R5 => (go_simp; done)
                case ch21R5 =>
                  intro ds w' hS K hK
                  have hc := (bcell hS).1
                  have hf := (bcell hS).2
                  have hz := hS.size
                  try simp at hz
                  go_simp
                  try go_bits
                  first
                    | exact hK _ hS (Gr.refl _)
                    | exact hK _ (by repeat (first | (with_reducible exact Below.refl _ _) | (with_reducible assumption) | ((with_reducible refine Below.setCell ?_ ?_ _); rotate_left; · (first | exact Nat.le_refl _ | (simp; done) | (simp; omega) | omega)) | ((with_reducible refine Below.alloc ?_ ?_ _); rotate_left; · (first | exact Nat.le_refl _ | (simp; done) | (simp; omega) | omega)) | (with_reducible apply Below.drew) | (with_reducible apply below_drewN') | (refine Below.trans ?_ (Below.mono (by assumption) (by first | exact Nat.le_refl _ | (simp; done) | (simp; omega) | omega))) | exact Below.refl _ _ | assumption)) (by repeat (first | (with_reducible exact Below.refl _ _) | (with_reducible assumption) | ((with_reducible refine Below.setCell ?_ ?_ _); rotate_left; · (first | exact Nat.le_refl _ | (simp; done) | (simp; omega) | omega)) | ((with_reducible refine Below.alloc ?_ ?_ _); rotate_left; · (first | exact Nat.le_refl _ | (simp; done) | (simp; omega) | omega)) | (with_reducible apply Below.drew) | (with_reducible apply below_drewN') | (refine Below.trans ?_ (Below.mono (by assumption) (by first | exact Nat.le_refl _ | (simp; done) | (simp; omega) | omega))) | exact Below.refl _ _ | assumption))
                case ca21R5 => (first | (simp [Act.put]; done) | (simp [Act.put, *]; done))
                try dsimp only
                refine wpW_det (t' := ?ct22R5) 22 (by rfl) (by kernel_rfl) (NQ_free _) (by kernel_rfl) ?cw22R5 ?ch22R5 ?ca22R5 (Eq.refl _) ?cH22R5
                case cw22R5 => (go_simp; done)
                case ch22R5 =>
                  intro ds w' hS K hK
                  have hc := (bcell hS).1
                  have hf := (bcell hS).2
                  have hz := hS.size
                  try simp at hz
                  go_simp
                  try go_bits
                  first
                    | exact hK _ hS (Gr.refl _)
                    | exact hK _ (by repeat (first | (with_reducible exact Below.refl _ _) | (with_reducible assumption) | ((with_reducible refine Below.setCell ?_ ?_ _); rotate_left; · (first | exact Nat.le_refl _ | (simp; done) | (simp; omega) | omega)) | ((with_reducible refine Below.alloc ?_ ?_ _); rotate_left; · (first | exact Nat.le_refl _ | (simp; done) | (simp; omega) | omega)) | (with_reducible apply Below.drew) | (with_reducible apply below_drewN') | (refine Below.trans ?_ (Below.mono (by assumption) (by first | exact Nat.le_refl _ | (simp; done) | (simp; omega) | omega))) | exact Below.refl _ _ | assumption)) (by repeat (first | (with_reducible exact Below.refl _ _) | (with_reducible assumption) | ((with_reducible refine Below.setCell ?_ ?_ _); rotate_left; · (first | exact Nat.le_refl _ | (simp; done) | (simp; omega) | omega)) | ((with_reducible refine Below.alloc ?_ ?_ _); rotate_left; · (first | exact Nat.le_refl _ | (simp; done) | (simp; omega) | omega)) | (with_reducible apply Below.drew) | (with_reducible apply below_drewN') | (refine Below.trans ?_ (Below.mono (by assumption) (by first | exact Nat.le_refl _ | (simp; done) | (simp; omega) | omega))) | exact Below.refl _ _ | assumption))
                case ca22R5 => (first | (simp [Act.put]; done) | (simp [Act.put, *]; done))
                try dsimp only
                refine wpW_end (by kernel_rfl) ?_
                intro we hg hS
                unfold NQ
                dsimp only
                exact H.out _ _ _ _ _ _ _ _ _ _ _ _ _ _ _ _ _ _ _ _ _ we hS

end Go.Proofs.YtidgeagpgllkeaaGreat
