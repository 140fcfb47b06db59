/- A region of the reference's Areas: two labels become the lesser one. -/
import Derived.Test.YtidgeagpgllkeaaGreatZaFnX
namespace Go.Proofs.YtidgeagpgllkeaaGreat
open Go.RowKit

set_option maxRecDepth 100000 in
set_option maxHeartbeats 16000000 in
/-- Two labels become the lesser one (region 17). -/
theorem labReg17 {V W : World} {p N : Nat} {F : List Int} (M : LbM V p N F W) {i k : Nat} {fi fk : Int} (hi : F[i]? = some fi) (hk : F[k]? = some fk) (hik : k < i) (hN : i < N) (_hN2 : N ≤ 100000) {t0 t1 t2 t3 t4 t5 t7 t8 t11 t12 t13 t14 t15 t16 t17 t18 t19 t20 t21 t22 t23 t24 t25 t26 t27 t28 t29 t30 t31 t32 t33 t34 t35 t36 t37 t38 t39 t40 t41 t42 t43 t44 t45 t46 t47 t48 t49 t50 t51 t52 t53 t54 t55 t56 t57 t58 t59 t60 t61 t62 t63 t64 t65 t66 t67 t68 t69 t70 t71 t72 t73 t74 t75 t76 t77 t78 t79 t80 t81 t82 t83 t84 t85 t86 t87 t88 t89 t90 t91 t92 t93 t94 t95 t96 t97 t98 t99 t100 t101 t102 t103 t104 t105 t106 t107 t108 t109 t110 t111 t112 t113 t114 t115 t116 t117 t118 t119 t120 t121 t122 t123 t124 t125 t126 t127 t128 t129 t130 t131 t132 t133 t134 t135 t136 t137 t138 t139 t140 t141 t142 t143 t144 t145 t146 t147 : Value} {ds : List Deferred} (Q : Exit → Act → World → Prop)
    (h : ∀ (t67 t68 t69 t70 t71 t72 t73 t74 t75 t76 t77 t78 t79 t80 t81 t82 t83 t84 t85 t86 t87 t88 t89 t90 : Value) (w' : World), LbM V p N ((F.set i (min fi fk)).set k (min fi fk)) w' → Q .normal ⟨#[t0, t1, t2, t3, t4, t5, .slice (some ⟨p, 0, none⟩) N N, t7, .bool true, .int .i64 (i : Int), .int .i64 (k : Int), t11, t12, t13, t14, t15, t16, t17, t18, t19, t20, t21, t22, t23, t24, t25, t26, t27, t28, t29, t30, t31, t32, t33, t34, t35, t36, t37, t38, t39, t40, t41, t42, t43, t44, t45, t46, t47, t48, t49, t50, t51, t52, t53, t54, t55, t56, t57, t58, t59, t60, t61, t62, t63, t64, t65, t66, t67, t68, t69, t70, t71, t72, t73, t74, t75, t76, t77, t78, t79, t80, t81, t82, t83, t84, t85, t86, t87, t88, t89, t90, t91, t92, t93, t94, t95, t96, t97, t98, t99, t100, t101, t102, t103, t104, t105, t106, t107, t108, t109, t110, t111, t112, t113, t114, t115, t116, t117, t118, t119, t120, t121, t122, t123, t124, t125, t126, t127, t128, t129, t130, t131, t132, t133, t134, t135, t136, t137, t138, t139, t140, t141, t142, t143, t144, t145, t146, t147], ds⟩ w') :
    (regOf Tryz.f65 17).wp Tryz.prog Q ⟨#[t0, t1, t2, t3, t4, t5, .slice (some ⟨p, 0, none⟩) N N, t7, t8, .int .i64 (i : Int), .int .i64 (k : Int), t11, t12, t13, t14, t15, t16, t17, t18, t19, t20, t21, t22, t23, t24, t25, t26, t27, t28, t29, t30, t31, t32, t33, t34, t35, t36, t37, t38, t39, t40, t41, t42, t43, t44, t45, t46, t47, t48, t49, t50, t51, t52, t53, t54, t55, t56, t57, t58, t59, t60, t61, t62, t63, t64, t65, t66, t67, t68, t69, t70, t71, t72, t73, t74, t75, t76, t77, t78, t79, t80, t81, t82, t83, t84, t85, t86, t87, t88, t89, t90, t91, t92, t93, t94, t95, t96, t97, t98, t99, t100, t101, t102, t103, t104, t105, t106, t107, t108, t109, t110, t111, t112, t113, t114, t115, t116, t117, t118, t119, t120, t121, t122, t123, t124, t125, t126, t127, t128, t129, t130, t131, t132, t133, t134, t135, t136, t137, t138, t139, t140, t141, t142, t143, t144, t145, t146, t147], ds⟩ W := by
  have H := Lib.hid h; clear h
  have i1 : ((i : Int) < (N : Int)) := by omega
  have i2 : ((k : Int) < (N : Int)) := by omega
  have HI := Lib.hid hi; have HK := Lib.hid hk
  clear hi hk
  replace M := M.drew
  obtain ⟨rw', hrw⟩ : ∃ r : Option Nat, r = some p := ⟨_, rfl⟩
  have HRW := Lib.hid hrw
  clear hrw
  conv in (regOf _ _) => whnf
  refine wp_region_w (fun w' => World.grownBy _ w' rw') (by kernel_rfl) (only_drew (World.grownBy.refl _ _)) ?_
  refine wpW_det (t' := ?ct0R9) 0 (by rfl) (by kernel_rfl) (NQ_free _) (by kernel_rfl) ?cw0R9 ?ch0R9 ?ca0R9 (Eq.refl _) ?cH0R9
  case cw0R9 => (go_simp; done)
  case ch0R9 =>
    intro ds w' hS K hK
    have hc := (ocell hS).1
    have hf := (ocell hS).2
    have hz := hS.size
    try simp at hz
    go_simp
    try go_bits
    first
      | exact hK _ hS (Gr.refl _)
      | fail
  case ca0R9 => (first | (simp [Act.put]; done) | (simp [Act.put, *]; done))
  try dsimp only
  refine wpW_det (t' := ?ct1R9) 1 (by rfl) (by kernel_rfl) (NQ_free _) (by kernel_rfl) ?cw1R9 ?ch1R9 ?ca1R9 (Eq.refl _) ?cH1R9
  case cw1R9 => (go_simp; done)
  case ch1R9 =>
    intro ds w' hS K hK
    have hc := (ocell hS).1
    have hf := (ocell hS).2
    have hz := hS.size
    try simp at hz
    go_simp
    try go_bits
    first
      | exact hK _ hS (Gr.refl _)
      | fail
  case ca1R9 => (first | (simp [Act.put]; done) | (simp [Act.put, *]; done))
  try dsimp only
  refine wpW_det (t' := ?ct2R9) 2 (by rfl) (by kernel_rfl) (NQ_free _) (by kernel_rfl) ?cw2R9 ?ch2R9 ?ca2R9 (Eq.refl _) ?cH2R9
  case cw2R9 => (go_simp; done)
  case ch2R9 =>
    intro ds w' hS K hK
    have hc := (ocell hS).1
    have hf := (ocell hS).2
    have hz := hS.size
    try simp at hz
    go_simp
    try go_bits
    first
      | exact hK _ hS (Gr.refl _)
      | fail
  case ca2R9 => (first | (simp [Act.put]; done) | (simp [Act.put, *]; done))
  try dsimp only
  refine wpW_det (t' := ?ct3R9) 3 (by rfl) (by kernel_rfl) (NQ_free _) (by kernel_rfl) ?cw3R9 ?ch3R9 ?ca3R9 (Eq.refl _) ?cH3R9
  case cw3R9 => (go_simp; done)
  case ch3R9 =>
    intro ds w' hS K hK
    have hc := (ocell hS).1
    have hf := (ocell hS).2
    have hz := hS.size
    try simp at hz
    go_simp
    try go_bits
    first
      | exact hK _ hS (Gr.refl _)
      | fail
  case ca3R9 => (first | (simp [Act.put]; done) | (simp [Act.put, *]; done))
  try dsimp only
  refine wpW_det (t' := ?ct4R9) 4 (by rfl) (by kernel_rfl) (NQ_free _) (by kernel_rfl) ?cw4R9 ?ch4R9 ?ca4R9 (Eq.refl _) ?cH4R9
  case cw4R9 => (go_simp; done)
  case ch4R9 =>
    intro ds w' hS K hK
    have hc := (ocell hS).1
    have hf := (ocell hS).2
    have hz := hS.size
    try simp at hz
    go_simp
    try go_bits
    first
      | exact hK _ hS (Gr.refl _)
      | fail
  case ca4R9 => (first | (simp [Act.put]; done) | (simp [Act.put, *]; done))
  try dsimp only
  refine wpW_det (t' := ?ct5R9) 5 (by rfl) (by kernel_rfl) (NQ_free _) (by kernel_rfl) ?cw5R9 ?ch5R9 ?ca5R9 (Eq.refl _) ?cH5R9
  case cw5R9 => (go_simp; done)
  case ch5R9 =>
    intro ds w' hS K hK
    have hc := (ocell hS).1
    have hf := (ocell hS).2
    have hz := hS.size
    try simp at hz
    go_simp
    try go_bits
    first
      | exact hK _ hS (Gr.refl _)
      | fail
  case ca5R9 => (first | (simp [Act.put]; done) | (simp [Act.put, *]; done))
  try dsimp only
  refine wpW_det (t' := ?ct6R9) 6 (by rfl) (by kernel_rfl) (NQ_free _) (by kernel_rfl) ?cw6R9 ?ch6R9 ?ca6R9 (Eq.refl _) ?cH6R9
  case cw6R9 => (go_simp; done)
  case ch6R9 =>
    intro ds w' hS K hK
    have hc := (ocell hS).1
    have hf := (ocell hS).2
    have hz := hS.size
    try simp at hz
    go_simp
    try go_bits
    first
      | exact hK _ hS (Gr.refl _)
      | fail
  case ca6R9 => (first | (simp [Act.put]; done) | (simp [Act.put, *]; done))
  try dsimp only
  refine wpW_det (t' := ?ct8R9) 8 (by rfl) (by kernel_rfl) (NQ_free _) (by kernel_rfl) ?cw8R9 ?ch8R9 ?ca8R9 (Eq.refl _) ?cH8R9
  case cw8R9 => (go_simp; done)
  case ch8R9 =>
    intro ds w' hS K hK
    have hc := (ocell hS).1
    have hf := (ocell hS).2
    have hz := hS.size
    try simp at hz
    go_simp
    try go_bits
    first
      | exact hK _ hS (Gr.refl _)
      | fail
  case ca8R9 => (first | (simp [Act.put]; done) | (simp [Act.put, *]; done))
  try dsimp only
  refine wpW_det (t' := ?ct9R9) 9 (by rfl) (by kernel_rfl) (NQ_free _) (by kernel_rfl) ?cw9R9 ?ch9R9 ?ca9R9 (Eq.refl _) ?cH9R9
  case cw9R9 => (go_simp; done)
  case ch9R9 =>
    intro ds w' hS K hK
    have hc := (ocell hS).1
    have hf := (ocell hS).2
    have hz := hS.size
    try simp at hz
    go_simp
    try go_bits
    first
      | exact hK _ hS (Gr.refl _)
      | fail
  case ca9R9 => (first | (simp [Act.put]; done) | (simp [Act.put, *]; done))
  try dsimp only
  refine wpW_det (t' := ?ct10R9) 10 (by rfl) (by kernel_rfl) (NQ_free _) (by kernel_rfl) ?cw10R9 ?ch10R9 ?ca10R9 (Eq.refl _) ?cH10R9
  case cw10R9 => (go_simp; done)
  case ch10R9 =>
    intro ds w' hS K hK
    have hc := (ocell hS).1
    have hf := (ocell hS).2
    have hz := hS.size
    try simp at hz
    go_simp
    try go_bits
    first
      | exact hK _ hS (Gr.refl _)
      | fail
  case ca10R9 => (first | (simp [Act.put]; done) | (simp [Act.put, *]; done))
  try dsimp only
  refine wpW_det (t' := ?ct13R9) 13 (by rfl) (by kernel_rfl) (NQ_free _) (by kernel_rfl) ?cw13R9 ?ch13R9 ?ca13R9 (Eq.refl _) ?cH13R9
  case cw13R9 => (go_simp; done)
  case ch13R9 =>
    intro ds w' hS K hK
    have hc := (ocell hS).1
    have hf := (ocell hS).2
    have hz := hS.size
    try simp at hz
    go_simp
    try go_bits
    first
      | exact hK _ hS (Gr.refl _)
      | fail
  case ca13R9 => (first | (simp [Act.put]; done) | (simp [Act.put, *]; done))
  try dsimp only
  refine wpW_det (t' := ?ct14R9) 14 (by rfl) (by kernel_rfl) (NQ_free _) (by kernel_rfl) ?cw14R9 ?ch14R9 ?ca14R9 (Eq.refl _) ?cH14R9
  case cw14R9 => (go_simp; done)
  case ch14R9 =>
    intro ds w' hS K hK
    have hc := (ocell hS).1
    have hf := (ocell hS).2
    have hz := hS.size
    try simp at hz
    go_simp
    try go_bits
    first
      | exact hK _ hS (Gr.refl _)
      | fail
  case ca14R9 => (first | (simp [Act.put]; done) | (simp [Act.put, *]; done))
  try dsimp only
  refine wpW_det (t' := ?ct15R9) 15 (by rfl) (by kernel_rfl) (NQ_free _) (by kernel_rfl) ?cw15R9 ?ch15R9 ?ca15R9 (Eq.refl _) ?cH15R9
  case cw15R9 => (go_simp; done)
  case ch15R9 =>
    intro ds w' hS K hK
    have hc := (ocell hS).1
    have hf := (ocell hS).2
    have hz := hS.size
    try simp at hz
    go_simp
    try go_bits
    first
      | exact hK _ hS (Gr.refl _)
      | fail
  case ca15R9 => (first | (simp [Act.put]; done) | (simp [Act.put, *]; done))
  try dsimp only
  refine wpW_det (t' := ?ct17R9) 17 (by rfl) (by kernel_rfl) (NQ_free _) (by kernel_rfl) ?cw17R9 ?ch17R9 ?ca17R9 (Eq.refl _) ?cH17R9
  case cw17R9 => (go_simp; done)
  case ch17R9 =>
    intro ds w' hS K hK
    have hc := (ocell hS).1
    have hf := (ocell hS).2
    have hz := hS.size
    try simp at hz
    go_simp
    try go_bits
    first
      | exact hK _ hS (Gr.refl _)
      | fail
  case ca17R9 => (first | (simp [Act.put]; done) | (simp [Act.put, *]; done))
  try dsimp only
  refine wpW_det (t' := ?ct18R9) 18 (by rfl) (by kernel_rfl) (NQ_free _) (by kernel_rfl) ?cw18R9 ?ch18R9 ?ca18R9 (Eq.refl _) ?cH18R9
  case cw18R9 => (go_simp; done)
  case ch18R9 =>
    intro ds w' hS K hK
    have hc := (ocell hS).1
    have hf := (ocell hS).2
    have hz := hS.size
    try simp at hz
    go_simp
    try go_bits
    first
      | exact hK _ hS (Gr.refl _)
      | fail
  case ca18R9 => (first | (simp [Act.put]; done) | (simp [Act.put, *]; done))
  try dsimp only
  refine wpW_det (t' := ?ct19R9) 19 (by rfl) (by kernel_rfl) (NQ_free _) (by kernel_rfl) ?cw19R9 ?ch19R9 ?ca19R9 (Eq.refl _) ?cH19R9
  case cw19R9 => (go_simp; done)
  case ch19R9 =>
    intro ds w' hS K hK
    have hc := (ocell hS).1
    have hf := (ocell hS).2
    have hz := hS.size
    try simp at hz
    go_simp
    try go_bits
    first
      | exact hK _ hS (Gr.refl _)
      | fail
  case ca19R9 => (first | (simp [Act.put]; done) | (simp [Act.put, *]; done))
  try dsimp only
  refine wpW_branch [7, 11, 16, 20] (by kernel_rfl) (by simp) ?_
  intro w1 hg1 hS1
  replace M := M.gr hg1
  have q0 := M.cell HI.out
  have q1 := M.cell HK.out
  have ql := M.lt
  refine each_cons ?_ (each_cons ?_ (each_cons ?_ (each_cons ?_ (each_nil))))
  · refine wpOp_go (by rfl) (Eq.refl _) (by go_simp; done) ?_
    intro K hK
    go_simp
    try simp only [Act.put]
    refine hK _ _ hS1 ?_
    clear hK K q0 q1 ql
    refine wpW_branch [11, 16, 20] (by kernel_rfl) (by simp) ?_
    intro w2 hg2 hS2
    replace M := M.gr hg2
    have q0 := M.cell HI.out
    have q1 := M.cell HK.out
    have ql := M.lt
    refine each_cons ?_ (each_cons ?_ (each_cons ?_ (each_nil)))
    · refine wpOp_go (by rfl) (Eq.refl _) (by go_simp; done) ?_
      intro K hK
      go_simp
      try simp only [Act.put]
      refine hK _ _ hS2 ?_
      clear hK K q0 q1 ql
      refine wpW_det (t' := ?ct12R10) 12 (by rfl) (by kernel_rfl) (NQ_free _) (by kernel_rfl) ?cw12R10 ?ch12R10 ?ca12R10 (Eq.refl _) ?cH12R10
      case cw12R10 => (go_simp; done)
      case ch12R10 =>
        intro ds w' hS K hK
        have hc := (ocell hS).1
        have hf := (ocell hS).2
        have hz := hS.size
        try simp at hz
        go_simp
        try go_bits
        first
          | exact hK _ hS (Gr.refl _)
          | exact hK _ (by repeat (first | (with_reducible exact Below.refl _ _) | (with_reducible assumption) | ((with_reducible refine Below.setCell ?_ ?_ _); rotate_left; · (first | exact Nat.le_refl _ | (simp; done) | (simp; omega) | omega)) | ((with_reducible refine Below.alloc ?_ ?_ _); rotate_left; · (first | exact Nat.le_refl _ | (simp; done) | (simp; omega) | omega)) | (with_reducible apply Below.drew) | (with_reducible apply below_drewN') | (refine Below.trans ?_ (Below.mono (by assumption) (by first | exact Nat.le_refl _ | (simp; done) | (simp; omega) | omega))) | exact Below.refl _ _ | assumption)) (by repeat (first | (with_reducible exact Below.refl _ _) | (with_reducible assumption) | ((with_reducible refine Below.setCell ?_ ?_ _); rotate_left; · (first | exact Nat.le_refl _ | (simp; done) | (simp; omega) | omega)) | ((with_reducible refine Below.alloc ?_ ?_ _); rotate_left; · (first | exact Nat.le_refl _ | (simp; done) | (simp; omega) | omega)) | (with_reducible apply Below.drew) | (with_reducible apply below_drewN') | (refine Below.trans ?_ (Below.mono (by assumption) (by first | exact Nat.le_refl _ | (simp; done) | (simp; omega) | omega))) | exact Below.refl _ _ | assumption))
      case ca12R10 => (first | (simp [Act.put]; done) | (simp [Act.put, *]; done))
      try dsimp only
      refine wpW_branch [16, 20] (by kernel_rfl) (by simp) ?_
      intro w3 hg3 hS3
      replace M := M.gr hg3
      have q0 := M.cell HI.out
      have q1 := M.cell HK.out
      have ql := M.lt
      refine each_cons ?_ (each_cons ?_ (each_nil))
      · refine wpOp_go (by rfl) (Eq.refl _) (by go_simp; done) ?_
        intro K hK
        go_simp
        try simp only [Act.put]
        refine hK _ _ hS3 ?_
        clear hK K q0 q1 ql
        refine wpW_branch [20] (by kernel_rfl) (by simp) ?_
        intro w4 hg4 hS4
        replace M := M.gr hg4
        have q0 := M.cell HI.out
        have q1 := M.cell HK.out
        have ql := M.lt
        refine each_cons ?_ (each_nil)
        · refine wpOp_go (by rfl) (Eq.refl _) (by go_simp; done) ?_
          intro K hK
          go_simp
          try simp only [Act.put]
          refine hK _ _ hS4 ?_
          clear hK K q0 q1 ql
          refine wpW_det (t' := ?ct21R11) 21 (by rfl) (by kernel_rfl) (NQ_free _) (by kernel_rfl) ?cw21R11 ?ch21R11 ?ca21R11 (Eq.refl _) ?cH21R11
          case cw21R11 => (go_simp; done)
          case ch21R11 =>
            intro ds w' hS K hK
            have hc := (ocell hS).1
            have hf := (ocell hS).2
            have hz := hS.size
            try simp at hz
            go_simp
            try go_bits
            first
              | exact hK _ hS (Gr.refl _)
              | exact hK _ (by repeat (first | (with_reducible exact Below.refl _ _) | (with_reducible assumption) | ((with_reducible refine Below.setCell ?_ ?_ _); rotate_left; · (first | exact Nat.le_refl _ | (simp; done) | (simp; omega) | omega)) | ((with_reducible refine Below.alloc ?_ ?_ _); rotate_left; · (first | exact Nat.le_refl _ | (simp; done) | (simp; omega) | omega)) | (with_reducible apply Below.drew) | (with_reducible apply below_drewN') | (refine Below.trans ?_ (Below.mono (by assumption) (by first | exact Nat.le_refl _ | (simp; done) | (simp; omega) | omega))) | exact Below.refl _ _ | assumption)) (by repeat (first | (with_reducible exact Below.refl _ _) | (with_reducible assumption) | ((with_reducible refine Below.setCell ?_ ?_ _); rotate_left; · (first | exact Nat.le_refl _ | (simp; done) | (simp; omega) | omega)) | ((with_reducible refine Below.alloc ?_ ?_ _); rotate_left; · (first | exact Nat.le_refl _ | (simp; done) | (simp; omega) | omega)) | (with_reducible apply Below.drew) | (with_reducible apply below_drewN') | (refine Below.trans ?_ (Below.mono (by assumption) (by first | exact Nat.le_refl _ | (simp; done) | (simp; omega) | omega))) | exact Below.refl _ _ | assumption))
          case ca21R11 => (first | (simp [Act.put]; done) | (simp [Act.put, *]; done))
          try dsimp only
          refine wpW_det (t' := ?ct22R12) 22 (by rfl) (by kernel_rfl) (NQ_free _) (by kernel_rfl) ?cw22R12 ?ch22R12 ?ca22R12 (Eq.refl _) ?cH22R12
          case cw22R12 => (go_simp; done)
          case ch22R12 =>
            intro ds w' hS K hK
            have hc := (ocell hS).1
            have hf := (ocell hS).2
            have hz := hS.size
            try simp at hz
            go_simp
            try go_bits
            first
              | exact hK _ hS (Gr.refl _)
              | exact hK _ (by repeat (first | (with_reducible exact Below.refl _ _) | (with_reducible assumption) | ((with_reducible refine Below.setCell ?_ ?_ _); rotate_left; · (first | exact Nat.le_refl _ | (simp; done) | (simp; omega) | omega)) | ((with_reducible refine Below.alloc ?_ ?_ _); rotate_left; · (first | exact Nat.le_refl _ | (simp; done) | (simp; omega) | omega)) | (with_reducible apply Below.drew) | (with_reducible apply below_drewN') | (refine Below.trans ?_ (Below.mono (by assumption) (by first | exact Nat.le_refl _ | (simp; done) | (simp; omega) | omega))) | exact Below.refl _ _ | assumption)) (by repeat (first | (with_reducible exact Below.refl _ _) | (with_reducible assumption) | ((with_reducible refine Below.setCell ?_ ?_ _); rotate_left; · (first | exact Nat.le_refl _ | (simp; done) | (simp; omega) | omega)) | ((with_reducible refine Below.alloc ?_ ?_ _); rotate_left; · (first | exact Nat.le_refl _ | (simp; done) | (simp; omega) | omega)) | (with_reducible apply Below.drew) | (with_reducible apply below_drewN') | (refine Below.trans ?_ (Below.mono (by assumption) (by first | exact Nat.le_refl _ | (simp; done) | (simp; omega) | omega))) | exact Below.refl _ _ | assumption))
          case ca22R12 => (first | (simp [Act.put]; done) | (simp [Act.put, *]; done))
          try dsimp only
          refine wpW_branch [23] (by kernel_rfl) (by simp) ?_
          intro v1 hg_v1 hS_v1
          have M1 := M.gr hg_v1
          have q0 := M1.cell HI.out
          have qf := M1.frozen i
          have ql := M1.lt
          refine each_cons ?_ each_nil
          refine wpOp_go (by rfl) (Eq.refl _) (by go_simp; done) ?_
          intro K hK
          go_simp
          try simp only [Act.put]
          refine hK _ _ (by have := hS_v1; rw [HRW.out] at this ⊢; exact only_setCell this (.inl rfl) _) ?_
          clear hK K q0 qf ql
          have M2 := M1.put i (min fi fk)
          clear M1
          refine wpW_det (t' := ?ct24R13) 24 (by rfl) (by kernel_rfl) (NQ_free _) (by kernel_rfl) ?cw24R13 ?ch24R13 ?ca24R13 (Eq.refl _) ?cH24R13
          case cw24R13 => (go_simp; done)
          case ch24R13 =>
            intro ds w' hS K hK
            have hc := (ocell hS).1
            have hf := (ocell hS).2
            have hz := hS.size
            try simp at hz
            go_simp
            try go_bits
            first
              | exact hK _ hS (Gr.refl _)
              | exact hK _ (by repeat (first | (with_reducible exact Below.refl _ _) | (with_reducible assumption) | ((with_reducible refine Below.setCell ?_ ?_ _); rotate_left; · (first | exact Nat.le_refl _ | (simp; done) | (simp; omega) | omega)) | ((with_reducible refine Below.alloc ?_ ?_ _); rotate_left; · (first | exact Nat.le_refl _ | (simp; done) | (simp; omega) | omega)) | (with_reducible apply Below.drew) | (with_reducible apply below_drewN') | (refine Below.trans ?_ (Below.mono (by assumption) (by first | exact Nat.le_refl _ | (simp; done) | (simp; omega) | omega))) | exact Below.refl _ _ | assumption)) (by repeat (first | (with_reducible exact Below.refl _ _) | (with_reducible assumption) | ((with_reducible refine Below.setCell ?_ ?_ _); rotate_left; · (first | exact Nat.le_refl _ | (simp; done) | (simp; omega) | omega)) | ((with_reducible refine Below.alloc ?_ ?_ _); rotate_left; · (first | exact Nat.le_refl _ | (simp; done) | (simp; omega) | omega)) | (with_reducible apply Below.drew) | (with_reducible apply below_drewN') | (refine Below.trans ?_ (Below.mono (by assumption) (by first | exact Nat.le_refl _ | (simp; done) | (simp; omega) | omega))) | exact Below.refl _ _ | assumption))
          case ca24R13 => (first | (simp [Act.put]; done) | (simp [Act.put, *]; done))
          try dsimp only
          refine wpW_branch [25] (by kernel_rfl) (by simp) ?_
          intro v2 hg_v2 hS_v2
          have M3 := M2.gr hg_v2
          have q1 := M3.cell (k := k) (x := fk) (by rw [List.getElem?_set_ne (by omega)]; exact HK.out)
          have qf := M3.frozen k
          have ql := M3.lt
          refine each_cons ?_ each_nil
          refine wpOp_go (by rfl) (Eq.refl _) (by go_simp; done) ?_
          intro K hK
          go_simp
          try simp only [Act.put]
          refine hK _ _ (by have := hS_v2; rw [HRW.out] at this ⊢; exact only_setCell this (.inl rfl) _) ?_
          clear hK K q1 qf ql
          have M4 := M3.put k (min fi fk)
          clear M3 M2
          refine wpW_det (t' := ?ct26R14) 26 (by rfl) (by kernel_rfl) (NQ_free _) (by kernel_rfl) ?cw26R14 ?ch26R14 ?ca26R14 (Eq.refl _) ?cH26R14
          case cw26R14 => (go_simp; done)
          case ch26R14 =>
            intro ds w' hS K hK
            have hc := (ocell hS).1
            have hf := (ocell hS).2
            have hz := hS.size
            try simp at hz
            go_simp
            try go_bits
            first
              | exact hK _ hS (Gr.refl _)
              | exact hK _ (by repeat (first | (with_reducible exact Below.refl _ _) | (with_reducible assumption) | ((with_reducible refine Below.setCell ?_ ?_ _); rotate_left; · (first | exact Nat.le_refl _ | (simp; done) | (simp; omega) | omega)) | ((with_reducible refine Below.alloc ?_ ?_ _); rotate_left; · (first | exact Nat.le_refl _ | (simp; done) | (simp; omega) | omega)) | (with_reducible apply Below.drew) | (with_reducible apply below_drewN') | (refine Below.trans ?_ (Below.mono (by assumption) (by first | exact Nat.le_refl _ | (simp; done) | (simp; omega) | omega))) | exact Below.refl _ _ | assumption)) (by repeat (first | (with_reducible exact Below.refl _ _) | (with_reducible assumption) | ((with_reducible refine Below.setCell ?_ ?_ _); rotate_left; · (first | exact Nat.le_refl _ | (simp; done) | (simp; omega) | omega)) | ((with_reducible refine Below.alloc ?_ ?_ _); rotate_left; · (first | exact Nat.le_refl _ | (simp; done) | (simp; omega) | omega)) | (with_reducible apply Below.drew) | (with_reducible apply below_drewN') | (refine Below.trans ?_ (Below.mono (by assumption) (by first | exact Nat.le_refl _ | (simp; done) | (simp; omega) | omega))) | exact Below.refl _ _ | assumption))
          case ca26R14 => (first | (simp [Act.put]; done) | (simp [Act.put, *]; done))
          try dsimp only
          refine wpW_end (by kernel_rfl) ?_
          intro we hg hS
          unfold NQ
          dsimp only
          exact H.out _ _ _ _ _ _ _ _ _ _ _ _ _ _ _ _ _ _ _ _ _ _ _ _ we (M4.gr hg)
      · refine wpOp_go (by rfl) (Eq.refl _) (by go_simp; done) ?_
        intro K hK
        go_simp
        try simp only [Act.put]
        refine hK _ _ hS3 ?_
        clear hK K q0 q1 ql
        refine wpW_branch [16] (by kernel_rfl) (by simp) ?_
        intro w4 hg4 hS4
        replace M := M.gr hg4
        have q0 := M.cell HI.out
        have q1 := M.cell HK.out
        have ql := M.lt
        refine each_cons ?_ (each_nil)
        · refine wpOp_go (by rfl) (Eq.refl _) (by go_simp; done) ?_
          intro K hK
          go_simp
          try simp only [Act.put]
          refine hK _ _ hS4 ?_
          clear hK K q0 q1 ql
          refine wpW_det (t' := ?ct21R15) 21 (by rfl) (by kernel_rfl) (NQ_free _) (by kernel_rfl) ?cw21R15 ?ch21R15 ?ca21R15 (Eq.refl _) ?cH21R15
          case cw21R15 => (go_simp; done)
          case ch21R15 =>
            intro ds w' hS K hK
            have hc := (ocell hS).1
            have hf := (ocell hS).2
            have hz := hS.size
            try simp at hz
            go_simp
            try go_bits
            first
              | exact hK _ hS (Gr.refl _)
              | exact hK _ (by repeat (first | (with_reducible exact Below.refl _ _) | (with_reducible assumption) | ((with_reducible refine Below.setCell ?_ ?_ _); rotate_left; · (first | exact Nat.le_refl _ | (simp; done) | (simp; omega) | omega)) | ((with_reducible refine Below.alloc ?_ ?_ _); rotate_left; · (first | exact Nat.le_refl _ | (simp; done) | (simp; omega) | omega)) | (with_reducible apply Below.drew) | (with_reducible apply below_drewN') | (refine Below.trans ?_ (Below.mono (by assumption) (by first | exact Nat.le_refl _ | (simp; done) | (simp; omega) | omega))) | exact Below.refl _ _ | assumption)) (by repeat (first | (with_reducible exact Below.refl _ _) | (with_reducible assumption) | ((with_reducible refine Below.setCell ?_ ?_ _); rotate_left; · (first | exact Nat.le_refl _ | (simp; done) | (simp; omega) | omega)) | ((with_reducible refine Below.alloc ?_ ?_ _); rotate_left; · (first | exact Nat.le_refl _ | (simp; done) | (simp; omega) | omega)) | (with_reducible apply Below.drew) | (with_reducible apply below_drewN') | (refine Below.trans ?_ (Below.mono (by assumption) (by first | exact Nat.le_refl _ | (simp; done) | (simp; omega) | omega))) | exact Below.refl _ _ | assumption))
          case ca21R15 => (first | (simp [Act.put]; done) | (simp [Act.put, *]; done))
          try dsimp only
          refine wpW_det (t' := ?ct22R16) 22 (by rfl) (by kernel_rfl) (NQ_free _) (by kernel_rfl) ?cw22R16 ?ch22R16 ?ca22R16 (Eq.refl _) ?cH22R16
          case cw22R16 => (go_simp; done)
          case ch22R16 =>
            intro ds w' hS K hK
            have hc := (ocell hS).1
            have hf := (ocell hS).2
            have hz := hS.size
            try simp at hz
            go_simp
            try go_bits
            first
              | exact hK _ hS (Gr.refl _)
              | exact hK _ (by repeat (first | (with_reducible exact Below.refl _ _) | (with_reducible assumption) | ((with_reducible refine Below.setCell ?_ ?_ _); rotate_left; · (first | exact Nat.le_refl _ | (simp; done) | (simp; omega) | omega)) | ((with_reducible refine Below.alloc ?_ ?_ _); rotate_left; · (first | exact Nat.le_refl _ | (simp; done) | (simp; omega) | omega)) | (with_reducible apply Below.drew) | (with_reducible apply below_drewN') | (refine Below.trans ?_ (Below.mono (by assumption) (by first | exact Nat.le_refl _ | (simp; done) | (simp; omega) | omega))) | exact Below.refl _ _ | assumption)) (by repeat (first | (with_reducible exact Below.refl _ _) | (with_reducible assumption) | ((with_reducible refine Below.setCell ?_ ?_ _); rotate_left; · (first | exact Nat.le_refl _ | (simp; done) | (simp; omega) | omega)) | ((with_reducible refine Below.alloc ?_ ?_ _); rotate_left; · (first | exact Nat.le_refl _ | (simp; done) | (simp; omega) | omega)) | (with_reducible apply Below.drew) | (with_reducible apply below_drewN') | (refine Below.trans ?_ (Below.mono (by assumption) (by first | exact Nat.le_refl _ | (simp; done) | (simp; omega) | omega))) | exact Below.refl _ _ | assumption))
          case ca22R16 => (first | (simp [Act.put]; done) | (simp [Act.put, *]; done))
          try dsimp only
          refine wpW_branch [23] (by kernel_rfl) (by simp) ?_
          intro v1 hg_v1 hS_v1
          have M1 := M.gr hg_v1
          have q0 := M1.cell HI.out
          have qf := M1.frozen i
          have ql := M1.lt
          refine each_cons ?_ each_nil
          refine wpOp_go (by rfl) (Eq.refl _) (by go_simp; done) ?_
          intro K hK
          go_simp
          try simp only [Act.put]
          refine hK _ _ (by have := hS_v1; rw [HRW.out] at this ⊢; exact only_setCell this (.inl rfl) _) ?_
          clear hK K q0 qf ql
          have M2 := M1.put i (min fi fk)
          clear M1
          refine wpW_det (t' := ?ct24R17) 24 (by rfl) (by kernel_rfl) (NQ_free _) (by kernel_rfl) ?cw24R17 ?ch24R17 ?ca24R17 (Eq.refl _) ?cH24R17
          case cw24R17 => (go_simp; done)
          case ch24R17 =>
            intro ds w' hS K hK
            have hc := (ocell hS).1
            have hf := (ocell hS).2
            have hz := hS.size
            try simp at hz
            go_simp
            try go_bits
            first
              | exact hK _ hS (Gr.refl _)
              | exact hK _ (by repeat (first | (with_reducible exact Below.refl _ _) | (with_reducible assumption) | ((with_reducible refine Below.setCell ?_ ?_ _); rotate_left; · (first | exact Nat.le_refl _ | (simp; done) | (simp; omega) | omega)) | ((with_reducible refine Below.alloc ?_ ?_ _); rotate_left; · (first | exact Nat.le_refl _ | (simp; done) | (simp; omega) | omega)) | (with_reducible apply Below.drew) | (with_reducible apply below_drewN') | (refine Below.trans ?_ (Below.mono (by assumption) (by first | exact Nat.le_refl _ | (simp; done) | (simp; omega) | omega))) | exact Below.refl _ _ | assumption)) (by repeat (first | (with_reducible exact Below.refl _ _) | (with_reducible assumption) | ((with_reducible refine Below.setCell ?_ ?_ _); rotate_left; · (first | exact Nat.le_refl _ | (simp; done) | (simp; omega) | omega)) | ((with_reducible refine Below.alloc ?_ ?_ _); rotate_left; · (first | exact Nat.le_refl _ | (simp; done) | (simp; omega) | omega)) | (with_reducible apply Below.drew) | (with_reducible apply below_drewN') | (refine Below.trans ?_ (Below.mono (by assumption) (by first | exact Nat.le_refl _ | (simp; done) | (simp; omega) | omega))) | exact Below.refl _ _ | assumption))
          case ca24R17 => (first | (simp [Act.put]; done) | (simp [Act.put, *]; done))
          try dsimp only
          refine wpW_branch [25] (by kernel_rfl) (by simp) ?_
          intro v2 hg_v2 hS_v2
          have M3 := M2.gr hg_v2
          have q1 := M3.cell (k := k) (x := fk) (by rw [List.getElem?_set_ne (by omega)]; exact HK.out)
          have qf := M3.frozen k
          have ql := M3.lt
          refine each_cons ?_ each_nil
          refine wpOp_go (by rfl) (Eq.refl _) (by go_simp; done) ?_
          intro K hK
          go_simp
          try simp only [Act.put]
          refine hK _ _ (by have := hS_v2; rw [HRW.out] at this ⊢; exact only_setCell this (.inl rfl) _) ?_
          clear hK K q1 qf ql
          have M4 := M3.put k (min fi fk)
          clear M3 M2
          refine wpW_det (t' := ?ct26R18) 26 (by rfl) (by kernel_rfl) (NQ_free _) (by kernel_rfl) ?cw26R18 ?ch26R18 ?ca26R18 (Eq.refl _) ?cH26R18
          case cw26R18 => (go_simp; done)
          case ch26R18 =>
            intro ds w' hS K hK
            have hc := (ocell hS).1
            have hf := (ocell hS).2
            have hz := hS.size
            try simp at hz
            go_simp
            try go_bits
            first
              | exact hK _ hS (Gr.refl _)
              | exact hK _ (by repeat (first | (with_reducible exact Below.refl _ _) | (with_reducible assumption) | ((with_reducible refine Below.setCell ?_ ?_ _); rotate_left; · (first | exact Nat.le_refl _ | (simp; done) | (simp; omega) | omega)) | ((with_reducible refine Below.alloc ?_ ?_ _); rotate_left; · (first | exact Nat.le_refl _ | (simp; done) | (simp; omega) | omega)) | (with_reducible apply Below.drew) | (with_reducible apply below_drewN') | (refine Below.trans ?_ (Below.mono (by assumption) (by first | exact Nat.le_refl _ | (simp; done) | (simp; omega) | omega))) | exact Below.refl _ _ | assumption)) (by repeat (first | (with_reducible exact Below.refl _ _) | (with_reducible assumption) | ((with_reducible refine Below.setCell ?_ ?_ _); rotate_left; · (first | exact Nat.le_refl _ | (simp; done) | (simp; omega) | omega)) | ((with_reducible refine Below.alloc ?_ ?_ _); rotate_left; · (first | exact Nat.le_refl _ | (simp; done) | (simp; omega) | omega)) | (with_reducible apply Below.drew) | (with_reducible apply below_drewN') | (refine Below.trans ?_ (Below.mono (by assumption) (by first | exact Nat.le_refl _ | (simp; done) | (simp; omega) | omega))) | exact Below.refl _ _ | assumption))
          case ca26R18 => (first | (simp [Act.put]; done) | (simp [Act.put, *]; done))
          try dsimp only
          refine wpW_end (by kernel_rfl) ?_
          intro we hg hS
          unfold NQ
          dsimp only
          exact H.out _ _ _ _ _ _ _ _ _ _ _ _ _ _ _ _ _ _ _ _ _ _ _ _ we (M4.gr hg)
    · refine wpOp_go (by rfl) (Eq.refl _) (by go_simp; done) ?_
      intro K hK
      go_simp
      try simp only [Act.put]
      refine hK _ _ hS2 ?_
      clear hK K q0 q1 ql
      refine wpW_branch [11, 20] (by kernel_rfl) (by simp) ?_
      intro w3 hg3 hS3
      replace M := M.gr hg3
      have q0 := M.cell HI.out
      have q1 := M.cell HK.out
      have ql := M.lt
      refine each_cons ?_ (each_cons ?_ (each_nil))
      · refine wpOp_go (by rfl) (Eq.refl _) (by go_simp; done) ?_
        intro K hK
        go_simp
        try simp only [Act.put]
        refine hK _ _ hS3 ?_
        clear hK K q0 q1 ql
        refine wpW_det (t' := ?ct12R19) 12 (by rfl) (by kernel_rfl) (NQ_free _) (by kernel_rfl) ?cw12R19 ?ch12R19 ?ca12R19 (Eq.refl _) ?cH12R19
        case cw12R19 => (go_simp; done)
        case ch12R19 =>
          intro ds w' hS K hK
          have hc := (ocell hS).1
          have hf := (ocell hS).2
          have hz := hS.size
          try simp at hz
          go_simp
          try go_bits
          first
            | exact hK _ hS (Gr.refl _)
            | exact hK _ (by repeat (first | (with_reducible exact Below.refl _ _) | (with_reducible assumption) | ((with_reducible refine Below.setCell ?_ ?_ _); rotate_left; · (first | exact Nat.le_refl _ | (simp; done) | (simp; omega) | omega)) | ((with_reducible refine Below.alloc ?_ ?_ _); rotate_left; · (first | exact Nat.le_refl _ | (simp; done) | (simp; omega) | omega)) | (with_reducible apply Below.drew) | (with_reducible apply below_drewN') | (refine Below.trans ?_ (Below.mono (by assumption) (by first | exact Nat.le_refl _ | (simp; done) | (simp; omega) | omega))) | exact Below.refl _ _ | assumption)) (by repeat (first | (with_reducible exact Below.refl _ _) | (with_reducible assumption) | ((with_reducible refine Below.setCell ?_ ?_ _); rotate_left; · (first | exact Nat.le_refl _ | (simp; done) | (simp; omega) | omega)) | ((with_reducible refine Below.alloc ?_ ?_ _); rotate_left; · (first | exact Nat.le_refl _ | (simp; done) | (simp; omega) | omega)) | (with_reducible apply Below.drew) | (with_reducible apply below_drewN') | (refine Below.trans ?_ (Below.mono (by assumption) (by first | exact Nat.le_refl _ | (simp; done) | (simp; omega) | omega))) | exact Below.refl _ _ | assumption))
        case ca12R19 => (first | (simp [Act.put]; done) | (simp [Act.put, *]; done))
        try dsimp only
        refine wpW_branch [20] (by kernel_rfl) (by simp) ?_
        intro w4 hg4 hS4
        replace M := M.gr hg4
        have q0 := M.cell HI.out
        have q1 := M.cell HK.out
        have ql := M.lt
        refine each_cons ?_ (each_nil)
        · refine wpOp_go (by rfl) (Eq.refl _) (by go_simp; done) ?_
          intro K hK
          go_simp
          try simp only [Act.put]
          refine hK _ _ hS4 ?_
          clear hK K q0 q1 ql
          refine wpW_det (t' := ?ct21R20) 21 (by rfl) (by kernel_rfl) (NQ_free _) (by kernel_rfl) ?cw21R20 ?ch21R20 ?ca21R20 (Eq.refl _) ?cH21R20
          case cw21R20 => (go_simp; done)
          case ch21R20 =>
            intro ds w' hS K hK
            have hc := (ocell hS).1
            have hf := (ocell hS).2
            have hz := hS.size
            try simp at hz
            go_simp
            try go_bits
            first
              | exact hK _ hS (Gr.refl _)
              | exact hK _ (by repeat (first | (with_reducible exact Below.refl _ _) | (with_reducible assumption) | ((with_reducible refine Below.setCell ?_ ?_ _); rotate_left; · (first | exact Nat.le_refl _ | (simp; done) | (simp; omega) | omega)) | ((with_reducible refine Below.alloc ?_ ?_ _); rotate_left; · (first | exact Nat.le_refl _ | (simp; done) | (simp; omega) | omega)) | (with_reducible apply Below.drew) | (with_reducible apply below_drewN') | (refine Below.trans ?_ (Below.mono (by assumption) (by first | exact Nat.le_refl _ | (simp; done) | (simp; omega) | omega))) | exact Below.refl _ _ | assumption)) (by repeat (first | (with_reducible exact Below.refl _ _) | (with_reducible assumption) | ((with_reducible refine Below.setCell ?_ ?_ _); rotate_left; · (first | exact Nat.le_refl _ | (simp; done) | (simp; omega) | omega)) | ((with_reducible refine Below.alloc ?_ ?_ _); rotate_left; · (first | exact Nat.le_refl _ | (simp; done) | (simp; omega) | omega)) | (with_reducible apply Below.drew) | (with_reducible apply below_drewN') | (refine Below.trans ?_ (Below.mono (by assumption) (by first | exact Nat.le_refl _ | (simp; done) | (simp; omega) | omega))) | exact Below.refl _ _ | assumption))
          case ca21R20 => (first | (simp [Act.put]; done) | (simp [Act.put, *]; done))
          try dsimp only
          refine wpW_det (t' := ?ct22R21) 22 (by rfl) (by kernel_rfl) (NQ_free _) (by kernel_rfl) ?cw22R21 ?ch22R21 ?ca22R21 (Eq.refl _) ?cH22R21
          case cw22R21 => (go_simp; done)
          case ch22R21 =>
            intro ds w' hS K hK
            have hc := (ocell hS).1
            have hf := (ocell hS).2
            have hz := hS.size
            try simp at hz
            go_simp
            try go_bits
            first
              | exact hK _ hS (Gr.refl _)
              | exact hK _ (by repeat (first | (with_reducible exact Below.refl _ _) | (with_reducible assumption) | ((with_reducible refine Below.setCell ?_ ?_ _); rotate_left; · (first | exact Nat.le_refl _ | (simp; done) | (simp; omega) | omega)) | ((with_reducible refine Below.alloc ?_ ?_ _); rotate_left; · (first | exact Nat.le_refl _ | (simp; done) | (simp; omega) | omega)) | (with_reducible apply Below.drew) | (with_reducible apply below_drewN') | (refine Below.trans ?_ (Below.mono (by assumption) (by first | exact Nat.le_refl _ | (simp; done) | (simp; omega) | omega))) | exact Below.refl _ _ | assumption)) (by repeat (first | (with_reducible exact Below.refl _ _) | (with_reducible assumption) | ((with_reducible refine Below.setCell ?_ ?_ _); rotate_left; · (first | exact Nat.le_refl _ | (simp; done) | (simp; omega) | omega)) | ((with_reducible refine Below.alloc ?_ ?_ _); rotate_left; · (first | exact Nat.le_refl _ | (simp; done) | (simp; omega) | omega)) | (with_reducible apply Below.drew) | (with_reducible apply below_drewN') | (refine Below.trans ?_ (Below.mono (by assumption) (by first | exact Nat.le_refl _ | (simp; done) | (simp; omega) | omega))) | exact Below.refl _ _ | assumption))
          case ca22R21 => (first | (simp [Act.put]; done) | (simp [Act.put, *]; done))
          try dsimp only
          refine wpW_branch [23] (by kernel_rfl) (by simp) ?_
          intro v1 hg_v1 hS_v1
          have M1 := M.gr hg_v1
          have q0 := M1.cell HI.out
          have qf := M1.frozen i
          have ql := M1.lt
          refine each_cons ?_ each_nil
          refine wpOp_go (by rfl) (Eq.refl _) (by go_simp; done) ?_
          intro K hK
          go_simp
          try simp only [Act.put]
          refine hK _ _ (by have := hS_v1; rw [HRW.out] at this ⊢; exact only_setCell this (.inl rfl) _) ?_
          clear hK K q0 qf ql
          have M2 := M1.put i (min fi fk)
          clear M1
          refine wpW_det (t' := ?ct24R22) 24 (by rfl) (by kernel_rfl) (NQ_free _) (by kernel_rfl) ?cw24R22 ?ch24R22 ?ca24R22 (Eq.refl _) ?cH24R22
          case cw24R22 => (go_simp; done)
          case ch24R22 =>
            intro ds w' hS K hK
            have hc := (ocell hS).1
            have hf := (ocell hS).2
            have hz := hS.size
            try simp at hz
            go_simp
            try go_bits
            first
              | exact hK _ hS (Gr.refl _)
              | exact hK _ (by repeat (first | (with_reducible exact Below.refl _ _) | (with_reducible assumption) | ((with_reducible refine Below.setCell ?_ ?_ _); rotate_left; · (first | exact Nat.le_refl _ | (simp; done) | (simp; omega) | omega)) | ((with_reducible refine Below.alloc ?_ ?_ _); rotate_left; · (first | exact Nat.le_refl _ | (simp; done) | (simp; omega) | omega)) | (with_reducible apply Below.drew) | (with_reducible apply below_drewN') | (refine Below.trans ?_ (Below.mono (by assumption) (by first | exact Nat.le_refl _ | (simp; done) | (simp; omega) | omega))) | exact Below.refl _ _ | assumption)) (by repeat (first | (with_reducible exact Below.refl _ _) | (with_reducible assumption) | ((with_reducible refine Below.setCell ?_ ?_ _); rotate_left; · (first | exact Nat.le_refl _ | (simp; done) | (simp; omega) | omega)) | ((with_reducible refine Below.alloc ?_ ?_ _); rotate_left; · (first | exact Nat.le_refl _ | (simp; done) | (simp; omega) | omega)) | (with_reducible apply Below.drew) | (with_reducible apply below_drewN') | (refine Below.trans ?_ (Below.mono (by assumption) (by first | exact Nat.le_refl _ | (simp; done) | (simp; omega) | omega))) | exact Below.refl _ _ | assumption))
          case ca24R22 => (first | (simp [Act.put]; done) | (simp [Act.put, *]; done))
          try dsimp only
          refine wpW_branch [25] (by kernel_rfl) (by simp) ?_
          intro v2 hg_v2 hS_v2
          have M3 := M2.gr hg_v2
          have q1 := M3.cell (k := k) (x := fk) (by rw [List.getElem?_set_ne (by omega)]; exact HK.out)
          have qf := M3.frozen k
          have ql := M3.lt
          refine each_cons ?_ each_nil
          refine wpOp_go (by rfl) (Eq.refl _) (by go_simp; done) ?_
          intro K hK
          go_simp
          try simp only [Act.put]
          refine hK _ _ (by have := hS_v2; rw [HRW.out] at this ⊢; exact only_setCell this (.inl rfl) _) ?_
          clear hK K q1 qf ql
          have M4 := M3.put k (min fi fk)
          clear M3 M2
          refine wpW_det (t' := ?ct26R23) 26 (by rfl) (by kernel_rfl) (NQ_free _) (by kernel_rfl) ?cw26R23 ?ch26R23 ?ca26R23 (Eq.refl _) ?cH26R23
          case cw26R23 => (go_simp; done)
          case ch26R23 =>
            intro ds w' hS K hK
            have hc := (ocell hS).1
            have hf := (ocell hS).2
            have hz := hS.size
            try simp at hz
            go_simp
            try go_bits
            first
              | exact hK _ hS (Gr.refl _)
              | exact hK _ (by repeat (first | (with_reducible exact Below.refl _ _) | (with_reducible assumption) | ((with_reducible refine Below.setCell ?_ ?_ _); rotate_left; · (first | exact Nat.le_refl _ | (simp; done) | (simp; omega) | omega)) | ((with_reducible refine Below.alloc ?_ ?_ _); rotate_left; · (first | exact Nat.le_refl _ | (simp; done) | (simp; omega) | omega)) | (with_reducible apply Below.drew) | (with_reducible apply below_drewN') | (refine Below.trans ?_ (Below.mono (by assumption) (by first | exact Nat.le_refl _ | (simp; done) | (simp; omega) | omega))) | exact Below.refl _ _ | assumption)) (by repeat (first | (with_reducible exact Below.refl _ _) | (with_reducible assumption) | ((with_reducible refine Below.setCell ?_ ?_ _); rotate_left; · (first | exact Nat.le_refl _ | (simp; done) | (simp; omega) | omega)) | ((with_reducible refine Below.alloc ?_ ?_ _); rotate_left; · (first | exact Nat.le_refl _ | (simp; done) | (simp; omega) | omega)) | (with_reducible apply Below.drew) | (with_reducible apply below_drewN') | (refine Below.trans ?_ (Below.mono (by assumption) (by first | exact Nat.le_refl _ | (simp; done) | (simp; omega) | omega))) | exact Below.refl _ _ | assumption))
          case ca26R23 => (first | (simp [Act.put]; done) | (simp [Act.put, *]; done))
          try dsimp only
          refine wpW_end (by kernel_rfl) ?_
          intro we hg hS
          unfold NQ
          dsimp only
          exact H.out _ _ _ _ _ _ _ _ _ _ _ _ _ _ _ _ _ _ _ _ _ _ _ _ we (M4.gr hg)
      · refine wpOp_go (by rfl) (Eq.refl _) (by go_simp; done) ?_
        intro K hK
        go_simp
        try simp only [Act.put]
        refine hK _ _ hS3 ?_
        clear hK K q0 q1 ql
        refine wpW_det (t' := ?ct21R24) 21 (by rfl) (by kernel_rfl) (NQ_free _) (by kernel_rfl) ?cw21R24 ?ch21R24 ?ca21R24 (Eq.refl _) ?cH21R24
        case cw21R24 => (go_simp; done)
        case ch21R24 =>
          intro ds w' hS K hK
          have hc := (ocell hS).1
          have hf := (ocell hS).2
          have hz := hS.size
          try simp at hz
          go_simp
          try go_bits
          first
            | exact hK _ hS (Gr.refl _)
            | exact hK _ (by repeat (first | (with_reducible exact Below.refl _ _) | (with_reducible assumption) | ((with_reducible refine Below.setCell ?_ ?_ _); rotate_left; · (first | exact Nat.le_refl _ | (simp; done) | (simp; omega) | omega)) | ((with_reducible refine Below.alloc ?_ ?_ _); rotate_left; · (first | exact Nat.le_refl _ | (simp; done) | (simp; omega) | omega)) | (with_reducible apply Below.drew) | (with_reducible apply below_drewN') | (refine Below.trans ?_ (Below.mono (by assumption) (by first | exact Nat.le_refl _ | (simp; done) | (simp; omega) | omega))) | exact Below.refl _ _ | assumption)) (by repeat (first | (with_reducible exact Below.refl _ _) | (with_reducible assumption) | ((with_reducible refine Below.setCell ?_ ?_ _); rotate_left; · (first | exact Nat.le_refl _ | (simp; done) | (simp; omega) | omega)) | ((with_reducible refine Below.alloc ?_ ?_ _); rotate_left; · (first | exact Nat.le_refl _ | (simp; done) | (simp; omega) | omega)) | (with_reducible apply Below.drew) | (with_reducible apply below_drewN') | (refine Below.trans ?_ (Below.mono (by assumption) (by first | exact Nat.le_refl _ | (simp; done) | (simp; omega) | omega))) | exact Below.refl _ _ | assumption))
        case ca21R24 => (first | (simp [Act.put]; done) | (simp [Act.put, *]; done))
        try dsimp only
        refine wpW_branch [11] (by kernel_rfl) (by simp) ?_
        intro w4 hg4 hS4
        replace M := M.gr hg4
        have q0 := M.cell HI.out
        have q1 := M.cell HK.out
        have ql := M.lt
        refine each_cons ?_ (each_nil)
        · refine wpOp_go (by rfl) (Eq.refl _) (by go_simp; done) ?_
          intro K hK
          go_simp
          try simp only [Act.put]
          refine hK _ _ hS4 ?_
          clear hK K q0 q1 ql
          refine wpW_det (t' := ?ct12R25) 12 (by rfl) (by kernel_rfl) (NQ_free _) (by kernel_rfl) ?cw12R25 ?ch12R25 ?ca12R25 (Eq.refl _) ?cH12R25
          case cw12R25 => (go_simp; done)
          case ch12R25 =>
            intro ds w' hS K hK
            have hc := (ocell hS).1
            have hf := (ocell hS).2
            have hz := hS.size
            try simp at hz
            go_simp
            try go_bits
            first
              | exact hK _ hS (Gr.refl _)
              | exact hK _ (by repeat (first | (with_reducible exact Below.refl _ _) | (with_reducible assumption) | ((with_reducible refine Below.setCell ?_ ?_ _); rotate_left; · (first | exact Nat.le_refl _ | (simp; done) | (simp; omega) | omega)) | ((with_reducible refine Below.alloc ?_ ?_ _); rotate_left; · (first | exact Nat.le_refl _ | (simp; done) | (simp; omega) | omega)) | (with_reducible apply Below.drew) | (with_reducible apply below_drewN') | (refine Below.trans ?_ (Below.mono (by assumption) (by first | exact Nat.le_refl _ | (simp; done) | (simp; omega) | omega))) | exact Below.refl _ _ | assumption)) (by repeat (first | (with_reducible exact Below.refl _ _) | (with_reducible assumption) | ((with_reducible refine Below.setCell ?_ ?_ _); rotate_left; · (first | exact Nat.le_refl _ | (simp; done) | (simp; omega) | omega)) | ((with_reducible refine Below.alloc ?_ ?_ _); rotate_left; · (first | exact Nat.le_refl _ | (simp; done) | (simp; omega) | omega)) | (with_reducible apply Below.drew) | (with_reducible apply below_drewN') | (refine Below.trans ?_ (Below.mono (by assumption) (by first | exact Nat.le_refl _ | (simp; done) | (simp; omega) | omega))) | exact Below.refl _ _ | assumption))
          case ca12R25 => (first | (simp [Act.put]; done) | (simp [Act.put, *]; done))
          try dsimp only
          refine wpW_det (t' := ?ct22R26) 22 (by rfl) (by kernel_rfl) (NQ_free _) (by kernel_rfl) ?cw22R26 ?ch22R26 ?ca22R26 (Eq.refl _) ?cH22R26
          case cw22R26 => (go_simp; done)
          case ch22R26 =>
            intro ds w' hS K hK
            have hc := (ocell hS).1
            have hf := (ocell hS).2
            have hz := hS.size
            try simp at hz
            go_simp
            try go_bits
            first
              | exact hK _ hS (Gr.refl _)
              | exact hK _ (by repeat (first | (with_reducible exact Below.refl _ _) | (with_reducible assumption) | ((with_reducible refine Below.setCell ?_ ?_ _); rotate_left; · (first | exact Nat.le_refl _ | (simp; done) | (simp; omega) | omega)) | ((with_reducible refine Below.alloc ?_ ?_ _); rotate_left; · (first | exact Nat.le_refl _ | (simp; done) | (simp; omega) | omega)) | (with_reducible apply Below.drew) | (with_reducible apply below_drewN') | (refine Below.trans ?_ (Below.mono (by assumption) (by first | exact Nat.le_refl _ | (simp; done) | (simp; omega) | omega))) | exact Below.refl _ _ | assumption)) (by repeat (first | (with_reducible exact Below.refl _ _) | (with_reducible assumption) | ((with_reducible refine Below.setCell ?_ ?_ _); rotate_left; · (first | exact Nat.le_refl _ | (simp; done) | (simp; omega) | omega)) | ((with_reducible refine Below.alloc ?_ ?_ _); rotate_left; · (first | exact Nat.le_refl _ | (simp; done) | (simp; omega) | omega)) | (with_reducible apply Below.drew) | (with_reducible apply below_drewN') | (refine Below.trans ?_ (Below.mono (by assumption) (by first | exact Nat.le_refl _ | (simp; done) | (simp; omega) | omega))) | exact Below.refl _ _ | assumption))
          case ca22R26 => (first | (simp [Act.put]; done) | (simp [Act.put, *]; done))
          try dsimp only
          refine wpW_branch [23] (by kernel_rfl) (by simp) ?_
          intro v1 hg_v1 hS_v1
          have M1 := M.gr hg_v1
          have q0 := M1.cell HI.out
          have qf := M1.frozen i
          have ql := M1.lt
          refine each_cons ?_ each_nil
          refine wpOp_go (by rfl) (Eq.refl _) (by go_simp; done) ?_
          intro K hK
          go_simp
          try simp only [Act.put]
          refine hK _ _ (by have := hS_v1; rw [HRW.out] at this ⊢; exact only_setCell this (.inl rfl) _) ?_
          clear hK K q0 qf ql
          have M2 := M1.put i (min fi fk)
          clear M1
          refine wpW_det (t' := ?ct24R27) 24 (by rfl) (by kernel_rfl) (NQ_free _) (by kernel_rfl) ?cw24R27 ?ch24R27 ?ca24R27 (Eq.refl _) ?cH24R27
          case cw24R27 => (go_simp; done)
          case ch24R27 =>
            intro ds w' hS K hK
            have hc := (ocell hS).1
            have hf := (ocell hS).2
            have hz := hS.size
            try simp at hz
            go_simp
            try go_bits
            first
              | exact hK _ hS (Gr.refl _)
              | exact hK _ (by repeat (first | (with_reducible exact Below.refl _ _) | (with_reducible assumption) | ((with_reducible refine Below.setCell ?_ ?_ _); rotate_left; · (first | exact Nat.le_refl _ | (simp; done) | (simp; omega) | omega)) | ((with_reducible refine Below.alloc ?_ ?_ _); rotate_left; · (first | exact Nat.le_refl _ | (simp; done) | (simp; omega) | omega)) | (with_reducible apply Below.drew) | (with_reducible apply below_drewN') | (refine Below.trans ?_ (Below.mono (by assumption) (by first | exact Nat.le_refl _ | (simp; done) | (simp; omega) | omega))) | exact Below.refl _ _ | assumption)) (by repeat (first | (with_reducible exact Below.refl _ _) | (with_reducible assumption) | ((with_reducible refine Below.setCell ?_ ?_ _); rotate_left; · (first | exact Nat.le_refl _ | (simp; done) | (simp; omega) | omega)) | ((with_reducible refine Below.alloc ?_ ?_ _); rotate_left; · (first | exact Nat.le_refl _ | (simp; done) | (simp; omega) | omega)) | (with_reducible apply Below.drew) | (with_reducible apply below_drewN') | (refine Below.trans ?_ (Below.mono (by assumption) (by first | exact Nat.le_refl _ | (simp; done) | (simp; omega) | omega))) | exact Below.refl _ _ | assumption))
          case ca24R27 => (first | (simp [Act.put]; done) | (simp [Act.put, *]; done))
          try dsimp only
          refine wpW_branch [25] (by kernel_rfl) (by simp) ?_
          intro v2 hg_v2 hS_v2
          have M3 := M2.gr hg_v2
          have q1 := M3.cell (k := k) (x := fk) (by rw [List.getElem?_set_ne (by omega)]; exact HK.out)
          have qf := M3.frozen k
          have ql := M3.lt
          refine each_cons ?_ each_nil
          refine wpOp_go (by rfl) (Eq.refl _) (by go_simp; done) ?_
          intro K hK
          go_simp
          try simp only [Act.put]
          refine hK _ _ (by have := hS_v2; rw [HRW.out] at this ⊢; exact only_setCell this (.inl rfl) _) ?_
          clear hK K q1 qf ql
          have M4 := M3.put k (min fi fk)
          clear M3 M2
          refine wpW_det (t' := ?ct26R28) 26 (by rfl) (by kernel_rfl) (NQ_free _) (by kernel_rfl) ?cw26R28 ?ch26R28 ?ca26R28 (Eq.refl _) ?cH26R28
          case cw26R28 => (go_simp; done)
          case ch26R28 =>
            intro ds w' hS K hK
            have hc := (ocell hS).1
            have hf := (ocell hS).2
            have hz := hS.size
            try simp at hz
            go_simp
            try go_bits
            first
              | exact hK _ hS (Gr.refl _)
              | exact hK _ (by repeat (first | (with_reducible exact Below.refl _ _) | (with_reducible assumption) | ((with_reducible refine Below.setCell ?_ ?_ _); rotate_left; · (first | exact Nat.le_refl _ | (simp; done) | (simp; omega) | omega)) | ((with_reducible refine Below.alloc ?_ ?_ _); rotate_left; · (first | exact Nat.le_refl _ | (simp; done) | (simp; omega) | omega)) | (with_reducible apply Below.drew) | (with_reducible apply below_drewN') | (refine Below.trans ?_ (Below.mono (by assumption) (by first | exact Nat.le_refl _ | (simp; done) | (simp; omega) | omega))) | exact Below.refl _ _ | assumption)) (by repeat (first | (with_reducible exact Below.refl _ _) | (with_reducible assumption) | ((with_reducible refine Below.setCell ?_ ?_ _); rotate_left; · (first | exact Nat.le_refl _ | (simp; done) | (simp; omega) | omega)) | ((with_reducible refine Below.alloc ?_ ?_ _); rotate_left; · (first | exact Nat.le_refl _ | (simp; done) | (simp; omega) | omega)) | (with_reducible apply Below.drew) | (with_reducible apply below_drewN') | (refine Below.trans ?_ (Below.mono (by assumption) (by first | exact Nat.le_refl _ | (simp; done) | (simp; omega) | omega))) | exact Below.refl _ _ | assumption))
          case ca26R28 => (first | (simp [Act.put]; done) | (simp [Act.put, *]; done))
          try dsimp only
          refine wpW_end (by kernel_rfl) ?_
          intro we hg hS
          unfold NQ
          dsimp only
          exact H.out _ _ _ _ _ _ _ _ _ _ _ _ _ _ _ _ _ _ _ _ _ _ _ _ we (M4.gr hg)
    · refine wpOp_go (by rfl) (Eq.refl _) (by go_simp; done) ?_
      intro K hK
      go_simp
      try simp only [Act.put]
      refine hK _ _ hS2 ?_
      clear hK K q0 q1 ql
      refine wpW_branch [11, 16] (by kernel_rfl) (by simp) ?_
      intro w3 hg3 hS3
      replace M := M.gr hg3
      have q0 := M.cell HI.out
      have q1 := M.cell HK.out
      have ql := M.lt
      refine each_cons ?_ (each_cons ?_ (each_nil))
      · refine wpOp_go (by rfl) (Eq.refl _) (by go_simp; done) ?_
        intro K hK
        go_simp
        try simp only [Act.put]
        refine hK _ _ hS3 ?_
        clear hK K q0 q1 ql
        refine wpW_det (t' := ?ct12R29) 12 (by rfl) (by kernel_rfl) (NQ_free _) (by kernel_rfl) ?cw12R29 ?ch12R29 ?ca12R29 (Eq.refl _) ?cH12R29
        case cw12R29 => (go_simp; done)
        case ch12R29 =>
          intro ds w' hS K hK
          have hc := (ocell hS).1
          have hf := (ocell hS).2
          have hz := hS.size
          try simp at hz
          go_simp
          try go_bits
          first
            | exact hK _ hS (Gr.refl _)
            | exact hK _ (by repeat (first | (with_reducible exact Below.refl _ _) | (with_reducible assumption) | ((with_reducible refine Below.setCell ?_ ?_ _); rotate_left; · (first | exact Nat.le_refl _ | (simp; done) | (simp; omega) | omega)) | ((with_reducible refine Below.alloc ?_ ?_ _); rotate_left; · (first | exact Nat.le_refl _ | (simp; done) | (simp; omega) | omega)) | (with_reducible apply Below.drew) | (with_reducible apply below_drewN') | (refine Below.trans ?_ (Below.mono (by assumption) (by first | exact Nat.le_refl _ | (simp; done) | (simp; omega) | omega))) | exact Below.refl _ _ | assumption)) (by repeat (first | (with_reducible exact Below.refl _ _) | (with_reducible assumption) | ((with_reducible refine Below.setCell ?_ ?_ _); rotate_left; · (first | exact Nat.le_refl _ | (simp; done) | (simp; omega) | omega)) | ((with_reducible refine Below.alloc ?_ ?_ _); rotate_left; · (first | exact Nat.le_refl _ | (simp; done) | (simp; omega) | omega)) | (with_reducible apply Below.drew) | (with_reducible apply below_drewN') | (refine Below.trans ?_ (Below.mono (by assumption) (by first | exact Nat.le_refl _ | (simp; done) | (simp; omega) | omega))) | exact Below.refl _ _ | assumption))
        case ca12R29 => (first | (simp [Act.put]; done) | (simp [Act.put, *]; done))
        try dsimp only
        refine wpW_branch [16] (by kernel_rfl) (by simp) ?_
        intro w4 hg4 hS4
        replace M := M.gr hg4
        have q0 := M.cell HI.out
        have q1 := M.cell HK.out
        have ql := M.lt
        refine each_cons ?_ (each_nil)
        · refine wpOp_go (by rfl) (Eq.refl _) (by go_simp; done) ?_
          intro K hK
          go_simp
          try simp only [Act.put]
          refine hK _ _ hS4 ?_
          clear hK K q0 q1 ql
          refine wpW_det (t' := ?ct21R30) 21 (by rfl) (by kernel_rfl) (NQ_free _) (by kernel_rfl) ?cw21R30 ?ch21R30 ?ca21R30 (Eq.refl _) ?cH21R30
          case cw21R30 => (go_simp; done)
          case ch21R30 =>
            intro ds w' hS K hK
            have hc := (ocell hS).1
            have hf := (ocell hS).2
            have hz := hS.size
            try simp at hz
            go_simp
            try go_bits
            first
              | exact hK _ hS (Gr.refl _)
              | exact hK _ (by repeat (first | (with_reducible exact Below.refl _ _) | (with_reducible assumption) | ((with_reducible refine Below.setCell ?_ ?_ _); rotate_left; · (first | exact Nat.le_refl _ | (simp; done) | (simp; omega) | omega)) | ((with_reducible refine Below.alloc ?_ ?_ _); rotate_left; · (first | exact Nat.le_refl _ | (simp; done) | (simp; omega) | omega)) | (with_reducible apply Below.drew) | (with_reducible apply below_drewN') | (refine Below.trans ?_ (Below.mono (by assumption) (by first | exact Nat.le_refl _ | (simp; done) | (simp; omega) | omega))) | exact Below.refl _ _ | assumption)) (by repeat (first | (with_reducible exact Below.refl _ _) | (with_reducible assumption) | ((with_reducible refine Below.setCell ?_ ?_ _); rotate_left; · (first | exact Nat.le_refl _ | (simp; done) | (simp; omega) | omega)) | ((with_reducible refine Below.alloc ?_ ?_ _); rotate_left; · (first | exact Nat.le_refl _ | (simp; done) | (simp; omega) | omega)) | (with_reducible apply Below.drew) | (with_reducible apply below_drewN') | (refine Below.trans ?_ (Below.mono (by assumption) (by first | exact Nat.le_refl _ | (simp; done) | (simp; omega) | omega))) | exact Below.refl _ _ | assumption))
          case ca21R30 => (first | (simp [Act.put]; done) | (simp [Act.put, *]; done))
          try dsimp only
          refine wpW_det (t' := ?ct22R31) 22 (by rfl) (by kernel_rfl) (NQ_free _) (by kernel_rfl) ?cw22R31 ?ch22R31 ?ca22R31 (Eq.refl _) ?cH22R31
          case cw22R31 => (go_simp; done)
          case ch22R31 =>
            intro ds w' hS K hK
            have hc := (ocell hS).1
            have hf := (ocell hS).2
            have hz := hS.size
            try simp at hz
            go_simp
            try go_bits
            first
              | exact hK _ hS (Gr.refl _)
              | exact hK _ (by repeat (first | (with_reducible exact Below.refl _ _) | (with_reducible assumption) | ((with_reducible refine Below.setCell ?_ ?_ _); rotate_left; · (first | exact Nat.le_refl _ | (simp; done) | (simp; omega) | omega)) | ((with_reducible refine Below.alloc ?_ ?_ _); rotate_left; · (first | exact Nat.le_refl _ | (simp; done) | (simp; omega) | omega)) | (with_reducible apply Below.drew) | (with_reducible apply below_drewN') | (refine Below.trans ?_ (Below.mono (by assumption) (by first | exact Nat.le_refl _ | (simp; done) | (simp; omega) | omega))) | exact Below.refl _ _ | assumption)) (by repeat (first | (with_reducible exact Below.refl _ _) | (with_reducible assumption) | ((with_reducible refine Below.setCell ?_ ?_ _); rotate_left; · (first | exact Nat.le_refl _ | (simp; done) | (simp; omega) | omega)) | ((with_reducible refine Below.alloc ?_ ?_ _); rotate_left; · (first | exact Nat.le_refl _ | (simp; done) | (simp; omega) | omega)) | (with_reducible apply Below.drew) | (with_reducible apply below_drewN') | (refine Below.trans ?_ (Below.mono (by assumption) (by first | exact Nat.le_refl _ | (simp; done) | (simp; omega) | omega))) | exact Below.refl _ _ | assumption))
          case ca22R31 => (first | (simp [Act.put]; done) | (simp [Act.put, *]; done))
          try dsimp only
          refine wpW_branch [23] (by kernel_rfl) (by simp) ?_
          intro v1 hg_v1 hS_v1
          have M1 := M.gr hg_v1
          have q0 := M1.cell HI.out
          have qf := M1.frozen i
          have ql := M1.lt
          refine each_cons ?_ each_nil
          refine wpOp_go (by rfl) (Eq.refl _) (by go_simp; done) ?_
          intro K hK
          go_simp
          try simp only [Act.put]
          refine hK _ _ (by have := hS_v1; rw [HRW.out] at this ⊢; exact only_setCell this (.inl rfl) _) ?_
          clear hK K q0 qf ql
          have M2 := M1.put i (min fi fk)
          clear M1
          refine wpW_det (t' := ?ct24R32) 24 (by rfl) (by kernel_rfl) (NQ_free _) (by kernel_rfl) ?cw24R32 ?ch24R32 ?ca24R32 (Eq.refl _) ?cH24R32
          case cw24R32 => (go_simp; done)
          case ch24R32 =>
            intro ds w' hS K hK
            have hc := (ocell hS).1
            have hf := (ocell hS).2
            have hz := hS.size
            try simp at hz
            go_simp
            try go_bits
            first
              | exact hK _ hS (Gr.refl _)
              | exact hK _ (by repeat (first | (with_reducible exact Below.refl _ _) | (with_reducible assumption) | ((with_reducible refine Below.setCell ?_ ?_ _); rotate_left; · (first | exact Nat.le_refl _ | (simp; done) | (simp; omega) | omega)) | ((with_reducible refine Below.alloc ?_ ?_ _); rotate_left; · (first | exact Nat.le_refl _ | (simp; done) | (simp; omega) | omega)) | (with_reducible apply Below.drew) | (with_reducible apply below_drewN') | (refine Below.trans ?_ (Below.mono (by assumption) (by first | exact Nat.le_refl _ | (simp; done) | (simp; omega) | omega))) | exact Below.refl _ _ | assumption)) (by repeat (first | (with_reducible exact Below.refl _ _) | (with_reducible assumption) | ((with_reducible refine Below.setCell ?_ ?_ _); rotate_left; · (first | exact Nat.le_refl _ | (simp; done) | (simp; omega) | omega)) | ((with_reducible refine Below.alloc ?_ ?_ _); rotate_left; · (first | exact Nat.le_refl _ | (simp; done) | (simp; omega) | omega)) | (with_reducible apply Below.drew) | (with_reducible apply below_drewN') | (refine Below.trans ?_ (Below.mono (by assumption) (by first | exact Nat.le_refl _ | (simp; done) | (simp; omega) | omega))) | exact Below.refl _ _ | assumption))
          case ca24R32 => (first | (simp [Act.put]; done) | (simp [Act.put, *]; done))
          try dsimp only
          refine wpW_branch [25] (by kernel_rfl) (by simp) ?_
          intro v2 hg_v2 hS_v2
          have M3 := M2.gr hg_v2
          have q1 := M3.cell (k := k) (x := fk) (by rw [List.getElem?_set_ne (by omega)]; exact HK.out)
          have qf := M3.frozen k
          have ql := M3.lt
          refine each_cons ?_ each_nil
          refine wpOp_go (by rfl) (Eq.refl _) (by go_simp; done) ?_
          intro K hK
          go_simp
          try simp only [Act.put]
          refine hK _ _ (by have := hS_v2; rw [HRW.out] at this ⊢; exact only_setCell this (.inl rfl) _) ?_
          clear hK K q1 qf ql
          have M4 := M3.put k (min fi fk)
          clear M3 M2
          refine wpW_det (t' := ?ct26R33) 26 (by rfl) (by kernel_rfl) (NQ_free _) (by kernel_rfl) ?cw26R33 ?ch26R33 ?ca26R33 (Eq.refl _) ?cH26R33
          case cw26R33 => (go_simp; done)
          case ch26R33 =>
            intro ds w' hS K hK
            have hc := (ocell hS).1
            have hf := (ocell hS).2
            have hz := hS.size
            try simp at hz
            go_simp
            try go_bits
            first
              | exact hK _ hS (Gr.refl _)
              | exact hK _ (by repeat (first | (with_reducible exact Below.refl _ _) | (with_reducible assumption) | ((with_reducible refine Below.setCell ?_ ?_ _); rotate_left; · (first | exact Nat.le_refl _ | (simp; done) | (simp; omega) | omega)) | ((with_reducible refine Below.alloc ?_ ?_ _); rotate_left; · (first | exact Nat.le_refl _ | (simp; done) | (simp; omega) | omega)) | (with_reducible apply Below.drew) | (with_reducible apply below_drewN') | (refine Below.trans ?_ (Below.mono (by assumption) (by first | exact Nat.le_refl _ | (simp; done) | (simp; omega) | omega))) | exact Below.refl _ _ | assumption)) (by repeat (first | (with_reducible exact Below.refl _ _) | (with_reducible assumption) | ((with_reducible refine Below.setCell ?_ ?_ _); rotate_left; · (first | exact Nat.le_refl _ | (simp; done) | (simp; omega) | omega)) | ((with_reducible refine Below.alloc ?_ ?_ _); rotate_left; · (first | exact Nat.le_refl _ | (simp; done) | (simp; omega) | omega)) | (with_reducible apply Below.drew) | (with_reducible apply below_drewN') | (refine Below.trans ?_ (Below.mono (by assumption) (by first | exact Nat.le_refl _ | (simp; done) | (simp; omega) | omega))) | exact Below.refl _ _ | assumption))
          case ca26R33 => (first | (simp [Act.put]; done) | (simp [Act.put, *]; done))
          try dsimp only
          refine wpW_end (by kernel_rfl) ?_
          intro we hg hS
          unfold NQ
          dsimp only
          exact H.out _ _ _ _ _ _ _ _ _ _ _ _ _ _ _ _ _ _ _ _ _ _ _ _ we (M4.gr hg)
      · refine wpOp_go (by rfl) (Eq.refl _) (by go_simp; done) ?_
        intro K hK
        go_simp
        try simp only [Act.put]
        refine hK _ _ hS3 ?_
        clear hK K q0 q1 ql
        refine wpW_det (t' := ?ct21R34) 21 (by rfl) (by kernel_rfl) (NQ_free _) (by kernel_rfl) ?cw21R34 ?ch21R34 ?ca21R34 (Eq.refl _) ?cH21R34
        case cw21R34 => (go_simp; done)
        case ch21R34 =>
          intro ds w' hS K hK
          have hc := (ocell hS).1
          have hf := (ocell hS).2
          have hz := hS.size
          try simp at hz
          go_simp
          try go_bits
          first
            | exact hK _ hS (Gr.refl _)
            | exact hK _ (by repeat (first | (with_reducible exact Below.refl _ _) | (with_reducible assumption) | ((with_reducible refine Below.setCell ?_ ?_ _); rotate_left; · (first | exact Nat.le_refl _ | (simp; done) | (simp; omega) | omega)) | ((with_reducible refine Below.alloc ?_ ?_ _); rotate_left; · (first | exact Nat.le_refl _ | (simp; done) | (simp; omega) | omega)) | (with_reducible apply Below.drew) | (with_reducible apply below_drewN') | (refine Below.trans ?_ (Below.mono (by assumption) (by first | exact Nat.le_refl _ | (simp; done) | (simp; omega) | omega))) | exact Below.refl _ _ | assumption)) (by repeat (first | (with_reducible exact Below.refl _ _) | (with_reducible assumption) | ((with_reducible refine Below.setCell ?_ ?_ _); rotate_left; · (first | exact Nat.le_refl _ | (simp; done) | (simp; omega) | omega)) | ((with_reducible refine Below.alloc ?_ ?_ _); rotate_left; · (first | exact Nat.le_refl _ | (simp; done) | (simp; omega) | omega)) | (with_reducible apply Below.drew) | (with_reducible apply below_drewN') | (refine Below.trans ?_ (Below.mono (by assumption) (by first | exact Nat.le_refl _ | (simp; done) | (simp; omega) | omega))) | exact Below.refl _ _ | assumption))
        case ca21R34 => (first | (simp [Act.put]; done) | (simp [Act.put, *]; done))
        try dsimp only
        refine wpW_branch [11] (by kernel_rfl) (by simp) ?_
        intro w4 hg4 hS4
        replace M := M.gr hg4
        have q0 := M.cell HI.out
        have q1 := M.cell HK.out
        have ql := M.lt
        refine each_cons ?_ (each_nil)
        · refine wpOp_go (by rfl) (Eq.refl _) (by go_simp; done) ?_
          intro K hK
          go_simp
          try simp only [Act.put]
          refine hK _ _ hS4 ?_
          clear hK K q0 q1 ql
          refine wpW_det (t' := ?ct12R35) 12 (by rfl) (by kernel_rfl) (NQ_free _) (by kernel_rfl) ?cw12R35 ?ch12R35 ?ca12R35 (Eq.refl _) ?cH12R35
          case cw12R35 => (go_simp; done)
          case ch12R35 =>
            intro ds w' hS K hK
            have hc := (ocell hS).1
            have hf := (ocell hS).2
            have hz := hS.size
            try simp at hz
            go_simp
            try go_bits
            first
              | exact hK _ hS (Gr.refl _)
              | exact hK _ (by repeat (first | (with_reducible exact Below.refl _ _) | (with_reducible assumption) | ((with_reducible refine Below.setCell ?_ ?_ _); rotate_left; · (first | exact Nat.le_refl _ | (simp; done) | (simp; omega) | omega)) | ((with_reducible refine Below.alloc ?_ ?_ _); rotate_left; · (first | exact Nat.le_refl _ | (simp; done) | (simp; omega) | omega)) | (with_reducible apply Below.drew) | (with_reducible apply below_drewN') | (refine Below.trans ?_ (Below.mono (by assumption) (by first | exact Nat.le_refl _ | (simp; done) | (simp; omega) | omega))) | exact Below.refl _ _ | assumption)) (by repeat (first | (with_reducible exact Below.refl _ _) | (with_reducible assumption) | ((with_reducible refine Below.setCell ?_ ?_ _); rotate_left; · (first | exact Nat.le_refl _ | (simp; done) | (simp; omega) | omega)) | ((with_reducible refine Below.alloc ?_ ?_ _); rotate_left; · (first | exact Nat.le_refl _ | (simp; done) | (simp; omega) | omega)) | (with_reducible apply Below.drew) | (with_reducible apply below_drewN') | (refine Below.trans ?_ (Below.mono (by assumption) (by first | exact Nat.le_refl _ | (simp; done) | (simp; omega) | omega))) | exact Below.refl _ _ | assumption))
          case ca12R35 => (first | (simp [Act.put]; done) | (simp [Act.put, *]; done))
          try dsimp only
          refine wpW_det (t' := ?ct22R36) 22 (by rfl) (by kernel_rfl) (NQ_free _) (by kernel_rfl) ?cw22R36 ?ch22R36 ?ca22R36 (Eq.refl _) ?cH22R36
          case cw22R36 => (go_simp; done)
          case ch22R36 =>
            intro ds w' hS K hK
            have hc := (ocell hS).1
            have hf := (ocell hS).2
            have hz := hS.size
            try simp at hz
            go_simp
            try go_bits
            first
              | exact hK _ hS (Gr.refl _)
              | exact hK _ (by repeat (first | (with_reducible exact Below.refl _ _) | (with_reducible assumption) | ((with_reducible refine Below.setCell ?_ ?_ _); rotate_left; · (first | exact Nat.le_refl _ | (simp; done) | (simp; omega) | omega)) | ((with_reducible refine Below.alloc ?_ ?_ _); rotate_left; · (first | exact Nat.le_refl _ | (simp; done) | (simp; omega) | omega)) | (with_reducible apply Below.drew) | (with_reducible apply below_drewN') | (refine Below.trans ?_ (Below.mono (by assumption) (by first | exact Nat.le_refl _ | (simp; done) | (simp; omega) | omega))) | exact Below.refl _ _ | assumption)) (by repeat (first | (with_reducible exact Below.refl _ _) | (with_reducible assumption) | ((with_reducible refine Below.setCell ?_ ?_ _); rotate_left; · (first | exact Nat.le_refl _ | (simp; done) | (simp; omega) | omega)) | ((with_reducible refine Below.alloc ?_ ?_ _); rotate_left; · (first | exact Nat.le_refl _ | (simp; done) | (simp; omega) | omega)) | (with_reducible apply Below.drew) | (with_reducible apply below_drewN') | (refine Below.trans ?_ (Below.mono (by assumption) (by first | exact Nat.le_refl _ | (simp; done) | (simp; omega) | omega))) | exact Below.refl _ _ | assumption))
          case ca22R36 => (first | (simp [Act.put]; done) | (simp [Act.put, *]; done))
          try dsimp only
          refine wpW_branch [23] (by kernel_rfl) (by simp) ?_
          intro v1 hg_v1 hS_v1
          have M1 := M.gr hg_v1
          have q0 := M1.cell HI.out
          have qf := M1.frozen i
          have ql := M1.lt
          refine each_cons ?_ each_nil
          refine wpOp_go (by rfl) (Eq.refl _) (by go_simp; done) ?_
          intro K hK
          go_simp
          try simp only [Act.put]
          refine hK _ _ (by have := hS_v1; rw [HRW.out] at this ⊢; exact only_setCell this (.inl rfl) _) ?_
          clear hK K q0 qf ql
          have M2 := M1.put i (min fi fk)
          clear M1
          refine wpW_det (t' := ?ct24R37) 24 (by rfl) (by kernel_rfl) (NQ_free _) (by kernel_rfl) ?cw24R37 ?ch24R37 ?ca24R37 (Eq.refl _) ?cH24R37
          case cw24R37 => (go_simp; done)
          case ch24R37 =>
            intro ds w' hS K hK
            have hc := (ocell hS).1
            have hf := (ocell hS).2
            have hz := hS.size
            try simp at hz
            go_simp
            try go_bits
            first
              | exact hK _ hS (Gr.refl _)
              | exact hK _ (by repeat (first | (with_reducible exact Below.refl _ _) | (with_reducible assumption) | ((with_reducible refine Below.setCell ?_ ?_ _); rotate_left; · (first | exact Nat.le_refl _ | (simp; done) | (simp; omega) | omega)) | ((with_reducible refine Below.alloc ?_ ?_ _); rotate_left; · (first | exact Nat.le_refl _ | (simp; done) | (simp; omega) | omega)) | (with_reducible apply Below.drew) | (with_reducible apply below_drewN') | (refine Below.trans ?_ (Below.mono (by assumption) (by first | exact Nat.le_refl _ | (simp; done) | (simp; omega) | omega))) | exact Below.refl _ _ | assumption)) (by repeat (first | (with_reducible exact Below.refl _ _) | (with_reducible assumption) | ((with_reducible refine Below.setCell ?_ ?_ _); rotate_left; · (first | exact Nat.le_refl _ | (simp; done) | (simp; omega) | omega)) | ((with_reducible refine Below.alloc ?_ ?_ _); rotate_left; · (first | exact Nat.le_refl _ | (simp; done) | (simp; omega) | omega)) | (with_reducible apply Below.drew) | (with_reducible apply below_drewN') | (refine Below.trans ?_ (Below.mono (by assumption) (by first | exact Nat.le_refl _ | (simp; done) | (simp; omega) | omega))) | exact Below.refl _ _ | assumption))
          case ca24R37 => (first | (simp [Act.put]; done) | (simp [Act.put, *]; done))
          try dsimp only
          refine wpW_branch [25] (by kernel_rfl) (by simp) ?_
          intro v2 hg_v2 hS_v2
          have M3 := M2.gr hg_v2
          have q1 := M3.cell (k := k) (x := fk) (by rw [List.getElem?_set_ne (by omega)]; exact HK.out)
          have qf := M3.frozen k
          have ql := M3.lt
          refine each_cons ?_ each_nil
          refine wpOp_go (by rfl) (Eq.refl _) (by go_simp; done) ?_
          intro K hK
          go_simp
          try simp only [Act.put]
          refine hK _ _ (by have := hS_v2; rw [HRW.out] at this ⊢; exact only_setCell this (.inl rfl) _) ?_
          clear hK K q1 qf ql
          have M4 := M3.put k (min fi fk)
          clear M3 M2
          refine wpW_det (t' := ?ct26R38) 26 (by rfl) (by kernel_rfl) (NQ_free _) (by kernel_rfl) ?cw26R38 ?ch26R38 ?ca26R38 (Eq.refl _) ?cH26R38
          case cw26R38 => (go_simp; done)
          case ch26R38 =>
            intro ds w' hS K hK
            have hc := (ocell hS).1
            have hf := (ocell hS).2
            have hz := hS.size
            try simp at hz
            go_simp
            try go_bits
            first
              | exact hK _ hS (Gr.refl _)
              | exact hK _ (by repeat (first | (with_reducible exact Below.refl _ _) | (with_reducible assumption) | ((with_reducible refine Below.setCell ?_ ?_ _); rotate_left; · (first | exact Nat.le_refl _ | (simp; done) | (simp; omega) | omega)) | ((with_reducible refine Below.alloc ?_ ?_ _); rotate_left; · (first | exact Nat.le_refl _ | (simp; done) | (simp; omega) | omega)) | (with_reducible apply Below.drew) | (with_reducible apply below_drewN') | (refine Below.trans ?_ (Below.mono (by assumption) (by first | exact Nat.le_refl _ | (simp; done) | (simp; omega) | omega))) | exact Below.refl _ _ | assumption)) (by repeat (first | (with_reducible exact Below.refl _ _) | (with_reducible assumption) | ((with_reducible refine Below.setCell ?_ ?_ _); rotate_left; · (first | exact Nat.le_refl _ | (simp; done) | (simp; omega) | omega)) | ((with_reducible refine Below.alloc ?_ ?_ _); rotate_left; · (first | exact Nat.le_refl _ | (simp; done) | (simp; omega) | omega)) | (with_reducible apply Below.drew) | (with_reducible apply below_drewN') | (refine Below.trans ?_ (Below.mono (by assumption) (by first | exact Nat.le_refl _ | (simp; done) | (simp; omega) | omega))) | exact Below.refl _ _ | assumption))
          case ca26R38 => (first | (simp [Act.put]; done) | (simp [Act.put, *]; done))
          try dsimp only
          refine wpW_end (by kernel_rfl) ?_
          intro we hg hS
          unfold NQ
          dsimp only
          exact H.out _ _ _ _ _ _ _ _ _ _ _ _ _ _ _ _ _ _ _ _ _ _ _ _ we (M4.gr hg)
  · refine wpOp_go (by rfl) (Eq.refl _) (by go_simp; done) ?_
    intro K hK
    go_simp
    try simp only [Act.put]
    refine hK _ _ hS1 ?_
    clear hK K q0 q1 ql
    refine wpW_branch [7, 16, 20] (by kernel_rfl) (by simp) ?_
    intro w2 hg2 hS2
    replace M := M.gr hg2
    have q0 := M.cell HI.out
    have q1 := M.cell HK.out
    have ql := M.lt
    refine each_cons ?_ (each_cons ?_ (each_cons ?_ (each_nil)))
    · refine wpOp_go (by rfl) (Eq.refl _) (by go_simp; done) ?_
      intro K hK
      go_simp
      try simp only [Act.put]
      refine hK _ _ hS2 ?_
      clear hK K q0 q1 ql
      refine wpW_det (t' := ?ct12R39) 12 (by rfl) (by kernel_rfl) (NQ_free _) (by kernel_rfl) ?cw12R39 ?ch12R39 ?ca12R39 (Eq.refl _) ?cH12R39
      case cw12R39 => (go_simp; done)
      case ch12R39 =>
        intro ds w' hS K hK
        have hc := (ocell hS).1
        have hf := (ocell hS).2
        have hz := hS.size
        try simp at hz
        go_simp
        try go_bits
        first
          | exact hK _ hS (Gr.refl _)
          | exact hK _ (by repeat (first | (with_reducible exact Below.refl _ _) | (with_reducible assumption) | ((with_reducible refine Below.setCell ?_ ?_ _); rotate_left; · (first | exact Nat.le_refl _ | (simp; done) | (simp; omega) | omega)) | ((with_reducible refine Below.alloc ?_ ?_ _); rotate_left; · (first | exact Nat.le_refl _ | (simp; done) | (simp; omega) | omega)) | (with_reducible apply Below.drew) | (with_reducible apply below_drewN') | (refine Below.trans ?_ (Below.mono (by assumption) (by first | exact Nat.le_refl _ | (simp; done) | (simp; omega) | omega))) | exact Below.refl _ _ | assumption)) (by repeat (first | (with_reducible exact Below.refl _ _) | (with_reducible assumption) | ((with_reducible refine Below.setCell ?_ ?_ _); rotate_left; · (first | exact Nat.le_refl _ | (simp; done) | (simp; omega) | omega)) | ((with_reducible refine Below.alloc ?_ ?_ _); rotate_left; · (first | exact Nat.le_refl _ | (simp; done) | (simp; omega) | omega)) | (with_reducible apply Below.drew) | (with_reducible apply below_drewN') | (refine Below.trans ?_ (Below.mono (by assumption) (by first | exact Nat.le_refl _ | (simp; done) | (simp; omega) | omega))) | exact Below.refl _ _ | assumption))
      case ca12R39 => (first | (simp [Act.put]; done) | (simp [Act.put, *]; done))
      try dsimp only
      refine wpW_branch [16, 20] (by kernel_rfl) (by simp) ?_
      intro w3 hg3 hS3
      replace M := M.gr hg3
      have q0 := M.cell HI.out
      have q1 := M.cell HK.out
      have ql := M.lt
      refine each_cons ?_ (each_cons ?_ (each_nil))
      · refine wpOp_go (by rfl) (Eq.refl _) (by go_simp; done) ?_
        intro K hK
        go_simp
        try simp only [Act.put]
        refine hK _ _ hS3 ?_
        clear hK K q0 q1 ql
        refine wpW_branch [20] (by kernel_rfl) (by simp) ?_
        intro w4 hg4 hS4
        replace M := M.gr hg4
        have q0 := M.cell HI.out
        have q1 := M.cell HK.out
        have ql := M.lt
        refine each_cons ?_ (each_nil)
        · refine wpOp_go (by rfl) (Eq.refl _) (by go_simp; done) ?_
          intro K hK
          go_simp
          try simp only [Act.put]
          refine hK _ _ hS4 ?_
          clear hK K q0 q1 ql
          refine wpW_det (t' := ?ct21R40) 21 (by rfl) (by kernel_rfl) (NQ_free _) (by kernel_rfl) ?cw21R40 ?ch21R40 ?ca21R40 (Eq.refl _) ?cH21R40
          case cw21R40 => (go_simp; done)
          case ch21R40 =>
            intro ds w' hS K hK
            have hc := (ocell hS).1
            have hf := (ocell hS).2
            have hz := hS.size
            try simp at hz
            go_simp
            try go_bits
            first
              | exact hK _ hS (Gr.refl _)
              | exact hK _ (by repeat (first | (with_reducible exact Below.refl _ _) | (with_reducible assumption) | ((with_reducible refine Below.setCell ?_ ?_ _); rotate_left; · (first | exact Nat.le_refl _ | (simp; done) | (simp; omega) | omega)) | ((with_reducible refine Below.alloc ?_ ?_ _); rotate_left; · (first | exact Nat.le_refl _ | (simp; done) | (simp; omega) | omega)) | (with_reducible apply Below.drew) | (with_reducible apply below_drewN') | (refine Below.trans ?_ (Below.mono (by assumption) (by first | exact Nat.le_refl _ | (simp; done) | (simp; omega) | omega))) | exact Below.refl _ _ | assumption)) (by repeat (first | (with_reducible exact Below.refl _ _) | (with_reducible assumption) | ((with_reducible refine Below.setCell ?_ ?_ _); rotate_left; · (first | exact Nat.le_refl _ | (simp; done) | (simp; omega) | omega)) | ((with_reducible refine Below.alloc ?_ ?_ _); rotate_left; · (first | exact Nat.le_refl _ | (simp; done) | (simp; omega) | omega)) | (with_reducible apply Below.drew) | (with_reducible apply below_drewN') | (refine Below.trans ?_ (Below.mono (by assumption) (by first | exact Nat.le_refl _ | (simp; done) | (simp; omega) | omega))) | exact Below.refl _ _ | assumption))
          case ca21R40 => (first | (simp [Act.put]; done) | (simp [Act.put, *]; done))
          try dsimp only
          refine wpW_det (t' := ?ct22R41) 22 (by rfl) (by kernel_rfl) (NQ_free _) (by kernel_rfl) ?cw22R41 ?ch22R41 ?ca22R41 (Eq.refl _) ?cH22R41
          case cw22R41 => (go_simp; done)
          case ch22R41 =>
            intro ds w' hS K hK
            have hc := (ocell hS).1
            have hf := (ocell hS).2
            have hz := hS.size
            try simp at hz
            go_simp
            try go_bits
            first
              | exact hK _ hS (Gr.refl _)
              | exact hK _ (by repeat (first | (with_reducible exact Below.refl _ _) | (with_reducible assumption) | ((with_reducible refine Below.setCell ?_ ?_ _); rotate_left; · (first | exact Nat.le_refl _ | (simp; done) | (simp; omega) | omega)) | ((with_reducible refine Below.alloc ?_ ?_ _); rotate_left; · (first | exact Nat.le_refl _ | (simp; done) | (simp; omega) | omega)) | (with_reducible apply Below.drew) | (with_reducible apply below_drewN') | (refine Below.trans ?_ (Below.mono (by assumption) (by first | exact Nat.le_refl _ | (simp; done) | (simp; omega) | omega))) | exact Below.refl _ _ | assumption)) (by repeat (first | (with_reducible exact Below.refl _ _) | (with_reducible assumption) | ((with_reducible refine Below.setCell ?_ ?_ _); rotate_left; · (first | exact Nat.le_refl _ | (simp; done) | (simp; omega) | omega)) | ((with_reducible refine Below.alloc ?_ ?_ _); rotate_left; · (first | exact Nat.le_refl _ | (simp; done) | (simp; omega) | omega)) | (with_reducible apply Below.drew) | (with_reducible apply below_drewN') | (refine Below.trans ?_ (Below.mono (by assumption) (by first | exact Nat.le_refl _ | (simp; done) | (simp; omega) | omega))) | exact Below.refl _ _ | assumption))
          case ca22R41 => (first | (simp [Act.put]; done) | (simp [Act.put, *]; done))
          try dsimp only
          refine wpW_branch [23] (by kernel_rfl) (by simp) ?_
          intro v1 hg_v1 hS_v1
          have M1 := M.gr hg_v1
          have q0 := M1.cell HI.out
          have qf := M1.frozen i
          have ql := M1.lt
          refine each_cons ?_ each_nil
          refine wpOp_go (by rfl) (Eq.refl _) (by go_simp; done) ?_
          intro K hK
          go_simp
          try simp only [Act.put]
          refine hK _ _ (by have := hS_v1; rw [HRW.out] at this ⊢; exact only_setCell this (.inl rfl) _) ?_
          clear hK K q0 qf ql
          have M2 := M1.put i (min fi fk)
          clear M1
          refine wpW_det (t' := ?ct24R42) 24 (by rfl) (by kernel_rfl) (NQ_free _) (by kernel_rfl) ?cw24R42 ?ch24R42 ?ca24R42 (Eq.refl _) ?cH24R42
          case cw24R42 => (go_simp; done)
          case ch24R42 =>
            intro ds w' hS K hK
            have hc := (ocell hS).1
            have hf := (ocell hS).2
            have hz := hS.size
            try simp at hz
            go_simp
            try go_bits
            first
              | exact hK _ hS (Gr.refl _)
              | exact hK _ (by repeat (first | (with_reducible exact Below.refl _ _) | (with_reducible assumption) | ((with_reducible refine Below.setCell ?_ ?_ _); rotate_left; · (first | exact Nat.le_refl _ | (simp; done) | (simp; omega) | omega)) | ((with_reducible refine Below.alloc ?_ ?_ _); rotate_left; · (first | exact Nat.le_refl _ | (simp; done) | (simp; omega) | omega)) | (with_reducible apply Below.drew) | (with_reducible apply below_drewN') | (refine Below.trans ?_ (Below.mono (by assumption) (by first | exact Nat.le_refl _ | (simp; done) | (simp; omega) | omega))) | exact Below.refl _ _ | assumption)) (by repeat (first | (with_reducible exact Below.refl _ _) | (with_reducible assumption) | ((with_reducible refine Below.setCell ?_ ?_ _); rotate_left; · (first | exact Nat.le_refl _ | (simp; done) | (simp; omega) | omega)) | ((with_reducible refine Below.alloc ?_ ?_ _); rotate_left; · (first | exact Nat.le_refl _ | (simp; done) | (simp; omega) | omega)) | (with_reducible apply Below.drew) | (with_reducible apply below_drewN') | (refine Below.trans ?_ (Below.mono (by assumption) (by first | exact Nat.le_refl _ | (simp; done) | (simp; omega) | omega))) | exact Below.refl _ _ | assumption))
          case ca24R42 => (first | (simp [Act.put]; done) | (simp [Act.put, *]; done))
          try dsimp only
          refine wpW_branch [25] (by kernel_rfl) (by simp) ?_
          intro v2 hg_v2 hS_v2
          have M3 := M2.gr hg_v2
          have q1 := M3.cell (k := k) (x := fk) (by rw [List.getElem?_set_ne (by omega)]; exact HK.out)
          have qf := M3.frozen k
          have ql := M3.lt
          refine each_cons ?_ each_nil
          refine wpOp_go (by rfl) (Eq.refl _) (by go_simp; done) ?_
          intro K hK
          go_simp
          try simp only [Act.put]
          refine hK _ _ (by have := hS_v2; rw [HRW.out] at this ⊢; exact only_setCell this (.inl rfl) _) ?_
          clear hK K q1 qf ql
          have M4 := M3.put k (min fi fk)
          clear M3 M2
          refine wpW_det (t' := ?ct26R43) 26 (by rfl) (by kernel_rfl) (NQ_free _) (by kernel_rfl) ?cw26R43 ?ch26R43 ?ca26R43 (Eq.refl _) ?cH26R43
          case cw26R43 => (go_simp; done)
          case ch26R43 =>
            intro ds w' hS K hK
            have hc := (ocell hS).1
            have hf := (ocell hS).2
            have hz := hS.size
            try simp at hz
            go_simp
            try go_bits
            first
              | exact hK _ hS (Gr.refl _)
              | exact hK _ (by repeat (first | (with_reducible exact Below.refl _ _) | (with_reducible assumption) | ((with_reducible refine Below.setCell ?_ ?_ _); rotate_left; · (first | exact Nat.le_refl _ | (simp; done) | (simp; omega) | omega)) | ((with_reducible refine Below.alloc ?_ ?_ _); rotate_left; · (first | exact Nat.le_refl _ | (simp; done) | (simp; omega) | omega)) | (with_reducible apply Below.drew) | (with_reducible apply below_drewN') | (refine Below.trans ?_ (Below.mono (by assumption) (by first | exact Nat.le_refl _ | (simp; done) | (simp; omega) | omega))) | exact Below.refl _ _ | assumption)) (by repeat (first | (with_reducible exact Below.refl _ _) | (with_reducible assumption) | ((with_reducible refine Below.setCell ?_ ?_ _); rotate_left; · (first | exact Nat.le_refl _ | (simp; done) | (simp; omega) | omega)) | ((with_reducible refine Below.alloc ?_ ?_ _); rotate_left; · (first | exact Nat.le_refl _ | (simp; done) | (simp; omega) | omega)) | (with_reducible apply Below.drew) | (with_reducible apply below_drewN') | (refine Below.trans ?_ (Below.mono (by assumption) (by first | exact Nat.le_refl _ | (simp; done) | (simp; omega) | omega))) | exact Below.refl _ _ | assumption))
          case ca26R43 => (first | (simp [Act.put]; done) | (simp [Act.put, *]; done))
          try dsimp only
          refine wpW_end (by kernel_rfl) ?_
          intro we hg hS
          unfold NQ
          dsimp only
          exact H.out _ _ _ _ _ _ _ _ _ _ _ _ _ _ _ _ _ _ _ _ _ _ _ _ we (M4.gr hg)
      · refine wpOp_go (by rfl) (Eq.refl _) (by go_simp; done) ?_
        intro K hK
        go_simp
        try simp only [Act.put]
        refine hK _ _ hS3 ?_
        clear hK K q0 q1 ql
        refine wpW_branch [16] (by kernel_rfl) (by simp) ?_
        intro w4 hg4 hS4
        replace M := M.gr hg4
        have q0 := M.cell HI.out
        have q1 := M.cell HK.out
        have ql := M.lt
        refine each_cons ?_ (each_nil)
        · refine wpOp_go (by rfl) (Eq.refl _) (by go_simp; done) ?_
          intro K hK
          go_simp
          try simp only [Act.put]
          refine hK _ _ hS4 ?_
          clear hK K q0 q1 ql
          refine wpW_det (t' := ?ct21R44) 21 (by rfl) (by kernel_rfl) (NQ_free _) (by kernel_rfl) ?cw21R44 ?ch21R44 ?ca21R44 (Eq.refl _) ?cH21R44
          case cw21R44 => (go_simp; done)
          case ch21R44 =>
            intro ds w' hS K hK
            have hc := (ocell hS).1
            have hf := (ocell hS).2
            have hz := hS.size
            try simp at hz
            go_simp
            try go_bits
            first
              | exact hK _ hS (Gr.refl _)
              | exact hK _ (by repeat (first | (with_reducible exact Below.refl _ _) | (with_reducible assumption) | ((with_reducible refine Below.setCell ?_ ?_ _); rotate_left; · (first | exact Nat.le_refl _ | (simp; done) | (simp; omega) | omega)) | ((with_reducible refine Below.alloc ?_ ?_ _); rotate_left; · (first | exact Nat.le_refl _ | (simp; done) | (simp; omega) | omega)) | (with_reducible apply Below.drew) | (with_reducible apply below_drewN') | (refine Below.trans ?_ (Below.mono (by assumption) (by first | exact Nat.le_refl _ | (simp; done) | (simp; omega) | omega))) | exact Below.refl _ _ | assumption)) (by repeat (first | (with_reducible exact Below.refl _ _) | (with_reducible assumption) | ((with_reducible refine Below.setCell ?_ ?_ _); rotate_left; · (first | exact Nat.le_refl _ | (simp; done) | (simp; omega) | omega)) | ((with_reducible refine Below.alloc ?_ ?_ _); rotate_left; · (first | exact Nat.le_refl _ | (simp; done) | (simp; omega) | omega)) | (with_reducible apply Below.drew) | (with_reducible apply below_drewN') | (refine Below.trans ?_ (Below.mono (by assumption) (by first | exact Nat.le_refl _ | (simp; done) | (simp; omega) | omega))) | exact Below.refl _ _ | assumption))
          case ca21R44 => (first | (simp [Act.put]; done) | (simp [Act.put, *]; done))
          try dsimp only
          refine wpW_det (t' := ?ct22R45) 22 (by rfl) (by kernel_rfl) (NQ_free _) (by kernel_rfl) ?cw22R45 ?ch22R45 ?ca22R45 (Eq.refl _) ?cH22R45
          case cw22R45 => (go_simp; done)
          case ch22R45 =>
            intro ds w' hS K hK
            have hc := (ocell hS).1
            have hf := (ocell hS).2
            have hz := hS.size
            try simp at hz
            go_simp
            try go_bits
            first
              | exact hK _ hS (Gr.refl _)
              | exact hK _ (by repeat (first | (with_reducible exact Below.refl _ _) | (with_reducible assumption) | ((with_reducible refine Below.setCell ?_ ?_ _); rotate_left; · (first | exact Nat.le_refl _ | (simp; done) | (simp; omega) | omega)) | ((with_reducible refine Below.alloc ?_ ?_ _); rotate_left; · (first | exact Nat.le_refl _ | (simp; done) | (simp; omega) | omega)) | (with_reducible apply Below.drew) | (with_reducible apply below_drewN') | (refine Below.trans ?_ (Below.mono (by assumption) (by first | exact Nat.le_refl _ | (simp; done) | (simp; omega) | omega))) | exact Below.refl _ _ | assumption)) (by repeat (first | (with_reducible exact Below.refl _ _) | (with_reducible assumption) | ((with_reducible refine Below.setCell ?_ ?_ _); rotate_left; · (first | exact Nat.le_refl _ | (simp; done) | (simp; omega) | omega)) | ((with_reducible refine Below.alloc ?_ ?_ _); rotate_left; · (first | exact Nat.le_refl _ | (simp; done) | (simp; omega) | omega)) | (with_reducible apply Below.drew) | (with_reducible apply below_drewN') | (refine Below.trans ?_ (Below.mono (by assumption) (by first | exact Nat.le_refl _ | (simp; done) | (simp; omega) | omega))) | exact Below.refl _ _ | assumption))
          case ca22R45 => (first | (simp [Act.put]; done) | (simp [Act.put, *]; done))
          try dsimp only
          refine wpW_branch [23] (by kernel_rfl) (by simp) ?_
          intro v1 hg_v1 hS_v1
          have M1 := M.gr hg_v1
          have q0 := M1.cell HI.out
          have qf := M1.frozen i
          have ql := M1.lt
          refine each_cons ?_ each_nil
          refine wpOp_go (by rfl) (Eq.refl _) (by go_simp; done) ?_
          intro K hK
          go_simp
          try simp only [Act.put]
          refine hK _ _ (by have := hS_v1; rw [HRW.out] at this ⊢; exact only_setCell this (.inl rfl) _) ?_
          clear hK K q0 qf ql
          have M2 := M1.put i (min fi fk)
          clear M1
          refine wpW_det (t' := ?ct24R46) 24 (by rfl) (by kernel_rfl) (NQ_free _) (by kernel_rfl) ?cw24R46 ?ch24R46 ?ca24R46 (Eq.refl _) ?cH24R46
          case cw24R46 => (go_simp; done)
          case ch24R46 =>
            intro ds w' hS K hK
            have hc := (ocell hS).1
            have hf := (ocell hS).2
            have hz := hS.size
            try simp at hz
            go_simp
            try go_bits
            first
              | exact hK _ hS (Gr.refl _)
              | exact hK _ (by repeat (first | (with_reducible exact Below.refl _ _) | (with_reducible assumption) | ((with_reducible refine Below.setCell ?_ ?_ _); rotate_left; · (first | exact Nat.le_refl _ | (simp; done) | (simp; omega) | omega)) | ((with_reducible refine Below.alloc ?_ ?_ _); rotate_left; · (first | exact Nat.le_refl _ | (simp; done) | (simp; omega) | omega)) | (with_reducible apply Below.drew) | (with_reducible apply below_drewN') | (refine Below.trans ?_ (Below.mono (by assumption) (by first | exact Nat.le_refl _ | (simp; done) | (simp; omega) | omega))) | exact Below.refl _ _ | assumption)) (by repeat (first | (with_reducible exact Below.refl _ _) | (with_reducible assumption) | ((with_reducible refine Below.setCell ?_ ?_ _); rotate_left; · (first | exact Nat.le_refl _ | (simp; done) | (simp; omega) | omega)) | ((with_reducible refine Below.alloc ?_ ?_ _); rotate_left; · (first | exact Nat.le_refl _ | (simp; done) | (simp; omega) | omega)) | (with_reducible apply Below.drew) | (with_reducible apply below_drewN') | (refine Below.trans ?_ (Below.mono (by assumption) (by first | exact Nat.le_refl _ | (simp; done) | (simp; omega) | omega))) | exact Below.refl _ _ | assumption))
          case ca24R46 => (first | (simp [Act.put]; done) | (simp [Act.put, *]; done))
          try dsimp only
          refine wpW_branch [25] (by kernel_rfl) (by simp) ?_
          intro v2 hg_v2 hS_v2
          have M3 := M2.gr hg_v2
          have q1 := M3.cell (k := k) (x := fk) (by rw [List.getElem?_set_ne (by omega)]; exact HK.out)
          have qf := M3.frozen k
          have ql := M3.lt
          refine each_cons ?_ each_nil
          refine wpOp_go (by rfl) (Eq.refl _) (by go_simp; done) ?_
          intro K hK
          go_simp
          try simp only [Act.put]
          refine hK _ _ (by have := hS_v2; rw [HRW.out] at this ⊢; exact only_setCell this (.inl rfl) _) ?_
          clear hK K q1 qf ql
          have M4 := M3.put k (min fi fk)
          clear M3 M2
          refine wpW_det (t' := ?ct26R47) 26 (by rfl) (by kernel_rfl) (NQ_free _) (by kernel_rfl) ?cw26R47 ?ch26R47 ?ca26R47 (Eq.refl _) ?cH26R47
          case cw26R47 => (go_simp; done)
          case ch26R47 =>
            intro ds w' hS K hK
            have hc := (ocell hS).1
            have hf := (ocell hS).2
            have hz := hS.size
            try simp at hz
            go_simp
            try go_bits
            first
              | exact hK _ hS (Gr.refl _)
              | exact hK _ (by repeat (first | (with_reducible exact Below.refl _ _) | (with_reducible assumption) | ((with_reducible refine Below.setCell ?_ ?_ _); rotate_left; · (first | exact Nat.le_refl _ | (simp; done) | (simp; omega) | omega)) | ((with_reducible refine Below.alloc ?_ ?_ _); rotate_left; · (first | exact Nat.le_refl _ | (simp; done) | (simp; omega) | omega)) | (with_reducible apply Below.drew) | (with_reducible apply below_drewN') | (refine Below.trans ?_ (Below.mono (by assumption) (by first | exact Nat.le_refl _ | (simp; done) | (simp; omega) | omega))) | exact Below.refl _ _ | assumption)) (by repeat (first | (with_reducible exact Below.refl _ _) | (with_reducible assumption) | ((with_reducible refine Below.setCell ?_ ?_ _); rotate_left; · (first | exact Nat.le_refl _ | (simp; done) | (simp; omega) | omega)) | ((with_reducible refine Below.alloc ?_ ?_ _); rotate_left; · (first | exact Nat.le_refl _ | (simp; done) | (simp; omega) | omega)) | (with_reducible apply Below.drew) | (with_reducible apply below_drewN') | (refine Below.trans ?_ (Below.mono (by assumption) (by first | exact Nat.le_refl _ | (simp; done) | (simp; omega) | omega))) | exact Below.refl _ _ | assumption))
          case ca26R47 => (first | (simp [Act.put]; done) | (simp [Act.put, *]; done))
          try dsimp only
          refine wpW_end (by kernel_rfl) ?_
          intro we hg hS
          unfold NQ
          dsimp only
          exact H.out _ _ _ _ _ _ _ _ _ _ _ _ _ _ _ _ _ _ _ _ _ _ _ _ we (M4.gr hg)
    · refine wpOp_go (by rfl) (Eq.refl _) (by go_simp; done) ?_
      intro K hK
      go_simp
      try simp only [Act.put]
      refine hK _ _ hS2 ?_
      clear hK K q0 q1 ql
      refine wpW_branch [7, 20] (by kernel_rfl) (by simp) ?_
      intro w3 hg3 hS3
      replace M := M.gr hg3
      have q0 := M.cell HI.out
      have q1 := M.cell HK.out
      have ql := M.lt
      refine each_cons ?_ (each_cons ?_ (each_nil))
      · refine wpOp_go (by rfl) (Eq.refl _) (by go_simp; done) ?_
        intro K hK
        go_simp
        try simp only [Act.put]
        refine hK _ _ hS3 ?_
        clear hK K q0 q1 ql
        refine wpW_det (t' := ?ct12R48) 12 (by rfl) (by kernel_rfl) (NQ_free _) (by kernel_rfl) ?cw12R48 ?ch12R48 ?ca12R48 (Eq.refl _) ?cH12R48
        case cw12R48 => (go_simp; done)
        case ch12R48 =>
          intro ds w' hS K hK
          have hc := (ocell hS).1
          have hf := (ocell hS).2
          have hz := hS.size
          try simp at hz
          go_simp
          try go_bits
          first
            | exact hK _ hS (Gr.refl _)
            | exact hK _ (by repeat (first | (with_reducible exact Below.refl _ _) | (with_reducible assumption) | ((with_reducible refine Below.setCell ?_ ?_ _); rotate_left; · (first | exact Nat.le_refl _ | (simp; done) | (simp; omega) | omega)) | ((with_reducible refine Below.alloc ?_ ?_ _); rotate_left; · (first | exact Nat.le_refl _ | (simp; done) | (simp; omega) | omega)) | (with_reducible apply Below.drew) | (with_reducible apply below_drewN') | (refine Below.trans ?_ (Below.mono (by assumption) (by first | exact Nat.le_refl _ | (simp; done) | (simp; omega) | omega))) | exact Below.refl _ _ | assumption)) (by repeat (first | (with_reducible exact Below.refl _ _) | (with_reducible assumption) | ((with_reducible refine Below.setCell ?_ ?_ _); rotate_left; · (first | exact Nat.le_refl _ | (simp; done) | (simp; omega) | omega)) | ((with_reducible refine Below.alloc ?_ ?_ _); rotate_left; · (first | exact Nat.le_refl _ | (simp; done) | (simp; omega) | omega)) | (with_reducible apply Below.drew) | (with_reducible apply below_drewN') | (refine Below.trans ?_ (Below.mono (by assumption) (by first | exact Nat.le_refl _ | (simp; done) | (simp; omega) | omega))) | exact Below.refl _ _ | assumption))
        case ca12R48 => (first | (simp [Act.put]; done) | (simp [Act.put, *]; done))
        try dsimp only
        refine wpW_branch [20] (by kernel_rfl) (by simp) ?_
        intro w4 hg4 hS4
        replace M := M.gr hg4
        have q0 := M.cell HI.out
        have q1 := M.cell HK.out
        have ql := M.lt
        refine each_cons ?_ (each_nil)
        · refine wpOp_go (by rfl) (Eq.refl _) (by go_simp; done) ?_
          intro K hK
          go_simp
          try simp only [Act.put]
          refine hK _ _ hS4 ?_
          clear hK K q0 q1 ql
          refine wpW_det (t' := ?ct21R49) 21 (by rfl) (by kernel_rfl) (NQ_free _) (by kernel_rfl) ?cw21R49 ?ch21R49 ?ca21R49 (Eq.refl _) ?cH21R49
          case cw21R49 => (go_simp; done)
          case ch21R49 =>
            intro ds w' hS K hK
            have hc := (ocell hS).1
            have hf := (ocell hS).2
            have hz := hS.size
            try simp at hz
            go_simp
            try go_bits
            first
              | exact hK _ hS (Gr.refl _)
              | exact hK _ (by repeat (first | (with_reducible exact Below.refl _ _) | (with_reducible assumption) | ((with_reducible refine Below.setCell ?_ ?_ _); rotate_left; · (first | exact Nat.le_refl _ | (simp; done) | (simp; omega) | omega)) | ((with_reducible refine Below.alloc ?_ ?_ _); rotate_left; · (first | exact Nat.le_refl _ | (simp; done) | (simp; omega) | omega)) | (with_reducible apply Below.drew) | (with_reducible apply below_drewN') | (refine Below.trans ?_ (Below.mono (by assumption) (by first | exact Nat.le_refl _ | (simp; done) | (simp; omega) | omega))) | exact Below.refl _ _ | assumption)) (by repeat (first | (with_reducible exact Below.refl _ _) | (with_reducible assumption) | ((with_reducible refine Below.setCell ?_ ?_ _); rotate_left; · (first | exact Nat.le_refl _ | (simp; done) | (simp; omega) | omega)) | ((with_reducible refine Below.alloc ?_ ?_ _); rotate_left; · (first | exact Nat.le_refl _ | (simp; done) | (simp; omega) | omega)) | (with_reducible apply Below.drew) | (with_reducible apply below_drewN') | (refine Below.trans ?_ (Below.mono (by assumption) (by first | exact Nat.le_refl _ | (simp; done) | (simp; omega) | omega))) | exact Below.refl _ _ | assumption))
          case ca21R49 => (first | (simp [Act.put]; done) | (simp [Act.put, *]; done))
          try dsimp only
          refine wpW_det (t' := ?ct22R50) 22 (by rfl) (by kernel_rfl) (NQ_free _) (by kernel_rfl) ?cw22R50 ?ch22R50 ?ca22R50 (Eq.refl _) ?cH22R50
          case cw22R50 => (go_simp; done)
          case ch22R50 =>
            intro ds w' hS K hK
            have hc := (ocell hS).1
            have hf := (ocell hS).2
            have hz := hS.size
            try simp at hz
            go_simp
            try go_bits
            first
              | exact hK _ hS (Gr.refl _)
              | exact hK _ (by repeat (first | (with_reducible exact Below.refl _ _) | (with_reducible assumption) | ((with_reducible refine Below.setCell ?_ ?_ _); rotate_left; · (first | exact Nat.le_refl _ | (simp; done) | (simp; omega) | omega)) | ((with_reducible refine Below.alloc ?_ ?_ _); rotate_left; · (first | exact Nat.le_refl _ | (simp; done) | (simp; omega) | omega)) | (with_reducible apply Below.drew) | (with_reducible apply below_drewN') | (refine Below.trans ?_ (Below.mono (by assumption) (by first | exact Nat.le_refl _ | (simp; done) | (simp; omega) | omega))) | exact Below.refl _ _ | assumption)) (by repeat (first | (with_reducible exact Below.refl _ _) | (with_reducible assumption) | ((with_reducible refine Below.setCell ?_ ?_ _); rotate_left; · (first | exact Nat.le_refl _ | (simp; done) | (simp; omega) | omega)) | ((with_reducible refine Below.alloc ?_ ?_ _); rotate_left; · (first | exact Nat.le_refl _ | (simp; done) | (simp; omega) | omega)) | (with_reducible apply Below.drew) | (with_reducible apply below_drewN') | (refine Below.trans ?_ (Below.mono (by assumption) (by first | exact Nat.le_refl _ | (simp; done) | (simp; omega) | omega))) | exact Below.refl _ _ | assumption))
          case ca22R50 => (first | (simp [Act.put]; done) | (simp [Act.put, *]; done))
          try dsimp only
          refine wpW_branch [23] (by kernel_rfl) (by simp) ?_
          intro v1 hg_v1 hS_v1
          have M1 := M.gr hg_v1
          have q0 := M1.cell HI.out
          have qf := M1.frozen i
          have ql := M1.lt
          refine each_cons ?_ each_nil
          refine wpOp_go (by rfl) (Eq.refl _) (by go_simp; done) ?_
          intro K hK
          go_simp
          try simp only [Act.put]
          refine hK _ _ (by have := hS_v1; rw [HRW.out] at this ⊢; exact only_setCell this (.inl rfl) _) ?_
          clear hK K q0 qf ql
          have M2 := M1.put i (min fi fk)
          clear M1
          refine wpW_det (t' := ?ct24R51) 24 (by rfl) (by kernel_rfl) (NQ_free _) (by kernel_rfl) ?cw24R51 ?ch24R51 ?ca24R51 (Eq.refl _) ?cH24R51
          case cw24R51 => (go_simp; done)
          case ch24R51 =>
            intro ds w' hS K hK
            have hc := (ocell hS).1
            have hf := (ocell hS).2
            have hz := hS.size
            try simp at hz
            go_simp
            try go_bits
            first
              | exact hK _ hS (Gr.refl _)
              | exact hK _ (by repeat (first | (with_reducible exact Below.refl _ _) | (with_reducible assumption) | ((with_reducible refine Below.setCell ?_ ?_ _); rotate_left; · (first | exact Nat.le_refl _ | (simp; done) | (simp; omega) | omega)) | ((with_reducible refine Below.alloc ?_ ?_ _); rotate_left; · (first | exact Nat.le_refl _ | (simp; done) | (simp; omega) | omega)) | (with_reducible apply Below.drew) | (with_reducible apply below_drewN') | (refine Below.trans ?_ (Below.mono (by assumption) (by first | exact Nat.le_refl _ | (simp; done) | (simp; omega) | omega))) | exact Below.refl _ _ | assumption)) (by repeat (first | (with_reducible exact Below.refl _ _) | (with_reducible assumption) | ((with_reducible refine Below.setCell ?_ ?_ _); rotate_left; · (first | exact Nat.le_refl _ | (simp; done) | (simp; omega) | omega)) | ((with_reducible refine Below.alloc ?_ ?_ _); rotate_left; · (first | exact Nat.le_refl _ | (simp; done) | (simp; omega) | omega)) | (with_reducible apply Below.drew) | (with_reducible apply below_drewN') | (refine Below.trans ?_ (Below.mono (by assumption) (by first | exact Nat.le_refl _ | (simp; done) | (simp; omega) | omega))) | exact Below.refl _ _ | assumption))
          case ca24R51 => (first | (simp [Act.put]; done) | (simp [Act.put, *]; done))
          try dsimp only
          refine wpW_branch [25] (by kernel_rfl) (by simp) ?_
          intro v2 hg_v2 hS_v2
          have M3 := M2.gr hg_v2
          have q1 := M3.cell (k := k) (x := fk) (by rw [List.getElem?_set_ne (by omega)]; exact HK.out)
          have qf := M3.frozen k
          have ql := M3.lt
          refine each_cons ?_ each_nil
          refine wpOp_go (by rfl) (Eq.refl _) (by go_simp; done) ?_
          intro K hK
          go_simp
          try simp only [Act.put]
          refine hK _ _ (by have := hS_v2; rw [HRW.out] at this ⊢; exact only_setCell this (.inl rfl) _) ?_
          clear hK K q1 qf ql
          have M4 := M3.put k (min fi fk)
          clear M3 M2
          refine wpW_det (t' := ?ct26R52) 26 (by rfl) (by kernel_rfl) (NQ_free _) (by kernel_rfl) ?cw26R52 ?ch26R52 ?ca26R52 (Eq.refl _) ?cH26R52
          case cw26R52 => (go_simp; done)
          case ch26R52 =>
            intro ds w' hS K hK
            have hc := (ocell hS).1
            have hf := (ocell hS).2
            have hz := hS.size
            try simp at hz
            go_simp
            try go_bits
            first
              | exact hK _ hS (Gr.refl _)
              | exact hK _ (by repeat (first | (with_reducible exact Below.refl _ _) | (with_reducible assumption) | ((with_reducible refine Below.setCell ?_ ?_ _); rotate_left; · (first | exact Nat.le_refl _ | (simp; done) | (simp; omega) | omega)) | ((with_reducible refine Below.alloc ?_ ?_ _); rotate_left; · (first | exact Nat.le_refl _ | (simp; done) | (simp; omega) | omega)) | (with_reducible apply Below.drew) | (with_reducible apply below_drewN') | (refine Below.trans ?_ (Below.mono (by assumption) (by first | exact Nat.le_refl _ | (simp; done) | (simp; omega) | omega))) | exact Below.refl _ _ | assumption)) (by repeat (first | (with_reducible exact Below.refl _ _) | (with_reducible assumption) | ((with_reducible refine Below.setCell ?_ ?_ _); rotate_left; · (first | exact Nat.le_refl _ | (simp; done) | (simp; omega) | omega)) | ((with_reducible refine Below.alloc ?_ ?_ _); rotate_left; · (first | exact Nat.le_refl _ | (simp; done) | (simp; omega) | omega)) | (with_reducible apply Below.drew) | (with_reducible apply below_drewN') | (refine Below.trans ?_ (Below.mono (by assumption) (by first | exact Nat.le_refl _ | (simp; done) | (simp; omega) | omega))) | exact Below.refl _ _ | assumption))
          case ca26R52 => (first | (simp [Act.put]; done) | (simp [Act.put, *]; done))
          try dsimp only
          refine wpW_end (by kernel_rfl) ?_
          intro we hg hS
          unfold NQ
          dsimp only
          exact H.out _ _ _ _ _ _ _ _ _ _ _ _ _ _ _ _ _ _ _ _ _ _ _ _ we (M4.gr hg)
      · refine wpOp_go (by rfl) (Eq.refl _) (by go_simp; done) ?_
        intro K hK
        go_simp
        try simp only [Act.put]
        refine hK _ _ hS3 ?_
        clear hK K q0 q1 ql
        refine wpW_det (t' := ?ct21R53) 21 (by rfl) (by kernel_rfl) (NQ_free _) (by kernel_rfl) ?cw21R53 ?ch21R53 ?ca21R53 (Eq.refl _) ?cH21R53
        case cw21R53 => (go_simp; done)
        case ch21R53 =>
          intro ds w' hS K hK
          have hc := (ocell hS).1
          have hf := (ocell hS).2
          have hz := hS.size
          try simp at hz
          go_simp
          try go_bits
          first
            | exact hK _ hS (Gr.refl _)
            | exact hK _ (by repeat (first | (with_reducible exact Below.refl _ _) | (with_reducible assumption) | ((with_reducible refine Below.setCell ?_ ?_ _); rotate_left; · (first | exact Nat.le_refl _ | (simp; done) | (simp; omega) | omega)) | ((with_reducible refine Below.alloc ?_ ?_ _); rotate_left; · (first | exact Nat.le_refl _ | (simp; done) | (simp; omega) | omega)) | (with_reducible apply Below.drew) | (with_reducible apply below_drewN') | (refine Below.trans ?_ (Below.mono (by assumption) (by first | exact Nat.le_refl _ | (simp; done) | (simp; omega) | omega))) | exact Below.refl _ _ | assumption)) (by repeat (first | (with_reducible exact Below.refl _ _) | (with_reducible assumption) | ((with_reducible refine Below.setCell ?_ ?_ _); rotate_left; · (first | exact Nat.le_refl _ | (simp; done) | (simp; omega) | omega)) | ((with_reducible refine Below.alloc ?_ ?_ _); rotate_left; · (first | exact Nat.le_refl _ | (simp; done) | (simp; omega) | omega)) | (with_reducible apply Below.drew) | (with_reducible apply below_drewN') | (refine Below.trans ?_ (Below.mono (by assumption) (by first | exact Nat.le_refl _ | (simp; done) | (simp; omega) | omega))) | exact Below.refl _ _ | assumption))
        case ca21R53 => (first | (simp [Act.put]; done) | (simp [Act.put, *]; done))
        try dsimp only
        refine wpW_branch [7] (by kernel_rfl) (by simp) ?_
        intro w4 hg4 hS4
        replace M := M.gr hg4
        have q0 := M.cell HI.out
        have q1 := M.cell HK.out
        have ql := M.lt
        refine each_cons ?_ (each_nil)
        · refine wpOp_go (by rfl) (Eq.refl _) (by go_simp; done) ?_
          intro K hK
          go_simp
          try simp only [Act.put]
          refine hK _ _ hS4 ?_
          clear hK K q0 q1 ql
          refine wpW_det (t' := ?ct12R54) 12 (by rfl) (by kernel_rfl) (NQ_free _) (by kernel_rfl) ?cw12R54 ?ch12R54 ?ca12R54 (Eq.refl _) ?cH12R54
          case cw12R54 => (go_simp; done)
          case ch12R54 =>
            intro ds w' hS K hK
            have hc := (ocell hS).1
            have hf := (ocell hS).2
            have hz := hS.size
            try simp at hz
            go_simp
            try go_bits
            first
              | exact hK _ hS (Gr.refl _)
              | exact hK _ (by repeat (first | (with_reducible exact Below.refl _ _) | (with_reducible assumption) | ((with_reducible refine Below.setCell ?_ ?_ _); rotate_left; · (first | exact Nat.le_refl _ | (simp; done) | (simp; omega) | omega)) | ((with_reducible refine Below.alloc ?_ ?_ _); rotate_left; · (first | exact Nat.le_refl _ | (simp; done) | (simp; omega) | omega)) | (with_reducible apply Below.drew) | (with_reducible apply below_drewN') | (refine Below.trans ?_ (Below.mono (by assumption) (by first | exact Nat.le_refl _ | (simp; done) | (simp; omega) | omega))) | exact Below.refl _ _ | assumption)) (by repeat (first | (with_reducible exact Below.refl _ _) | (with_reducible assumption) | ((with_reducible refine Below.setCell ?_ ?_ _); rotate_left; · (first | exact Nat.le_refl _ | (simp; done) | (simp; omega) | omega)) | ((with_reducible refine Below.alloc ?_ ?_ _); rotate_left; · (first | exact Nat.le_refl _ | (simp; done) | (simp; omega) | omega)) | (with_reducible apply Below.drew) | (with_reducible apply below_drewN') | (refine Below.trans ?_ (Below.mono (by assumption) (by first | exact Nat.le_refl _ | (simp; done) | (simp; omega) | omega))) | exact Below.refl _ _ | assumption))
          case ca12R54 => (first | (simp [Act.put]; done) | (simp [Act.put, *]; done))
          try dsimp only
          refine wpW_det (t' := ?ct22R55) 22 (by rfl) (by kernel_rfl) (NQ_free _) (by kernel_rfl) ?cw22R55 ?ch22R55 ?ca22R55 (Eq.refl _) ?cH22R55
          case cw22R55 => (go_simp; done)
          case ch22R55 =>
            intro ds w' hS K hK
            have hc := (ocell hS).1
            have hf := (ocell hS).2
            have hz := hS.size
            try simp at hz
            go_simp
            try go_bits
            first
              | exact hK _ hS (Gr.refl _)
              | exact hK _ (by repeat (first | (with_reducible exact Below.refl _ _) | (with_reducible assumption) | ((with_reducible refine Below.setCell ?_ ?_ _); rotate_left; · (first | exact Nat.le_refl _ | (simp; done) | (simp; omega) | omega)) | ((with_reducible refine Below.alloc ?_ ?_ _); rotate_left; · (first | exact Nat.le_refl _ | (simp; done) | (simp; omega) | omega)) | (with_reducible apply Below.drew) | (with_reducible apply below_drewN') | (refine Below.trans ?_ (Below.mono (by assumption) (by first | exact Nat.le_refl _ | (simp; done) | (simp; omega) | omega))) | exact Below.refl _ _ | assumption)) (by repeat (first | (with_reducible exact Below.refl _ _) | (with_reducible assumption) | ((with_reducible refine Below.setCell ?_ ?_ _); rotate_left; · (first | exact Nat.le_refl _ | (simp; done) | (simp; omega) | omega)) | ((with_reducible refine Below.alloc ?_ ?_ _); rotate_left; · (first | exact Nat.le_refl _ | (simp; done) | (simp; omega) | omega)) | (with_reducible apply Below.drew) | (with_reducible apply below_drewN') | (refine Below.trans ?_ (Below.mono (by assumption) (by first | exact Nat.le_refl _ | (simp; done) | (simp; omega) | omega))) | exact Below.refl _ _ | assumption))
          case ca22R55 => (first | (simp [Act.put]; done) | (simp [Act.put, *]; done))
          try dsimp only
          refine wpW_branch [23] (by kernel_rfl) (by simp) ?_
          intro v1 hg_v1 hS_v1
          have M1 := M.gr hg_v1
          have q0 := M1.cell HI.out
          have qf := M1.frozen i
          have ql := M1.lt
          refine each_cons ?_ each_nil
          refine wpOp_go (by rfl) (Eq.refl _) (by go_simp; done) ?_
          intro K hK
          go_simp
          try simp only [Act.put]
          refine hK _ _ (by have := hS_v1; rw [HRW.out] at this ⊢; exact only_setCell this (.inl rfl) _) ?_
          clear hK K q0 qf ql
          have M2 := M1.put i (min fi fk)
          clear M1
          refine wpW_det (t' := ?ct24R56) 24 (by rfl) (by kernel_rfl) (NQ_free _) (by kernel_rfl) ?cw24R56 ?ch24R56 ?ca24R56 (Eq.refl _) ?cH24R56
          case cw24R56 => (go_simp; done)
          case ch24R56 =>
            intro ds w' hS K hK
            have hc := (ocell hS).1
            have hf := (ocell hS).2
            have hz := hS.size
            try simp at hz
            go_simp
            try go_bits
            first
              | exact hK _ hS (Gr.refl _)
              | exact hK _ (by repeat (first | (with_reducible exact Below.refl _ _) | (with_reducible assumption) | ((with_reducible refine Below.setCell ?_ ?_ _); rotate_left; · (first | exact Nat.le_refl _ | (simp; done) | (simp; omega) | omega)) | ((with_reducible refine Below.alloc ?_ ?_ _); rotate_left; · (first | exact Nat.le_refl _ | (simp; done) | (simp; omega) | omega)) | (with_reducible apply Below.drew) | (with_reducible apply below_drewN') | (refine Below.trans ?_ (Below.mono (by assumption) (by first | exact Nat.le_refl _ | (simp; done) | (simp; omega) | omega))) | exact Below.refl _ _ | assumption)) (by repeat (first | (with_reducible exact Below.refl _ _) | (with_reducible assumption) | ((with_reducible refine Below.setCell ?_ ?_ _); rotate_left; · (first | exact Nat.le_refl _ | (simp; done) | (simp; omega) | omega)) | ((with_reducible refine Below.alloc ?_ ?_ _); rotate_left; · (first | exact Nat.le_refl _ | (simp; done) | (simp; omega) | omega)) | (with_reducible apply Below.drew) | (with_reducible apply below_drewN') | (refine Below.trans ?_ (Below.mono (by assumption) (by first | exact Nat.le_refl _ | (simp; done) | (simp; omega) | omega))) | exact Below.refl _ _ | assumption))
          case ca24R56 => (first | (simp [Act.put]; done) | (simp [Act.put, *]; done))
          try dsimp only
          refine wpW_branch [25] (by kernel_rfl) (by simp) ?_
          intro v2 hg_v2 hS_v2
          have M3 := M2.gr hg_v2
          have q1 := M3.cell (k := k) (x := fk) (by rw [List.getElem?_set_ne (by omega)]; exact HK.out)
          have qf := M3.frozen k
          have ql := M3.lt
          refine each_cons ?_ each_nil
          refine wpOp_go (by rfl) (Eq.refl _) (by go_simp; done) ?_
          intro K hK
          go_simp
          try simp only [Act.put]
          refine hK _ _ (by have := hS_v2; rw [HRW.out] at this ⊢; exact only_setCell this (.inl rfl) _) ?_
          clear hK K q1 qf ql
          have M4 := M3.put k (min fi fk)
          clear M3 M2
          refine wpW_det (t' := ?ct26R57) 26 (by rfl) (by kernel_rfl) (NQ_free _) (by kernel_rfl) ?cw26R57 ?ch26R57 ?ca26R57 (Eq.refl _) ?cH26R57
          case cw26R57 => (go_simp; done)
          case ch26R57 =>
            intro ds w' hS K hK
            have hc := (ocell hS).1
            have hf := (ocell hS).2
            have hz := hS.size
            try simp at hz
            go_simp
            try go_bits
            first
              | exact hK _ hS (Gr.refl _)
              | exact hK _ (by repeat (first | (with_reducible exact Below.refl _ _) | (with_reducible assumption) | ((with_reducible refine Below.setCell ?_ ?_ _); rotate_left; · (first | exact Nat.le_refl _ | (simp; done) | (simp; omega) | omega)) | ((with_reducible refine Below.alloc ?_ ?_ _); rotate_left; · (first | exact Nat.le_refl _ | (simp; done) | (simp; omega) | omega)) | (with_reducible apply Below.drew) | (with_reducible apply below_drewN') | (refine Below.trans ?_ (Below.mono (by assumption) (by first | exact Nat.le_refl _ | (simp; done) | (simp; omega) | omega))) | exact Below.refl _ _ | assumption)) (by repeat (first | (with_reducible exact Below.refl _ _) | (with_reducible assumption) | ((with_reducible refine Below.setCell ?_ ?_ _); rotate_left; · (first | exact Nat.le_refl _ | (simp; done) | (simp; omega) | omega)) | ((with_reducible refine Below.alloc ?_ ?_ _); rotate_left; · (first | exact Nat.le_refl _ | (simp; done) | (simp; omega) | omega)) | (with_reducible apply Below.drew) | (with_reducible apply below_drewN') | (refine Below.trans ?_ (Below.mono (by assumption) (by first | exact Nat.le_refl _ | (simp; done) | (simp; omega) | omega))) | exact Below.refl _ _ | assumption))
          case ca26R57 => (first | (simp [Act.put]; done) | (simp [Act.put, *]; done))
          try dsimp only
          refine wpW_end (by kernel_rfl) ?_
          intro we hg hS
          unfold NQ
          dsimp only
          exact H.out _ _ _ _ _ _ _ _ _ _ _ _ _ _ _ _ _ _ _ _ _ _ _ _ we (M4.gr hg)
    · refine wpOp_go (by rfl) (Eq.refl _) (by go_simp; done) ?_
      intro K hK
      go_simp
      try simp only [Act.put]
      refine hK _ _ hS2 ?_
      clear hK K q0 q1 ql
      refine wpW_branch [7, 16] (by kernel_rfl) (by simp) ?_
      intro w3 hg3 hS3
      replace M := M.gr hg3
      have q0 := M.cell HI.out
      have q1 := M.cell HK.out
      have ql := M.lt
      refine each_cons ?_ (each_cons ?_ (each_nil))
      · refine wpOp_go (by rfl) (Eq.refl _) (by go_simp; done) ?_
        intro K hK
        go_simp
        try simp only [Act.put]
        refine hK _ _ hS3 ?_
        clear hK K q0 q1 ql
        refine wpW_det (t' := ?ct12R58) 12 (by rfl) (by kernel_rfl) (NQ_free _) (by kernel_rfl) ?cw12R58 ?ch12R58 ?ca12R58 (Eq.refl _) ?cH12R58
        case cw12R58 => (go_simp; done)
        case ch12R58 =>
          intro ds w' hS K hK
          have hc := (ocell hS).1
          have hf := (ocell hS).2
          have hz := hS.size
          try simp at hz
          go_simp
          try go_bits
          first
            | exact hK _ hS (Gr.refl _)
            | exact hK _ (by repeat (first | (with_reducible exact Below.refl _ _) | (with_reducible assumption) | ((with_reducible refine Below.setCell ?_ ?_ _); rotate_left; · (first | exact Nat.le_refl _ | (simp; done) | (simp; omega) | omega)) | ((with_reducible refine Below.alloc ?_ ?_ _); rotate_left; · (first | exact Nat.le_refl _ | (simp; done) | (simp; omega) | omega)) | (with_reducible apply Below.drew) | (with_reducible apply below_drewN') | (refine Below.trans ?_ (Below.mono (by assumption) (by first | exact Nat.le_refl _ | (simp; done) | (simp; omega) | omega))) | exact Below.refl _ _ | assumption)) (by repeat (first | (with_reducible exact Below.refl _ _) | (with_reducible assumption) | ((with_reducible refine Below.setCell ?_ ?_ _); rotate_left; · (first | exact Nat.le_refl _ | (simp; done) | (simp; omega) | omega)) | ((with_reducible refine Below.alloc ?_ ?_ _); rotate_left; · (first | exact Nat.le_refl _ | (simp; done) | (simp; omega) | omega)) | (with_reducible apply Below.drew) | (with_reducible apply below_drewN') | (refine Below.trans ?_ (Below.mono (by assumption) (by first | exact Nat.le_refl _ | (simp; done) | (simp; omega) | omega))) | exact Below.refl _ _ | assumption))
        case ca12R58 => (first | (simp [Act.put]; done) | (simp [Act.put, *]; done))
        try dsimp only
        refine wpW_branch [16] (by kernel_rfl) (by simp) ?_
        intro w4 hg4 hS4
        replace M := M.gr hg4
        have q0 := M.cell HI.out
        have q1 := M.cell HK.out
        have ql := M.lt
        refine each_cons ?_ (each_nil)
        · refine wpOp_go (by rfl) (Eq.refl _) (by go_simp; done) ?_
          intro K hK
          go_simp
          try simp only [Act.put]
          refine hK _ _ hS4 ?_
          clear hK K q0 q1 ql
          refine wpW_det (t' := ?ct21R59) 21 (by rfl) (by kernel_rfl) (NQ_free _) (by kernel_rfl) ?cw21R59 ?ch21R59 ?ca21R59 (Eq.refl _) ?cH21R59
          case cw21R59 => (go_simp; done)
          case ch21R59 =>
            intro ds w' hS K hK
            have hc := (ocell hS).1
            have hf := (ocell hS).2
            have hz := hS.size
            try simp at hz
            go_simp
            try go_bits
            first
              | exact hK _ hS (Gr.refl _)
              | exact hK _ (by repeat (first | (with_reducible exact Below.refl _ _) | (with_reducible assumption) | ((with_reducible refine Below.setCell ?_ ?_ _); rotate_left; · (first | exact Nat.le_refl _ | (simp; done) | (simp; omega) | omega)) | ((with_reducible refine Below.alloc ?_ ?_ _); rotate_left; · (first | exact Nat.le_refl _ | (simp; done) | (simp; omega) | omega)) | (with_reducible apply Below.drew) | (with_reducible apply below_drewN') | (refine Below.trans ?_ (Below.mono (by assumption) (by first | exact Nat.le_refl _ | (simp; done) | (simp; omega) | omega))) | exact Below.refl _ _ | assumption)) (by repeat (first | (with_reducible exact Below.refl _ _) | (with_reducible assumption) | ((with_reducible refine Below.setCell ?_ ?_ _); rotate_left; · (first | exact Nat.le_refl _ | (simp; done) | (simp; omega) | omega)) | ((with_reducible refine Below.alloc ?_ ?_ _); rotate_left; · (first | exact Nat.le_refl _ | (simp; done) | (simp; omega) | omega)) | (with_reducible apply Below.drew) | (with_reducible apply below_drewN') | (refine Below.trans ?_ (Below.mono (by assumption) (by first | exact Nat.le_refl _ | (simp; done) | (simp; omega) | omega))) | exact Below.refl _ _ | assumption))
          case ca21R59 => (first | (simp [Act.put]; done) | (simp [Act.put, *]; done))
          try dsimp only
          refine wpW_det (t' := ?ct22R60) 22 (by rfl) (by kernel_rfl) (NQ_free _) (by kernel_rfl) ?cw22R60 ?ch22R60 ?ca22R60 (Eq.refl _) ?cH22R60
          case cw22R60 => (go_simp; done)
          case ch22R60 =>
            intro ds w' hS K hK
            have hc := (ocell hS).1
            have hf := (ocell hS).2
            have hz := hS.size
            try simp at hz
            go_simp
            try go_bits
            first
              | exact hK _ hS (Gr.refl _)
              | exact hK _ (by repeat (first | (with_reducible exact Below.refl _ _) | (with_reducible assumption) | ((with_reducible refine Below.setCell ?_ ?_ _); rotate_left; · (first | exact Nat.le_refl _ | (simp; done) | (simp; omega) | omega)) | ((with_reducible refine Below.alloc ?_ ?_ _); rotate_left; · (first | exact Nat.le_refl _ | (simp; done) | (simp; omega) | omega)) | (with_reducible apply Below.drew) | (with_reducible apply below_drewN') | (refine Below.trans ?_ (Below.mono (by assumption) (by first | exact Nat.le_refl _ | (simp; done) | (simp; omega) | omega))) | exact Below.refl _ _ | assumption)) (by repeat (first | (with_reducible exact Below.refl _ _) | (with_reducible assumption) | ((with_reducible refine Below.setCell ?_ ?_ _); rotate_left; · (first | exact Nat.le_refl _ | (simp; done) | (simp; omega) | omega)) | ((with_reducible refine Below.alloc ?_ ?_ _); rotate_left; · (first | exact Nat.le_refl _ | (simp; done) | (simp; omega) | omega)) | (with_reducible apply Below.drew) | (with_reducible apply below_drewN') | (refine Below.trans ?_ (Below.mono (by assumption) (by first | exact Nat.le_refl _ | (simp; done) | (simp; omega) | omega))) | exact Below.refl _ _ | assumption))
          case ca22R60 => (first | (simp [Act.put]; done) | (simp [Act.put, *]; done))
          try dsimp only
          refine wpW_branch [23] (by kernel_rfl) (by simp) ?_
          intro v1 hg_v1 hS_v1
          have M1 := M.gr hg_v1
          have q0 := M1.cell HI.out
          have qf := M1.frozen i
          have ql := M1.lt
          refine each_cons ?_ each_nil
          refine wpOp_go (by rfl) (Eq.refl _) (by go_simp; done) ?_
          intro K hK
          go_simp
          try simp only [Act.put]
          refine hK _ _ (by have := hS_v1; rw [HRW.out] at this ⊢; exact only_setCell this (.inl rfl) _) ?_
          clear hK K q0 qf ql
          have M2 := M1.put i (min fi fk)
          clear M1
          refine wpW_det (t' := ?ct24R61) 24 (by rfl) (by kernel_rfl) (NQ_free _) (by kernel_rfl) ?cw24R61 ?ch24R61 ?ca24R61 (Eq.refl _) ?cH24R61
          case cw24R61 => (go_simp; done)
          case ch24R61 =>
            intro ds w' hS K hK
            have hc := (ocell hS).1
            have hf := (ocell hS).2
            have hz := hS.size
            try simp at hz
            go_simp
            try go_bits
            first
              | exact hK _ hS (Gr.refl _)
              | exact hK _ (by repeat (first | (with_reducible exact Below.refl _ _) | (with_reducible assumption) | ((with_reducible refine Below.setCell ?_ ?_ _); rotate_left; · (first | exact Nat.le_refl _ | (simp; done) | (simp; omega) | omega)) | ((with_reducible refine Below.alloc ?_ ?_ _); rotate_left; · (first | exact Nat.le_refl _ | (simp; done) | (simp; omega) | omega)) | (with_reducible apply Below.drew) | (with_reducible apply below_drewN') | (refine Below.trans ?_ (Below.mono (by assumption) (by first | exact Nat.le_refl _ | (simp; done) | (simp; omega) | omega))) | exact Below.refl _ _ | assumption)) (by repeat (first | (with_reducible exact Below.refl _ _) | (with_reducible assumption) | ((with_reducible refine Below.setCell ?_ ?_ _); rotate_left; · (first | exact Nat.le_refl _ | (simp; done) | (simp; omega) | omega)) | ((with_reducible refine Below.alloc ?_ ?_ _); rotate_left; · (first | exact Nat.le_refl _ | (simp; done) | (simp; omega) | omega)) | (with_reducible apply Below.drew) | (with_reducible apply below_drewN') | (refine Below.trans ?_ (Below.mono (by assumption) (by first | exact Nat.le_refl _ | (simp; done) | (simp; omega) | omega))) | exact Below.refl _ _ | assumption))
          case ca24R61 => (first | (simp [Act.put]; done) | (simp [Act.put, *]; done))
          try dsimp only
          refine wpW_branch [25] (by kernel_rfl) (by simp) ?_
          intro v2 hg_v2 hS_v2
          have M3 := M2.gr hg_v2
          have q1 := M3.cell (k := k) (x := fk) (by rw [List.getElem?_set_ne (by omega)]; exact HK.out)
          have qf := M3.frozen k
          have ql := M3.lt
          refine each_cons ?_ each_nil
          refine wpOp_go (by rfl) (Eq.refl _) (by go_simp; done) ?_
          intro K hK
          go_simp
          try simp only [Act.put]
          refine hK _ _ (by have := hS_v2; rw [HRW.out] at this ⊢; exact only_setCell this (.inl rfl) _) ?_
          clear hK K q1 qf ql
          have M4 := M3.put k (min fi fk)
          clear M3 M2
          refine wpW_det (t' := ?ct26R62) 26 (by rfl) (by kernel_rfl) (NQ_free _) (by kernel_rfl) ?cw26R62 ?ch26R62 ?ca26R62 (Eq.refl _) ?cH26R62
          case cw26R62 => (go_simp; done)
          case ch26R62 =>
            intro ds w' hS K hK
            have hc := (ocell hS).1
            have hf := (ocell hS).2
            have hz := hS.size
            try simp at hz
            go_simp
            try go_bits
            first
              | exact hK _ hS (Gr.refl _)
              | exact hK _ (by repeat (first | (with_reducible exact Below.refl _ _) | (with_reducible assumption) | ((with_reducible refine Below.setCell ?_ ?_ _); rotate_left; · (first | exact Nat.le_refl _ | (simp; done) | (simp; omega) | omega)) | ((with_reducible refine Below.alloc ?_ ?_ _); rotate_left; · (first | exact Nat.le_refl _ | (simp; done) | (simp; omega) | omega)) | (with_reducible apply Below.drew) | (with_reducible apply below_drewN') | (refine Below.trans ?_ (Below.mono (by assumption) (by first | exact Nat.le_refl _ | (simp; done) | (simp; omega) | omega))) | exact Below.refl _ _ | assumption)) (by repeat (first | (with_reducible exact Below.refl _ _) | (with_reducible assumption) | ((with_reducible refine Below.setCell ?_ ?_ _); rotate_left; · (first | exact Nat.le_refl _ | (simp; done) | (simp; omega) | omega)) | ((with_reducible refine Below.alloc ?_ ?_ _); rotate_left; · (first | exact Nat.le_refl _ | (simp; done) | (simp; omega) | omega)) | (with_reducible apply Below.drew) | (with_reducible apply below_drewN') | (refine Below.trans ?_ (Below.mono (by assumption) (by first | exact Nat.le_refl _ | (simp; done) | (simp; omega) | omega))) | exact Below.refl _ _ | assumption))
          case ca26R62 => (first | (simp [Act.put]; done) | (simp [Act.put, *]; done))
          try dsimp only
          refine wpW_end (by kernel_rfl) ?_
          intro we hg hS
          unfold NQ
          dsimp only
          exact H.out _ _ _ _ _ _ _ _ _ _ _ _ _ _ _ _ _ _ _ _ _ _ _ _ we (M4.gr hg)
      · refine wpOp_go (by rfl) (Eq.refl _) (by go_simp; done) ?_
        intro K hK
        go_simp
        try simp only [Act.put]
        refine hK _ _ hS3 ?_
        clear hK K q0 q1 ql
        refine wpW_det (t' := ?ct21R63) 21 (by rfl) (by kernel_rfl) (NQ_free _) (by kernel_rfl) ?cw21R63 ?ch21R63 ?ca21R63 (Eq.refl _) ?cH21R63
        case cw21R63 => (go_simp; done)
        case ch21R63 =>
          intro ds w' hS K hK
          have hc := (ocell hS).1
          have hf := (ocell hS).2
          have hz := hS.size
          try simp at hz
          go_simp
          try go_bits
          first
            | exact hK _ hS (Gr.refl _)
            | exact hK _ (by repeat (first | (with_reducible exact Below.refl _ _) | (with_reducible assumption) | ((with_reducible refine Below.setCell ?_ ?_ _); rotate_left; · (first | exact Nat.le_refl _ | (simp; done) | (simp; omega) | omega)) | ((with_reducible refine Below.alloc ?_ ?_ _); rotate_left; · (first | exact Nat.le_refl _ | (simp; done) | (simp; omega) | omega)) | (with_reducible apply Below.drew) | (with_reducible apply below_drewN') | (refine Below.trans ?_ (Below.mono (by assumption) (by first | exact Nat.le_refl _ | (simp; done) | (simp; omega) | omega))) | exact Below.refl _ _ | assumption)) (by repeat (first | (with_reducible exact Below.refl _ _) | (with_reducible assumption) | ((with_reducible refine Below.setCell ?_ ?_ _); rotate_left; · (first | exact Nat.le_refl _ | (simp; done) | (simp; omega) | omega)) | ((with_reducible refine Below.alloc ?_ ?_ _); rotate_left; · (first | exact Nat.le_refl _ | (simp; done) | (simp; omega) | omega)) | (with_reducible apply Below.drew) | (with_reducible apply below_drewN') | (refine Below.trans ?_ (Below.mono (by assumption) (by first | exact Nat.le_refl _ | (simp; done) | (simp; omega) | omega))) | exact Below.refl _ _ | assumption))
        case ca21R63 => (first | (simp [Act.put]; done) | (simp [Act.put, *]; done))
        try dsimp only
        refine wpW_branch [7] (by kernel_rfl) (by simp) ?_
        intro w4 hg4 hS4
        replace M := M.gr hg4
        have q0 := M.cell HI.out
        have q1 := M.cell HK.out
        have ql := M.lt
        refine each_cons ?_ (each_nil)
        · refine wpOp_go (by rfl) (Eq.refl _) (by go_simp; done) ?_
          intro K hK
          go_simp
          try simp only [Act.put]
          refine hK _ _ hS4 ?_
          clear hK K q0 q1 ql
          refine wpW_det (t' := ?ct12R64) 12 (by rfl) (by kernel_rfl) (NQ_free _) (by kernel_rfl) ?cw12R64 ?ch12R64 ?ca12R64 (Eq.refl _) ?cH12R64
          case cw12R64 => (go_simp; done)
          case ch12R64 =>
            intro ds w' hS K hK
            have hc := (ocell hS).1
            have hf := (ocell hS).2
            have hz := hS.size
            try simp at hz
            go_simp
            try go_bits
            first
              | exact hK _ hS (Gr.refl _)
              | exact hK _ (by repeat (first | (with_reducible exact Below.refl _ _) | (with_reducible assumption) | ((with_reducible refine Below.setCell ?_ ?_ _); rotate_left; · (first | exact Nat.le_refl _ | (simp; done) | (simp; omega) | omega)) | ((with_reducible refine Below.alloc ?_ ?_ _); rotate_left; · (first | exact Nat.le_refl _ | (simp; done) | (simp; omega) | omega)) | (with_reducible apply Below.drew) | (with_reducible apply below_drewN') | (refine Below.trans ?_ (Below.mono (by assumption) (by first | exact Nat.le_refl _ | (simp; done) | (simp; omega) | omega))) | exact Below.refl _ _ | assumption)) (by repeat (first | (with_reducible exact Below.refl _ _) | (with_reducible assumption) | ((with_reducible refine Below.setCell ?_ ?_ _); rotate_left; · (first | exact Nat.le_refl _ | (simp; done) | (simp; omega) | omega)) | ((with_reducible refine Below.alloc ?_ ?_ _); rotate_left; · (first | exact Nat.le_refl _ | (simp; done) | (simp; omega) | omega)) | (with_reducible apply Below.drew) | (with_reducible apply below_drewN') | (refine Below.trans ?_ (Below.mono (by assumption) (by first | exact Nat.le_refl _ | (simp; done) | (simp; omega) | omega))) | exact Below.refl _ _ | assumption))
          case ca12R64 => (first | (simp [Act.put]; done) | (simp [Act.put, *]; done))
          try dsimp only
          refine wpW_det (t' := ?ct22R65) 22 (by rfl) (by kernel_rfl) (NQ_free _) (by kernel_rfl) ?cw22R65 ?ch22R65 ?ca22R65 (Eq.refl _) ?cH22R65
          case cw22R65 => (go_simp; done)
          case ch22R65 =>
            intro ds w' hS K hK
            have hc := (ocell hS).1
            have hf := (ocell hS).2
            have hz := hS.size
            try simp at hz
            go_simp
            try go_bits
            first
              | exact hK _ hS (Gr.refl _)
              | exact hK _ (by repeat (first | (with_reducible exact Below.refl _ _) | (with_reducible assumption) | ((with_reducible refine Below.setCell ?_ ?_ _); rotate_left; · (first | exact Nat.le_refl _ | (simp; done) | (simp; omega) | omega)) | ((with_reducible refine Below.alloc ?_ ?_ _); rotate_left; · (first | exact Nat.le_refl _ | (simp; done) | (simp; omega) | omega)) | (with_reducible apply Below.drew) | (with_reducible apply below_drewN') | (refine Below.trans ?_ (Below.mono (by assumption) (by first | exact Nat.le_refl _ | (simp; done) | (simp; omega) | omega))) | exact Below.refl _ _ | assumption)) (by repeat (first | (with_reducible exact Below.refl _ _) | (with_reducible assumption) | ((with_reducible refine Below.setCell ?_ ?_ _); rotate_left; · (first | exact Nat.le_refl _ | (simp; done) | (simp; omega) | omega)) | ((with_reducible refine Below.alloc ?_ ?_ _); rotate_left; · (first | exact Nat.le_refl _ | (simp; done) | (simp; omega) | omega)) | (with_reducible apply Below.drew) | (with_reducible apply below_drewN') | (refine Below.trans ?_ (Below.mono (by assumption) (by first | exact Nat.le_refl _ | (simp; done) | (simp; omega) | omega))) | exact Below.refl _ _ | assumption))
          case ca22R65 => (first | (simp [Act.put]; done) | (simp [Act.put, *]; done))
          try dsimp only
          refine wpW_branch [23] (by kernel_rfl) (by simp) ?_
          intro v1 hg_v1 hS_v1
          have M1 := M.gr hg_v1
          have q0 := M1.cell HI.out
          have qf := M1.frozen i
          have ql := M1.lt
          refine each_cons ?_ each_nil
          refine wpOp_go (by rfl) (Eq.refl _) (by go_simp; done) ?_
          intro K hK
          go_simp
          try simp only [Act.put]
          refine hK _ _ (by have := hS_v1; rw [HRW.out] at this ⊢; exact only_setCell this (.inl rfl) _) ?_
          clear hK K q0 qf ql
          have M2 := M1.put i (min fi fk)
          clear M1
          refine wpW_det (t' := ?ct24R66) 24 (by rfl) (by kernel_rfl) (NQ_free _) (by kernel_rfl) ?cw24R66 ?ch24R66 ?ca24R66 (Eq.refl _) ?cH24R66
          case cw24R66 => (go_simp; done)
          case ch24R66 =>
            intro ds w' hS K hK
            have hc := (ocell hS).1
            have hf := (ocell hS).2
            have hz := hS.size
            try simp at hz
            go_simp
            try go_bits
            first
              | exact hK _ hS (Gr.refl _)
              | exact hK _ (by repeat (first | (with_reducible exact Below.refl _ _) | (with_reducible assumption) | ((with_reducible refine Below.setCell ?_ ?_ _); rotate_left; · (first | exact Nat.le_refl _ | (simp; done) | (simp; omega) | omega)) | ((with_reducible refine Below.alloc ?_ ?_ _); rotate_left; · (first | exact Nat.le_refl _ | (simp; done) | (simp; omega) | omega)) | (with_reducible apply Below.drew) | (with_reducible apply below_drewN') | (refine Below.trans ?_ (Below.mono (by assumption) (by first | exact Nat.le_refl _ | (simp; done) | (simp; omega) | omega))) | exact Below.refl _ _ | assumption)) (by repeat (first | (with_reducible exact Below.refl _ _) | (with_reducible assumption) | ((with_reducible refine Below.setCell ?_ ?_ _); rotate_left; · (first | exact Nat.le_refl _ | (simp; done) | (simp; omega) | omega)) | ((with_reducible refine Below.alloc ?_ ?_ _); rotate_left; · (first | exact Nat.le_refl _ | (simp; done) | (simp; omega) | omega)) | (with_reducible apply Below.drew) | (with_reducible apply below_drewN') | (refine Below.trans ?_ (Below.mono (by assumption) (by first | exact Nat.le_refl _ | (simp; done) | (simp; omega) | omega))) | exact Below.refl _ _ | assumption))
          case ca24R66 => (first | (simp [Act.put]; done) | (simp [Act.put, *]; done))
          try dsimp only
          refine wpW_branch [25] (by kernel_rfl) (by simp) ?_
          intro v2 hg_v2 hS_v2
          have M3 := M2.gr hg_v2
          have q1 := M3.cell (k := k) (x := fk) (by rw [List.getElem?_set_ne (by omega)]; exact HK.out)
          have qf := M3.frozen k
          have ql := M3.lt
          refine each_cons ?_ each_nil
          refine wpOp_go (by rfl) (Eq.refl _) (by go_simp; done) ?_
          intro K hK
          go_simp
          try simp only [Act.put]
          refine hK _ _ (by have := hS_v2; rw [HRW.out] at this ⊢; exact only_setCell this (.inl rfl) _) ?_
          clear hK K q1 qf ql
          have M4 := M3.put k (min fi fk)
          clear M3 M2
          refine wpW_det (t' := ?ct26R67) 26 (by rfl) (by kernel_rfl) (NQ_free _) (by kernel_rfl) ?cw26R67 ?ch26R67 ?ca26R67 (Eq.refl _) ?cH26R67
          case cw26R67 => (go_simp; done)
          case ch26R67 =>
            intro ds w' hS K hK
            have hc := (ocell hS).1
            have hf := (ocell hS).2
            have hz := hS.size
            try simp at hz
            go_simp
            try go_bits
            first
              | exact hK _ hS (Gr.refl _)
              | exact hK _ (by repeat (first | (with_reducible exact Below.refl _ _) | (with_reducible assumption) | ((with_reducible refine Below.setCell ?_ ?_ _); rotate_left; · (first | exact Nat.le_refl _ | (simp; done) | (simp; omega) | omega)) | ((with_reducible refine Below.alloc ?_ ?_ _); rotate_left; · (first | exact Nat.le_refl _ | (simp; done) | (simp; omega) | omega)) | (with_reducible apply Below.drew) | (with_reducible apply below_drewN') | (refine Below.trans ?_ (Below.mono (by assumption) (by first | exact Nat.le_refl _ | (simp; done) | (simp; omega) | omega))) | exact Below.refl _ _ | assumption)) (by repeat (first | (with_reducible exact Below.refl _ _) | (with_reducible assumption) | ((with_reducible refine Below.setCell ?_ ?_ _); rotate_left; · (first | exact Nat.le_refl _ | (simp; done) | (simp; omega) | omega)) | ((with_reducible refine Below.alloc ?_ ?_ _); rotate_left; · (first | exact Nat.le_refl _ | (simp; done) | (simp; omega) | omega)) | (with_reducible apply Below.drew) | (with_reducible apply below_drewN') | (refine Below.trans ?_ (Below.mono (by assumption) (by first | exact Nat.le_refl _ | (simp; done) | (simp; omega) | omega))) | exact Below.refl _ _ | assumption))
          case ca26R67 => (first | (simp [Act.put]; done) | (simp [Act.put, *]; done))
          try dsimp only
          refine wpW_end (by kernel_rfl) ?_
          intro we hg hS
          unfold NQ
          dsimp only
          exact H.out _ _ _ _ _ _ _ _ _ _ _ _ _ _ _ _ _ _ _ _ _ _ _ _ we (M4.gr hg)
  · refine wpOp_go (by rfl) (Eq.refl _) (by go_simp; done) ?_
    intro K hK
    go_simp
    try simp only [Act.put]
    refine hK _ _ hS1 ?_
    clear hK K q0 q1 ql
    refine wpW_branch [7, 11, 20] (by kernel_rfl) (by simp) ?_
    intro w2 hg2 hS2
    replace M := M.gr hg2
    have q0 := M.cell HI.out
    have q1 := M.cell HK.out
    have ql := M.lt
    refine each_cons ?_ (each_cons ?_ (each_cons ?_ (each_nil)))
    · refine wpOp_go (by rfl) (Eq.refl _) (by go_simp; done) ?_
      intro K hK
      go_simp
      try simp only [Act.put]
      refine hK _ _ hS2 ?_
      clear hK K q0 q1 ql
      refine wpW_branch [11, 20] (by kernel_rfl) (by simp) ?_
      intro w3 hg3 hS3
      replace M := M.gr hg3
      have q0 := M.cell HI.out
      have q1 := M.cell HK.out
      have ql := M.lt
      refine each_cons ?_ (each_cons ?_ (each_nil))
      · refine wpOp_go (by rfl) (Eq.refl _) (by go_simp; done) ?_
        intro K hK
        go_simp
        try simp only [Act.put]
        refine hK _ _ hS3 ?_
        clear hK K q0 q1 ql
        refine wpW_det (t' := ?ct12R68) 12 (by rfl) (by kernel_rfl) (NQ_free _) (by kernel_rfl) ?cw12R68 ?ch12R68 ?ca12R68 (Eq.refl _) ?cH12R68
        case cw12R68 => (go_simp; done)
        case ch12R68 =>
          intro ds w' hS K hK
          have hc := (ocell hS).1
          have hf := (ocell hS).2
          have hz := hS.size
          try simp at hz
          go_simp
          try go_bits
          first
            | exact hK _ hS (Gr.refl _)
            | exact hK _ (by repeat (first | (with_reducible exact Below.refl _ _) | (with_reducible assumption) | ((with_reducible refine Below.setCell ?_ ?_ _); rotate_left; · (first | exact Nat.le_refl _ | (simp; done) | (simp; omega) | omega)) | ((with_reducible refine Below.alloc ?_ ?_ _); rotate_left; · (first | exact Nat.le_refl _ | (simp; done) | (simp; omega) | omega)) | (with_reducible apply Below.drew) | (with_reducible apply below_drewN') | (refine Below.trans ?_ (Below.mono (by assumption) (by first | exact Nat.le_refl _ | (simp; done) | (simp; omega) | omega))) | exact Below.refl _ _ | assumption)) (by repeat (first | (with_reducible exact Below.refl _ _) | (with_reducible assumption) | ((with_reducible refine Below.setCell ?_ ?_ _); rotate_left; · (first | exact Nat.le_refl _ | (simp; done) | (simp; omega) | omega)) | ((with_reducible refine Below.alloc ?_ ?_ _); rotate_left; · (first | exact Nat.le_refl _ | (simp; done) | (simp; omega) | omega)) | (with_reducible apply Below.drew) | (with_reducible apply below_drewN') | (refine Below.trans ?_ (Below.mono (by assumption) (by first | exact Nat.le_refl _ | (simp; done) | (simp; omega) | omega))) | exact Below.refl _ _ | assumption))
        case ca12R68 => (first | (simp [Act.put]; done) | (simp [Act.put, *]; done))
        try dsimp only
        refine wpW_branch [20] (by kernel_rfl) (by simp) ?_
        intro w4 hg4 hS4
        replace M := M.gr hg4
        have q0 := M.cell HI.out
        have q1 := M.cell HK.out
        have ql := M.lt
        refine each_cons ?_ (each_nil)
        · refine wpOp_go (by rfl) (Eq.refl _) (by go_simp; done) ?_
          intro K hK
          go_simp
          try simp only [Act.put]
          refine hK _ _ hS4 ?_
          clear hK K q0 q1 ql
          refine wpW_det (t' := ?ct21R69) 21 (by rfl) (by kernel_rfl) (NQ_free _) (by kernel_rfl) ?cw21R69 ?ch21R69 ?ca21R69 (Eq.refl _) ?cH21R69
          case cw21R69 => (go_simp; done)
          case ch21R69 =>
            intro ds w' hS K hK
            have hc := (ocell hS).1
            have hf := (ocell hS).2
            have hz := hS.size
            try simp at hz
            go_simp
            try go_bits
            first
              | exact hK _ hS (Gr.refl _)
              | exact hK _ (by repeat (first | (with_reducible exact Below.refl _ _) | (with_reducible assumption) | ((with_reducible refine Below.setCell ?_ ?_ _); rotate_left; · (first | exact Nat.le_refl _ | (simp; done) | (simp; omega) | omega)) | ((with_reducible refine Below.alloc ?_ ?_ _); rotate_left; · (first | exact Nat.le_refl _ | (simp; done) | (simp; omega) | omega)) | (with_reducible apply Below.drew) | (with_reducible apply below_drewN') | (refine Below.trans ?_ (Below.mono (by assumption) (by first | exact Nat.le_refl _ | (simp; done) | (simp; omega) | omega))) | exact Below.refl _ _ | assumption)) (by repeat (first | (with_reducible exact Below.refl _ _) | (with_reducible assumption) | ((with_reducible refine Below.setCell ?_ ?_ _); rotate_left; · (first | exact Nat.le_refl _ | (simp; done) | (simp; omega) | omega)) | ((with_reducible refine Below.alloc ?_ ?_ _); rotate_left; · (first | exact Nat.le_refl _ | (simp; done) | (simp; omega) | omega)) | (with_reducible apply Below.drew) | (with_reducible apply below_drewN') | (refine Below.trans ?_ (Below.mono (by assumption) (by first | exact Nat.le_refl _ | (simp; done) | (simp; omega) | omega))) | exact Below.refl _ _ | assumption))
          case ca21R69 => (first | (simp [Act.put]; done) | (simp [Act.put, *]; done))
          try dsimp only
          refine wpW_det (t' := ?ct22R70) 22 (by rfl) (by kernel_rfl) (NQ_free _) (by kernel_rfl) ?cw22R70 ?ch22R70 ?ca22R70 (Eq.refl _) ?cH22R70
          case cw22R70 => (go_simp; done)
          case ch22R70 =>
            intro ds w' hS K hK
            have hc := (ocell hS).1
            have hf := (ocell hS).2
            have hz := hS.size
            try simp at hz
            go_simp
            try go_bits
            first
              | exact hK _ hS (Gr.refl _)
              | exact hK _ (by repeat (first | (with_reducible exact Below.refl _ _) | (with_reducible assumption) | ((with_reducible refine Below.setCell ?_ ?_ _); rotate_left; · (first | exact Nat.le_refl _ | (simp; done) | (simp; omega) | omega)) | ((with_reducible refine Below.alloc ?_ ?_ _); rotate_left; · (first | exact Nat.le_refl _ | (simp; done) | (simp; omega) | omega)) | (with_reducible apply Below.drew) | (with_reducible apply below_drewN') | (refine Below.trans ?_ (Below.mono (by assumption) (by first | exact Nat.le_refl _ | (simp; done) | (simp; omega) | omega))) | exact Below.refl _ _ | assumption)) (by repeat (first | (with_reducible exact Below.refl _ _) | (with_reducible assumption) | ((with_reducible refine Below.setCell ?_ ?_ _); rotate_left; · (first | exact Nat.le_refl _ | (simp; done) | (simp; omega) | omega)) | ((with_reducible refine Below.alloc ?_ ?_ _); rotate_left; · (first | exact Nat.le_refl _ | (simp; done) | (simp; omega) | omega)) | (with_reducible apply Below.drew) | (with_reducible apply below_drewN') | (refine Below.trans ?_ (Below.mono (by assumption) (by first | exact Nat.le_refl _ | (simp; done) | (simp; omega) | omega))) | exact Below.refl _ _ | assumption))
          case ca22R70 => (first | (simp [Act.put]; done) | (simp [Act.put, *]; done))
          try dsimp only
          refine wpW_branch [23] (by kernel_rfl) (by simp) ?_
          intro v1 hg_v1 hS_v1
          have M1 := M.gr hg_v1
          have q0 := M1.cell HI.out
          have qf := M1.frozen i
          have ql := M1.lt
          refine each_cons ?_ each_nil
          refine wpOp_go (by rfl) (Eq.refl _) (by go_simp; done) ?_
          intro K hK
          go_simp
          try simp only [Act.put]
          refine hK _ _ (by have := hS_v1; rw [HRW.out] at this ⊢; exact only_setCell this (.inl rfl) _) ?_
          clear hK K q0 qf ql
          have M2 := M1.put i (min fi fk)
          clear M1
          refine wpW_det (t' := ?ct24R71) 24 (by rfl) (by kernel_rfl) (NQ_free _) (by kernel_rfl) ?cw24R71 ?ch24R71 ?ca24R71 (Eq.refl _) ?cH24R71
          case cw24R71 => (go_simp; done)
          case ch24R71 =>
            intro ds w' hS K hK
            have hc := (ocell hS).1
            have hf := (ocell hS).2
            have hz := hS.size
            try simp at hz
            go_simp
            try go_bits
            first
              | exact hK _ hS (Gr.refl _)
              | exact hK _ (by repeat (first | (with_reducible exact Below.refl _ _) | (with_reducible assumption) | ((with_reducible refine Below.setCell ?_ ?_ _); rotate_left; · (first | exact Nat.le_refl _ | (simp; done) | (simp; omega) | omega)) | ((with_reducible refine Below.alloc ?_ ?_ _); rotate_left; · (first | exact Nat.le_refl _ | (simp; done) | (simp; omega) | omega)) | (with_reducible apply Below.drew) | (with_reducible apply below_drewN') | (refine Below.trans ?_ (Below.mono (by assumption) (by first | exact Nat.le_refl _ | (simp; done) | (simp; omega) | omega))) | exact Below.refl _ _ | assumption)) (by repeat (first | (with_reducible exact Below.refl _ _) | (with_reducible assumption) | ((with_reducible refine Below.setCell ?_ ?_ _); rotate_left; · (first | exact Nat.le_refl _ | (simp; done) | (simp; omega) | omega)) | ((with_reducible refine Below.alloc ?_ ?_ _); rotate_left; · (first | exact Nat.le_refl _ | (simp; done) | (simp; omega) | omega)) | (with_reducible apply Below.drew) | (with_reducible apply below_drewN') | (refine Below.trans ?_ (Below.mono (by assumption) (by first | exact Nat.le_refl _ | (simp; done) | (simp; omega) | omega))) | exact Below.refl _ _ | assumption))
          case ca24R71 => (first | (simp [Act.put]; done) | (simp [Act.put, *]; done))
          try dsimp only
          refine wpW_branch [25] (by kernel_rfl) (by simp) ?_
          intro v2 hg_v2 hS_v2
          have M3 := M2.gr hg_v2
          have q1 := M3.cell (k := k) (x := fk) (by rw [List.getElem?_set_ne (by omega)]; exact HK.out)
          have qf := M3.frozen k
          have ql := M3.lt
          refine each_cons ?_ each_nil
          refine wpOp_go (by rfl) (Eq.refl _) (by go_simp; done) ?_
          intro K hK
          go_simp
          try simp only [Act.put]
          refine hK _ _ (by have := hS_v2; rw [HRW.out] at this ⊢; exact only_setCell this (.inl rfl) _) ?_
          clear hK K q1 qf ql
          have M4 := M3.put k (min fi fk)
          clear M3 M2
          refine wpW_det (t' := ?ct26R72) 26 (by rfl) (by kernel_rfl) (NQ_free _) (by kernel_rfl) ?cw26R72 ?ch26R72 ?ca26R72 (Eq.refl _) ?cH26R72
          case cw26R72 => (go_simp; done)
          case ch26R72 =>
            intro ds w' hS K hK
            have hc := (ocell hS).1
            have hf := (ocell hS).2
            have hz := hS.size
            try simp at hz
            go_simp
            try go_bits
            first
              | exact hK _ hS (Gr.refl _)
              | exact hK _ (by repeat (first | (with_reducible exact Below.refl _ _) | (with_reducible assumption) | ((with_reducible refine Below.setCell ?_ ?_ _); rotate_left; · (first | exact Nat.le_refl _ | (simp; done) | (simp; omega) | omega)) | ((with_reducible refine Below.alloc ?_ ?_ _); rotate_left; · (first | exact Nat.le_refl _ | (simp; done) | (simp; omega) | omega)) | (with_reducible apply Below.drew) | (with_reducible apply below_drewN') | (refine Below.trans ?_ (Below.mono (by assumption) (by first | exact Nat.le_refl _ | (simp; done) | (simp; omega) | omega))) | exact Below.refl _ _ | assumption)) (by repeat (first | (with_reducible exact Below.refl _ _) | (with_reducible assumption) | ((with_reducible refine Below.setCell ?_ ?_ _); rotate_left; · (first | exact Nat.le_refl _ | (simp; done) | (simp; omega) | omega)) | ((with_reducible refine Below.alloc ?_ ?_ _); rotate_left; · (first | exact Nat.le_refl _ | (simp; done) | (simp; omega) | omega)) | (with_reducible apply Below.drew) | (with_reducible apply below_drewN') | (refine Below.trans ?_ (Below.mono (by assumption) (by first | exact Nat.le_refl _ | (simp; done) | (simp; omega) | omega))) | exact Below.refl _ _ | assumption))
          case ca26R72 => (first | (simp [Act.put]; done) | (simp [Act.put, *]; done))
          try dsimp only
          refine wpW_end (by kernel_rfl) ?_
          intro we hg hS
          unfold NQ
          dsimp only
          exact H.out _ _ _ _ _ _ _ _ _ _ _ _ _ _ _ _ _ _ _ _ _ _ _ _ we (M4.gr hg)
      · refine wpOp_go (by rfl) (Eq.refl _) (by go_simp; done) ?_
        intro K hK
        go_simp
        try simp only [Act.put]
        refine hK _ _ hS3 ?_
        clear hK K q0 q1 ql
        refine wpW_det (t' := ?ct21R73) 21 (by rfl) (by kernel_rfl) (NQ_free _) (by kernel_rfl) ?cw21R73 ?ch21R73 ?ca21R73 (Eq.refl _) ?cH21R73
        case cw21R73 => (go_simp; done)
        case ch21R73 =>
          intro ds w' hS K hK
          have hc := (ocell hS).1
          have hf := (ocell hS).2
          have hz := hS.size
          try simp at hz
          go_simp
          try go_bits
          first
            | exact hK _ hS (Gr.refl _)
            | exact hK _ (by repeat (first | (with_reducible exact Below.refl _ _) | (with_reducible assumption) | ((with_reducible refine Below.setCell ?_ ?_ _); rotate_left; · (first | exact Nat.le_refl _ | (simp; done) | (simp; omega) | omega)) | ((with_reducible refine Below.alloc ?_ ?_ _); rotate_left; · (first | exact Nat.le_refl _ | (simp; done) | (simp; omega) | omega)) | (with_reducible apply Below.drew) | (with_reducible apply below_drewN') | (refine Below.trans ?_ (Below.mono (by assumption) (by first | exact Nat.le_refl _ | (simp; done) | (simp; omega) | omega))) | exact Below.refl _ _ | assumption)) (by repeat (first | (with_reducible exact Below.refl _ _) | (with_reducible assumption) | ((with_reducible refine Below.setCell ?_ ?_ _); rotate_left; · (first | exact Nat.le_refl _ | (simp; done) | (simp; omega) | omega)) | ((with_reducible refine Below.alloc ?_ ?_ _); rotate_left; · (first | exact Nat.le_refl _ | (simp; done) | (simp; omega) | omega)) | (with_reducible apply Below.drew) | (with_reducible apply below_drewN') | (refine Below.trans ?_ (Below.mono (by assumption) (by first | exact Nat.le_refl _ | (simp; done) | (simp; omega) | omega))) | exact Below.refl _ _ | assumption))
        case ca21R73 => (first | (simp [Act.put]; done) | (simp [Act.put, *]; done))
        try dsimp only
        refine wpW_branch [11] (by kernel_rfl) (by simp) ?_
        intro w4 hg4 hS4
        replace M := M.gr hg4
        have q0 := M.cell HI.out
        have q1 := M.cell HK.out
        have ql := M.lt
        refine each_cons ?_ (each_nil)
        · refine wpOp_go (by rfl) (Eq.refl _) (by go_simp; done) ?_
          intro K hK
          go_simp
          try simp only [Act.put]
          refine hK _ _ hS4 ?_
          clear hK K q0 q1 ql
          refine wpW_det (t' := ?ct12R74) 12 (by rfl) (by kernel_rfl) (NQ_free _) (by kernel_rfl) ?cw12R74 ?ch12R74 ?ca12R74 (Eq.refl _) ?cH12R74
          case cw12R74 => (go_simp; done)
          case ch12R74 =>
            intro ds w' hS K hK
            have hc := (ocell hS).1
            have hf := (ocell hS).2
            have hz := hS.size
            try simp at hz
            go_simp
            try go_bits
            first
              | exact hK _ hS (Gr.refl _)
              | exact hK _ (by repeat (first | (with_reducible exact Below.refl _ _) | (with_reducible assumption) | ((with_reducible refine Below.setCell ?_ ?_ _); rotate_left; · (first | exact Nat.le_refl _ | (simp; done) | (simp; omega) | omega)) | ((with_reducible refine Below.alloc ?_ ?_ _); rotate_left; · (first | exact Nat.le_refl _ | (simp; done) | (simp; omega) | omega)) | (with_reducible apply Below.drew) | (with_reducible apply below_drewN') | (refine Below.trans ?_ (Below.mono (by assumption) (by first | exact Nat.le_refl _ | (simp; done) | (simp; omega) | omega))) | exact Below.refl _ _ | assumption)) (by repeat (first | (with_reducible exact Below.refl _ _) | (with_reducible assumption) | ((with_reducible refine Below.setCell ?_ ?_ _); rotate_left; · (first | exact Nat.le_refl _ | (simp; done) | (simp; omega) | omega)) | ((with_reducible refine Below.alloc ?_ ?_ _); rotate_left; · (first | exact Nat.le_refl _ | (simp; done) | (simp; omega) | omega)) | (with_reducible apply Below.drew) | (with_reducible apply below_drewN') | (refine Below.trans ?_ (Below.mono (by assumption) (by first | exact Nat.le_refl _ | (simp; done) | (simp; omega) | omega))) | exact Below.refl _ _ | assumption))
          case ca12R74 => (first | (simp [Act.put]; done) | (simp [Act.put, *]; done))
          try dsimp only
          refine wpW_det (t' := ?ct22R75) 22 (by rfl) (by kernel_rfl) (NQ_free _) (by kernel_rfl) ?cw22R75 ?ch22R75 ?ca22R75 (Eq.refl _) ?cH22R75
          case cw22R75 => (go_simp; done)
          case ch22R75 =>
            intro ds w' hS K hK
            have hc := (ocell hS).1
            have hf := (ocell hS).2
            have hz := hS.size
            try simp at hz
            go_simp
            try go_bits
            first
              | exact hK _ hS (Gr.refl _)
              | exact hK _ (by repeat (first | (with_reducible exact Below.refl _ _) | (with_reducible assumption) | ((with_reducible refine Below.setCell ?_ ?_ _); rotate_left; · (first | exact Nat.le_refl _ | (simp; done) | (simp; omega) | omega)) | ((with_reducible refine Below.alloc ?_ ?_ _); rotate_left; · (first | exact Nat.le_refl _ | (simp; done) | (simp; omega) | omega)) | (with_reducible apply Below.drew) | (with_reducible apply below_drewN') | (refine Below.trans ?_ (Below.mono (by assumption) (by first | exact Nat.le_refl _ | (simp; done) | (simp; omega) | omega))) | exact Below.refl _ _ | assumption)) (by repeat (first | (with_reducible exact Below.refl _ _) | (with_reducible assumption) | ((with_reducible refine Below.setCell ?_ ?_ _); rotate_left; · (first | exact Nat.le_refl _ | (simp; done) | (simp; omega) | omega)) | ((with_reducible refine Below.alloc ?_ ?_ _); rotate_left; · (first | exact Nat.le_refl _ | (simp; done) | (simp; omega) | omega)) | (with_reducible apply Below.drew) | (with_reducible apply below_drewN') | (refine Below.trans ?_ (Below.mono (by assumption) (by first | exact Nat.le_refl _ | (simp; done) | (simp; omega) | omega))) | exact Below.refl _ _ | assumption))
          case ca22R75 => (first | (simp [Act.put]; done) | (simp [Act.put, *]; done))
          try dsimp only
          refine wpW_branch [23] (by kernel_rfl) (by simp) ?_
          intro v1 hg_v1 hS_v1
          have M1 := M.gr hg_v1
          have q0 := M1.cell HI.out
          have qf := M1.frozen i
          have ql := M1.lt
          refine each_cons ?_ each_nil
          refine wpOp_go (by rfl) (Eq.refl _) (by go_simp; done) ?_
          intro K hK
          go_simp
          try simp only [Act.put]
          refine hK _ _ (by have := hS_v1; rw [HRW.out] at this ⊢; exact only_setCell this (.inl rfl) _) ?_
          clear hK K q0 qf ql
          have M2 := M1.put i (min fi fk)
          clear M1
          refine wpW_det (t' := ?ct24R76) 24 (by rfl) (by kernel_rfl) (NQ_free _) (by kernel_rfl) ?cw24R76 ?ch24R76 ?ca24R76 (Eq.refl _) ?cH24R76
          case cw24R76 => (go_simp; done)
          case ch24R76 =>
            intro ds w' hS K hK
            have hc := (ocell hS).1
            have hf := (ocell hS).2
            have hz := hS.size
            try simp at hz
            go_simp
            try go_bits
            first
              | exact hK _ hS (Gr.refl _)
              | exact hK _ (by repeat (first | (with_reducible exact Below.refl _ _) | (with_reducible assumption) | ((with_reducible refine Below.setCell ?_ ?_ _); rotate_left; · (first | exact Nat.le_refl _ | (simp; done) | (simp; omega) | omega)) | ((with_reducible refine Below.alloc ?_ ?_ _); rotate_left; · (first | exact Nat.le_refl _ | (simp; done) | (simp; omega) | omega)) | (with_reducible apply Below.drew) | (with_reducible apply below_drewN') | (refine Below.trans ?_ (Below.mono (by assumption) (by first | exact Nat.le_refl _ | (simp; done) | (simp; omega) | omega))) | exact Below.refl _ _ | assumption)) (by repeat (first | (with_reducible exact Below.refl _ _) | (with_reducible assumption) | ((with_reducible refine Below.setCell ?_ ?_ _); rotate_left; · (first | exact Nat.le_refl _ | (simp; done) | (simp; omega) | omega)) | ((with_reducible refine Below.alloc ?_ ?_ _); rotate_left; · (first | exact Nat.le_refl _ | (simp; done) | (simp; omega) | omega)) | (with_reducible apply Below.drew) | (with_reducible apply below_drewN') | (refine Below.trans ?_ (Below.mono (by assumption) (by first | exact Nat.le_refl _ | (simp; done) | (simp; omega) | omega))) | exact Below.refl _ _ | assumption))
          case ca24R76 => (first | (simp [Act.put]; done) | (simp [Act.put, *]; done))
          try dsimp only
          refine wpW_branch [25] (by kernel_rfl) (by simp) ?_
          intro v2 hg_v2 hS_v2
          have M3 := M2.gr hg_v2
          have q1 := M3.cell (k := k) (x := fk) (by rw [List.getElem?_set_ne (by omega)]; exact HK.out)
          have qf := M3.frozen k
          have ql := M3.lt
          refine each_cons ?_ each_nil
          refine wpOp_go (by rfl) (Eq.refl _) (by go_simp; done) ?_
          intro K hK
          go_simp
          try simp only [Act.put]
          refine hK _ _ (by have := hS_v2; rw [HRW.out] at this ⊢; exact only_setCell this (.inl rfl) _) ?_
          clear hK K q1 qf ql
          have M4 := M3.put k (min fi fk)
          clear M3 M2
          refine wpW_det (t' := ?ct26R77) 26 (by rfl) (by kernel_rfl) (NQ_free _) (by kernel_rfl) ?cw26R77 ?ch26R77 ?ca26R77 (Eq.refl _) ?cH26R77
          case cw26R77 => (go_simp; done)
          case ch26R77 =>
            intro ds w' hS K hK
            have hc := (ocell hS).1
            have hf := (ocell hS).2
            have hz := hS.size
            try simp at hz
            go_simp
            try go_bits
            first
              | exact hK _ hS (Gr.refl _)
              | exact hK _ (by repeat (first | (with_reducible exact Below.refl _ _) | (with_reducible assumption) | ((with_reducible refine Below.setCell ?_ ?_ _); rotate_left; · (first | exact Nat.le_refl _ | (simp; done) | (simp; omega) | omega)) | ((with_reducible refine Below.alloc ?_ ?_ _); rotate_left; · (first | exact Nat.le_refl _ | (simp; done) | (simp; omega) | omega)) | (with_reducible apply Below.drew) | (with_reducible apply below_drewN') | (refine Below.trans ?_ (Below.mono (by assumption) (by first | exact Nat.le_refl _ | (simp; done) | (simp; omega) | omega))) | exact Below.refl _ _ | assumption)) (by repeat (first | (with_reducible exact Below.refl _ _) | (with_reducible assumption) | ((with_reducible refine Below.setCell ?_ ?_ _); rotate_left; · (first | exact Nat.le_refl _ | (simp; done) | (simp; omega) | omega)) | ((with_reducible refine Below.alloc ?_ ?_ _); rotate_left; · (first | exact Nat.le_refl _ | (simp; done) | (simp; omega) | omega)) | (with_reducible apply Below.drew) | (with_reducible apply below_drewN') | (refine Below.trans ?_ (Below.mono (by assumption) (by first | exact Nat.le_refl _ | (simp; done) | (simp; omega) | omega))) | exact Below.refl _ _ | assumption))
          case ca26R77 => (first | (simp [Act.put]; done) | (simp [Act.put, *]; done))
          try dsimp only
          refine wpW_end (by kernel_rfl) ?_
          intro we hg hS
          unfold NQ
          dsimp only
          exact H.out _ _ _ _ _ _ _ _ _ _ _ _ _ _ _ _ _ _ _ _ _ _ _ _ we (M4.gr hg)
    · refine wpOp_go (by rfl) (Eq.refl _) (by go_simp; done) ?_
      intro K hK
      go_simp
      try simp only [Act.put]
      refine hK _ _ hS2 ?_
      clear hK K q0 q1 ql
      refine wpW_branch [7, 20] (by kernel_rfl) (by simp) ?_
      intro w3 hg3 hS3
      replace M := M.gr hg3
      have q0 := M.cell HI.out
      have q1 := M.cell HK.out
      have ql := M.lt
      refine each_cons ?_ (each_cons ?_ (each_nil))
      · refine wpOp_go (by rfl) (Eq.refl _) (by go_simp; done) ?_
        intro K hK
        go_simp
        try simp only [Act.put]
        refine hK _ _ hS3 ?_
        clear hK K q0 q1 ql
        refine wpW_det (t' := ?ct12R78) 12 (by rfl) (by kernel_rfl) (NQ_free _) (by kernel_rfl) ?cw12R78 ?ch12R78 ?ca12R78 (Eq.refl _) ?cH12R78
        case cw12R78 => (go_simp; done)
        case ch12R78 =>
          intro ds w' hS K hK
          have hc := (ocell hS).1
          have hf := (ocell hS).2
          have hz := hS.size
          try simp at hz
          go_simp
          try go_bits
          first
            | exact hK _ hS (Gr.refl _)
            | exact hK _ (by repeat (first | (with_reducible exact Below.refl _ _) | (with_reducible assumption) | ((with_reducible refine Below.setCell ?_ ?_ _); rotate_left; · (first | exact Nat.le_refl _ | (simp; done) | (simp; omega) | omega)) | ((with_reducible refine Below.alloc ?_ ?_ _); rotate_left; · (first | exact Nat.le_refl _ | (simp; done) | (simp; omega) | omega)) | (with_reducible apply Below.drew) | (with_reducible apply below_drewN') | (refine Below.trans ?_ (Below.mono (by assumption) (by first | exact Nat.le_refl _ | (simp; done) | (simp; omega) | omega))) | exact Below.refl _ _ | assumption)) (by repeat (first | (with_reducible exact Below.refl _ _) | (with_reducible assumption) | ((with_reducible refine Below.setCell ?_ ?_ _); rotate_left; · (first | exact Nat.le_refl _ | (simp; done) | (simp; omega) | omega)) | ((with_reducible refine Below.alloc ?_ ?_ _); rotate_left; · (first | exact Nat.le_refl _ | (simp; done) | (simp; omega) | omega)) | (with_reducible apply Below.drew) | (with_reducible apply below_drewN') | (refine Below.trans ?_ (Below.mono (by assumption) (by first | exact Nat.le_refl _ | (simp; done) | (simp; omega) | omega))) | exact Below.refl _ _ | assumption))
        case ca12R78 => (first | (simp [Act.put]; done) | (simp [Act.put, *]; done))
        try dsimp only
        refine wpW_branch [20] (by kernel_rfl) (by simp) ?_
        intro w4 hg4 hS4
        replace M := M.gr hg4
        have q0 := M.cell HI.out
        have q1 := M.cell HK.out
        have ql := M.lt
        refine each_cons ?_ (each_nil)
        · refine wpOp_go (by rfl) (Eq.refl _) (by go_simp; done) ?_
          intro K hK
          go_simp
          try simp only [Act.put]
          refine hK _ _ hS4 ?_
          clear hK K q0 q1 ql
          refine wpW_det (t' := ?ct21R79) 21 (by rfl) (by kernel_rfl) (NQ_free _) (by kernel_rfl) ?cw21R79 ?ch21R79 ?ca21R79 (Eq.refl _) ?cH21R79
          case cw21R79 => (go_simp; done)
          case ch21R79 =>
            intro ds w' hS K hK
            have hc := (ocell hS).1
            have hf := (ocell hS).2
            have hz := hS.size
            try simp at hz
            go_simp
            try go_bits
            first
              | exact hK _ hS (Gr.refl _)
              | exact hK _ (by repeat (first | (with_reducible exact Below.refl _ _) | (with_reducible assumption) | ((with_reducible refine Below.setCell ?_ ?_ _); rotate_left; · (first | exact Nat.le_refl _ | (simp; done) | (simp; omega) | omega)) | ((with_reducible refine Below.alloc ?_ ?_ _); rotate_left; · (first | exact Nat.le_refl _ | (simp; done) | (simp; omega) | omega)) | (with_reducible apply Below.drew) | (with_reducible apply below_drewN') | (refine Below.trans ?_ (Below.mono (by assumption) (by first | exact Nat.le_refl _ | (simp; done) | (simp; omega) | omega))) | exact Below.refl _ _ | assumption)) (by repeat (first | (with_reducible exact Below.refl _ _) | (with_reducible assumption) | ((with_reducible refine Below.setCell ?_ ?_ _); rotate_left; · (first | exact Nat.le_refl _ | (simp; done) | (simp; omega) | omega)) | ((with_reducible refine Below.alloc ?_ ?_ _); rotate_left; · (first | exact Nat.le_refl _ | (simp; done) | (simp; omega) | omega)) | (with_reducible apply Below.drew) | (with_reducible apply below_drewN') | (refine Below.trans ?_ (Below.mono (by assumption) (by first | exact Nat.le_refl _ | (simp; done) | (simp; omega) | omega))) | exact Below.refl _ _ | assumption))
          case ca21R79 => (first | (simp [Act.put]; done) | (simp [Act.put, *]; done))
          try dsimp only
          refine wpW_det (t' := ?ct22R80) 22 (by rfl) (by kernel_rfl) (NQ_free _) (by kernel_rfl) ?cw22R80 ?ch22R80 ?ca22R80 (Eq.refl _) ?cH22R80
          case cw22R80 => (go_simp; done)
          case ch22R80 =>
            intro ds w' hS K hK
            have hc := (ocell hS).1
            have hf := (ocell hS).2
            have hz := hS.size
            try simp at hz
            go_simp
            try go_bits
            first
              | exact hK _ hS (Gr.refl _)
              | exact hK _ (by repeat (first | (with_reducible exact Below.refl _ _) | (with_reducible assumption) | ((with_reducible refine Below.setCell ?_ ?_ _); rotate_left; · (first | exact Nat.le_refl _ | (simp; done) | (simp; omega) | omega)) | ((with_reducible refine Below.alloc ?_ ?_ _); rotate_left; · (first | exact Nat.le_refl _ | (simp; done) | (simp; omega) | omega)) | (with_reducible apply Below.drew) | (with_reducible apply below_drewN') | (refine Below.trans ?_ (Below.mono (by assumption) (by first | exact Nat.le_refl _ | (simp; done) | (simp; omega) | omega))) | exact Below.refl _ _ | assumption)) (by repeat (first | (with_reducible exact Below.refl _ _) | (with_reducible assumption) | ((with_reducible refine Below.setCell ?_ ?_ _); rotate_left; · (first | exact Nat.le_refl _ | (simp; done) | (simp; omega) | omega)) | ((with_reducible refine Below.alloc ?_ ?_ _); rotate_left; · (first | exact Nat.le_refl _ | (simp; done) | (simp; omega) | omega)) | (with_reducible apply Below.drew) | (with_reducible apply below_drewN') | (refine Below.trans ?_ (Below.mono (by assumption) (by first | exact Nat.le_refl _ | (simp; done) | (simp; omega) | omega))) | exact Below.refl _ _ | assumption))
          case ca22R80 => (first | (simp [Act.put]; done) | (simp [Act.put, *]; done))
          try dsimp only
          refine wpW_branch [23] (by kernel_rfl) (by simp) ?_
          intro v1 hg_v1 hS_v1
          have M1 := M.gr hg_v1
          have q0 := M1.cell HI.out
          have qf := M1.frozen i
          have ql := M1.lt
          refine each_cons ?_ each_nil
          refine wpOp_go (by rfl) (Eq.refl _) (by go_simp; done) ?_
          intro K hK
          go_simp
          try simp only [Act.put]
          refine hK _ _ (by have := hS_v1; rw [HRW.out] at this ⊢; exact only_setCell this (.inl rfl) _) ?_
          clear hK K q0 qf ql
          have M2 := M1.put i (min fi fk)
          clear M1
          refine wpW_det (t' := ?ct24R81) 24 (by rfl) (by kernel_rfl) (NQ_free _) (by kernel_rfl) ?cw24R81 ?ch24R81 ?ca24R81 (Eq.refl _) ?cH24R81
          case cw24R81 => (go_simp; done)
          case ch24R81 =>
            intro ds w' hS K hK
            have hc := (ocell hS).1
            have hf := (ocell hS).2
            have hz := hS.size
            try simp at hz
            go_simp
            try go_bits
            first
              | exact hK _ hS (Gr.refl _)
              | exact hK _ (by repeat (first | (with_reducible exact Below.refl _ _) | (with_reducible assumption) | ((with_reducible refine Below.setCell ?_ ?_ _); rotate_left; · (first | exact Nat.le_refl _ | (simp; done) | (simp; omega) | omega)) | ((with_reducible refine Below.alloc ?_ ?_ _); rotate_left; · (first | exact Nat.le_refl _ | (simp; done) | (simp; omega) | omega)) | (with_reducible apply Below.drew) | (with_reducible apply below_drewN') | (refine Below.trans ?_ (Below.mono (by assumption) (by first | exact Nat.le_refl _ | (simp; done) | (simp; omega) | omega))) | exact Below.refl _ _ | assumption)) (by repeat (first | (with_reducible exact Below.refl _ _) | (with_reducible assumption) | ((with_reducible refine Below.setCell ?_ ?_ _); rotate_left; · (first | exact Nat.le_refl _ | (simp; done) | (simp; omega) | omega)) | ((with_reducible refine Below.alloc ?_ ?_ _); rotate_left; · (first | exact Nat.le_refl _ | (simp; done) | (simp; omega) | omega)) | (with_reducible apply Below.drew) | (with_reducible apply below_drewN') | (refine Below.trans ?_ (Below.mono (by assumption) (by first | exact Nat.le_refl _ | (simp; done) | (simp; omega) | omega))) | exact Below.refl _ _ | assumption))
          case ca24R81 => (first | (simp [Act.put]; done) | (simp [Act.put, *]; done))
          try dsimp only
          refine wpW_branch [25] (by kernel_rfl) (by simp) ?_
          intro v2 hg_v2 hS_v2
          have M3 := M2.gr hg_v2
          have q1 := M3.cell (k := k) (x := fk) (by rw [List.getElem?_set_ne (by omega)]; exact HK.out)
          have qf := M3.frozen k
          have ql := M3.lt
          refine each_cons ?_ each_nil
          refine wpOp_go (by rfl) (Eq.refl _) (by go_simp; done) ?_
          intro K hK
          go_simp
          try simp only [Act.put]
          refine hK _ _ (by have := hS_v2; rw [HRW.out] at this ⊢; exact only_setCell this (.inl rfl) _) ?_
          clear hK K q1 qf ql
          have M4 := M3.put k (min fi fk)
          clear M3 M2
          refine wpW_det (t' := ?ct26R82) 26 (by rfl) (by kernel_rfl) (NQ_free _) (by kernel_rfl) ?cw26R82 ?ch26R82 ?ca26R82 (Eq.refl _) ?cH26R82
          case cw26R82 => (go_simp; done)
          case ch26R82 =>
            intro ds w' hS K hK
            have hc := (ocell hS).1
            have hf := (ocell hS).2
            have hz := hS.size
            try simp at hz
            go_simp
            try go_bits
            first
              | exact hK _ hS (Gr.refl _)
              | exact hK _ (by repeat (first | (with_reducible exact Below.refl _ _) | (with_reducible assumption) | ((with_reducible refine Below.setCell ?_ ?_ _); rotate_left; · (first | exact Nat.le_refl _ | (simp; done) | (simp; omega) | omega)) | ((with_reducible refine Below.alloc ?_ ?_ _); rotate_left; · (first | exact Nat.le_refl _ | (simp; done) | (simp; omega) | omega)) | (with_reducible apply Below.drew) | (with_reducible apply below_drewN') | (refine Below.trans ?_ (Below.mono (by assumption) (by first | exact Nat.le_refl _ | (simp; done) | (simp; omega) | omega))) | exact Below.refl _ _ | assumption)) (by repeat (first | (with_reducible exact Below.refl _ _) | (with_reducible assumption) | ((with_reducible refine Below.setCell ?_ ?_ _); rotate_left; · (first | exact Nat.le_refl _ | (simp; done) | (simp; omega) | omega)) | ((with_reducible refine Below.alloc ?_ ?_ _); rotate_left; · (first | exact Nat.le_refl _ | (simp; done) | (simp; omega) | omega)) | (with_reducible apply Below.drew) | (with_reducible apply below_drewN') | (refine Below.trans ?_ (Below.mono (by assumption) (by first | exact Nat.le_refl _ | (simp; done) | (simp; omega) | omega))) | exact Below.refl _ _ | assumption))
          case ca26R82 => (first | (simp [Act.put]; done) | (simp [Act.put, *]; done))
          try dsimp only
          refine wpW_end (by kernel_rfl) ?_
          intro we hg hS
          unfold NQ
          dsimp only
          exact H.out _ _ _ _ _ _ _ _ _ _ _ _ _ _ _ _ _ _ _ _ _ _ _ _ we (M4.gr hg)
      · refine wpOp_go (by rfl) (Eq.refl _) (by go_simp; done) ?_
        intro K hK
        go_simp
        try simp only [Act.put]
        refine hK _ _ hS3 ?_
        clear hK K q0 q1 ql
        refine wpW_det (t' := ?ct21R83) 21 (by rfl) (by kernel_rfl) (NQ_free _) (by kernel_rfl) ?cw21R83 ?ch21R83 ?ca21R83 (Eq.refl _) ?cH21R83
        case cw21R83 => (go_simp; done)
        case ch21R83 =>
          intro ds w' hS K hK
          have hc := (ocell hS).1
          have hf := (ocell hS).2
          have hz := hS.size
          try simp at hz
          go_simp
          try go_bits
          first
            | exact hK _ hS (Gr.refl _)
            | exact hK _ (by repeat (first | (with_reducible exact Below.refl _ _) | (with_reducible assumption) | ((with_reducible refine Below.setCell ?_ ?_ _); rotate_left; · (first | exact Nat.le_refl _ | (simp; done) | (simp; omega) | omega)) | ((with_reducible refine Below.alloc ?_ ?_ _); rotate_left; · (first | exact Nat.le_refl _ | (simp; done) | (simp; omega) | omega)) | (with_reducible apply Below.drew) | (with_reducible apply below_drewN') | (refine Below.trans ?_ (Below.mono (by assumption) (by first | exact Nat.le_refl _ | (simp; done) | (simp; omega) | omega))) | exact Below.refl _ _ | assumption)) (by repeat (first | (with_reducible exact Below.refl _ _) | (with_reducible assumption) | ((with_reducible refine Below.setCell ?_ ?_ _); rotate_left; · (first | exact Nat.le_refl _ | (simp; done) | (simp; omega) | omega)) | ((with_reducible refine Below.alloc ?_ ?_ _); rotate_left; · (first | exact Nat.le_refl _ | (simp; done) | (simp; omega) | omega)) | (with_reducible apply Below.drew) | (with_reducible apply below_drewN') | (refine Below.trans ?_ (Below.mono (by assumption) (by first | exact Nat.le_refl _ | (simp; done) | (simp; omega) | omega))) | exact Below.refl _ _ | assumption))
        case ca21R83 => (first | (simp [Act.put]; done) | (simp [Act.put, *]; done))
        try dsimp only
        refine wpW_branch [7] (by kernel_rfl) (by simp) ?_
        intro w4 hg4 hS4
        replace M := M.gr hg4
        have q0 := M.cell HI.out
        have q1 := M.cell HK.out
        have ql := M.lt
        refine each_cons ?_ (each_nil)
        · refine wpOp_go (by rfl) (Eq.refl _) (by go_simp; done) ?_
          intro K hK
          go_simp
          try simp only [Act.put]
          refine hK _ _ hS4 ?_
          clear hK K q0 q1 ql
          refine wpW_det (t' := ?ct12R84) 12 (by rfl) (by kernel_rfl) (NQ_free _) (by kernel_rfl) ?cw12R84 ?ch12R84 ?ca12R84 (Eq.refl _) ?cH12R84
          case cw12R84 => (go_simp; done)
          case ch12R84 =>
            intro ds w' hS K hK
            have hc := (ocell hS).1
            have hf := (ocell hS).2
            have hz := hS.size
            try simp at hz
            go_simp
            try go_bits
            first
              | exact hK _ hS (Gr.refl _)
              | exact hK _ (by repeat (first | (with_reducible exact Below.refl _ _) | (with_reducible assumption) | ((with_reducible refine Below.setCell ?_ ?_ _); rotate_left; · (first | exact Nat.le_refl _ | (simp; done) | (simp; omega) | omega)) | ((with_reducible refine Below.alloc ?_ ?_ _); rotate_left; · (first | exact Nat.le_refl _ | (simp; done) | (simp; omega) | omega)) | (with_reducible apply Below.drew) | (with_reducible apply below_drewN') | (refine Below.trans ?_ (Below.mono (by assumption) (by first | exact Nat.le_refl _ | (simp; done) | (simp; omega) | omega))) | exact Below.refl _ _ | assumption)) (by repeat (first | (with_reducible exact Below.refl _ _) | (with_reducible assumption) | ((with_reducible refine Below.setCell ?_ ?_ _); rotate_left; · (first | exact Nat.le_refl _ | (simp; done) | (simp; omega) | omega)) | ((with_reducible refine Below.alloc ?_ ?_ _); rotate_left; · (first | exact Nat.le_refl _ | (simp; done) | (simp; omega) | omega)) | (with_reducible apply Below.drew) | (with_reducible apply below_drewN') | (refine Below.trans ?_ (Below.mono (by assumption) (by first | exact Nat.le_refl _ | (simp; done) | (simp; omega) | omega))) | exact Below.refl _ _ | assumption))
          case ca12R84 => (first | (simp [Act.put]; done) | (simp [Act.put, *]; done))
          try dsimp only
          refine wpW_det (t' := ?ct22R85) 22 (by rfl) (by kernel_rfl) (NQ_free _) (by kernel_rfl) ?cw22R85 ?ch22R85 ?ca22R85 (Eq.refl _) ?cH22R85
          case cw22R85 => (go_simp; done)
          case ch22R85 =>
            intro ds w' hS K hK
            have hc := (ocell hS).1
            have hf := (ocell hS).2
            have hz := hS.size
            try simp at hz
            go_simp
            try go_bits
            first
              | exact hK _ hS (Gr.refl _)
              | exact hK _ (by repeat (first | (with_reducible exact Below.refl _ _) | (with_reducible assumption) | ((with_reducible refine Below.setCell ?_ ?_ _); rotate_left; · (first | exact Nat.le_refl _ | (simp; done) | (simp; omega) | omega)) | ((with_reducible refine Below.alloc ?_ ?_ _); rotate_left; · (first | exact Nat.le_refl _ | (simp; done) | (simp; omega) | omega)) | (with_reducible apply Below.drew) | (with_reducible apply below_drewN') | (refine Below.trans ?_ (Below.mono (by assumption) (by first | exact Nat.le_refl _ | (simp; done) | (simp; omega) | omega))) | exact Below.refl _ _ | assumption)) (by repeat (first | (with_reducible exact Below.refl _ _) | (with_reducible assumption) | ((with_reducible refine Below.setCell ?_ ?_ _); rotate_left; · (first | exact Nat.le_refl _ | (simp; done) | (simp; omega) | omega)) | ((with_reducible refine Below.alloc ?_ ?_ _); rotate_left; · (first | exact Nat.le_refl _ | (simp; done) | (simp; omega) | omega)) | (with_reducible apply Below.drew) | (with_reducible apply below_drewN') | (refine Below.trans ?_ (Below.mono (by assumption) (by first | exact Nat.le_refl _ | (simp; done) | (simp; omega) | omega))) | exact Below.refl _ _ | assumption))
          case ca22R85 => (first | (simp [Act.put]; done) | (simp [Act.put, *]; done))
          try dsimp only
          refine wpW_branch [23] (by kernel_rfl) (by simp) ?_
          intro v1 hg_v1 hS_v1
          have M1 := M.gr hg_v1
          have q0 := M1.cell HI.out
          have qf := M1.frozen i
          have ql := M1.lt
          refine each_cons ?_ each_nil
          refine wpOp_go (by rfl) (Eq.refl _) (by go_simp; done) ?_
          intro K hK
          go_simp
          try simp only [Act.put]
          refine hK _ _ (by have := hS_v1; rw [HRW.out] at this ⊢; exact only_setCell this (.inl rfl) _) ?_
          clear hK K q0 qf ql
          have M2 := M1.put i (min fi fk)
          clear M1
          refine wpW_det (t' := ?ct24R86) 24 (by rfl) (by kernel_rfl) (NQ_free _) (by kernel_rfl) ?cw24R86 ?ch24R86 ?ca24R86 (Eq.refl _) ?cH24R86
          case cw24R86 => (go_simp; done)
          case ch24R86 =>
            intro ds w' hS K hK
            have hc := (ocell hS).1
            have hf := (ocell hS).2
            have hz := hS.size
            try simp at hz
            go_simp
            try go_bits
            first
              | exact hK _ hS (Gr.refl _)
              | exact hK _ (by repeat (first | (with_reducible exact Below.refl _ _) | (with_reducible assumption) | ((with_reducible refine Below.setCell ?_ ?_ _); rotate_left; · (first | exact Nat.le_refl _ | (simp; done) | (simp; omega) | omega)) | ((with_reducible refine Below.alloc ?_ ?_ _); rotate_left; · (first | exact Nat.le_refl _ | (simp; done) | (simp; omega) | omega)) | (with_reducible apply Below.drew) | (with_reducible apply below_drewN') | (refine Below.trans ?_ (Below.mono (by assumption) (by first | exact Nat.le_refl _ | (simp; done) | (simp; omega) | omega))) | exact Below.refl _ _ | assumption)) (by repeat (first | (with_reducible exact Below.refl _ _) | (with_reducible assumption) | ((with_reducible refine Below.setCell ?_ ?_ _); rotate_left; · (first | exact Nat.le_refl _ | (simp; done) | (simp; omega) | omega)) | ((with_reducible refine Below.alloc ?_ ?_ _); rotate_left; · (first | exact Nat.le_refl _ | (simp; done) | (simp; omega) | omega)) | (with_reducible apply Below.drew) | (with_reducible apply below_drewN') | (refine Below.trans ?_ (Below.mono (by assumption) (by first | exact Nat.le_refl _ | (simp; done) | (simp; omega) | omega))) | exact Below.refl _ _ | assumption))
          case ca24R86 => (first | (simp [Act.put]; done) | (simp [Act.put, *]; done))
          try dsimp only
          refine wpW_branch [25] (by kernel_rfl) (by simp) ?_
          intro v2 hg_v2 hS_v2
          have M3 := M2.gr hg_v2
          have q1 := M3.cell (k := k) (x := fk) (by rw [List.getElem?_set_ne (by omega)]; exact HK.out)
          have qf := M3.frozen k
          have ql := M3.lt
          refine each_cons ?_ each_nil
          refine wpOp_go (by rfl) (Eq.refl _) (by go_simp; done) ?_
          intro K hK
          go_simp
          try simp only [Act.put]
          refine hK _ _ (by have := hS_v2; rw [HRW.out] at this ⊢; exact only_setCell this (.inl rfl) _) ?_
          clear hK K q1 qf ql
          have M4 := M3.put k (min fi fk)
          clear M3 M2
          refine wpW_det (t' := ?ct26R87) 26 (by rfl) (by kernel_rfl) (NQ_free _) (by kernel_rfl) ?cw26R87 ?ch26R87 ?ca26R87 (Eq.refl _) ?cH26R87
          case cw26R87 => (go_simp; done)
          case ch26R87 =>
            intro ds w' hS K hK
            have hc := (ocell hS).1
            have hf := (ocell hS).2
            have hz := hS.size
            try simp at hz
            go_simp
            try go_bits
            first
              | exact hK _ hS (Gr.refl _)
              | exact hK _ (by repeat (first | (with_reducible exact Below.refl _ _) | (with_reducible assumption) | ((with_reducible refine Below.setCell ?_ ?_ _); rotate_left; · (first | exact Nat.le_refl _ | (simp; done) | (simp; omega) | omega)) | ((with_reducible refine Below.alloc ?_ ?_ _); rotate_left; · (first | exact Nat.le_refl _ | (simp; done) | (simp; omega) | omega)) | (with_reducible apply Below.drew) | (with_reducible apply below_drewN') | (refine Below.trans ?_ (Below.mono (by assumption) (by first | exact Nat.le_refl _ | (simp; done) | (simp; omega) | omega))) | exact Below.refl _ _ | assumption)) (by repeat (first | (with_reducible exact Below.refl _ _) | (with_reducible assumption) | ((with_reducible refine Below.setCell ?_ ?_ _); rotate_left; · (first | exact Nat.le_refl _ | (simp; done) | (simp; omega) | omega)) | ((with_reducible refine Below.alloc ?_ ?_ _); rotate_left; · (first | exact Nat.le_refl _ | (simp; done) | (simp; omega) | omega)) | (with_reducible apply Below.drew) | (with_reducible apply below_drewN') | (refine Below.trans ?_ (Below.mono (by assumption) (by first | exact Nat.le_refl _ | (simp; done) | (simp; omega) | omega))) | exact Below.refl _ _ | assumption))
          case ca26R87 => (first | (simp [Act.put]; done) | (simp [Act.put, *]; done))
          try dsimp only
          refine wpW_end (by kernel_rfl) ?_
          intro we hg hS
          unfold NQ
          dsimp only
          exact H.out _ _ _ _ _ _ _ _ _ _ _ _ _ _ _ _ _ _ _ _ _ _ _ _ we (M4.gr hg)
    · refine wpOp_go (by rfl) (Eq.refl _) (by go_simp; done) ?_
      intro K hK
      go_simp
      try simp only [Act.put]
      refine hK _ _ hS2 ?_
      clear hK K q0 q1 ql
      refine wpW_det (t' := ?ct21R88) 21 (by rfl) (by kernel_rfl) (NQ_free _) (by kernel_rfl) ?cw21R88 ?ch21R88 ?ca21R88 (Eq.refl _) ?cH21R88
      case cw21R88 => (go_simp; done)
      case ch21R88 =>
        intro ds w' hS K hK
        have hc := (ocell hS).1
        have hf := (ocell hS).2
        have hz := hS.size
        try simp at hz
        go_simp
        try go_bits
        first
          | exact hK _ hS (Gr.refl _)
          | exact hK _ (by repeat (first | (with_reducible exact Below.refl _ _) | (with_reducible assumption) | ((with_reducible refine Below.setCell ?_ ?_ _); rotate_left; · (first | exact Nat.le_refl _ | (simp; done) | (simp; omega) | omega)) | ((with_reducible refine Below.alloc ?_ ?_ _); rotate_left; · (first | exact Nat.le_refl _ | (simp; done) | (simp; omega) | omega)) | (with_reducible apply Below.drew) | (with_reducible apply below_drewN') | (refine Below.trans ?_ (Below.mono (by assumption) (by first | exact Nat.le_refl _ | (simp; done) | (simp; omega) | omega))) | exact Below.refl _ _ | assumption)) (by repeat (first | (with_reducible exact Below.refl _ _) | (with_reducible assumption) | ((with_reducible refine Below.setCell ?_ ?_ _); rotate_left; · (first | exact Nat.le_refl _ | (simp; done) | (simp; omega) | omega)) | ((with_reducible refine Below.alloc ?_ ?_ _); rotate_left; · (first | exact Nat.le_refl _ | (simp; done) | (simp; omega) | omega)) | (with_reducible apply Below.drew) | (with_reducible apply below_drewN') | (refine Below.trans ?_ (Below.mono (by assumption) (by first | exact Nat.le_refl _ | (simp; done) | (simp; omega) | omega))) | exact Below.refl _ _ | assumption))
      case ca21R88 => (first | (simp [Act.put]; done) | (simp [Act.put, *]; done))
      try dsimp only
      refine wpW_branch [7, 11] (by kernel_rfl) (by simp) ?_
      intro w3 hg3 hS3
      replace M := M.gr hg3
      have q0 := M.cell HI.out
      have q1 := M.cell HK.out
      have ql := M.lt
      refine each_cons ?_ (each_cons ?_ (each_nil))
      · refine wpOp_go (by rfl) (Eq.refl _) (by go_simp; done) ?_
        intro K hK
        go_simp
        try simp only [Act.put]
        refine hK _ _ hS3 ?_
        clear hK K q0 q1 ql
        refine wpW_branch [11] (by kernel_rfl) (by simp) ?_
        intro w4 hg4 hS4
        replace M := M.gr hg4
        have q0 := M.cell HI.out
        have q1 := M.cell HK.out
        have ql := M.lt
        refine each_cons ?_ (each_nil)
        · refine wpOp_go (by rfl) (Eq.refl _) (by go_simp; done) ?_
          intro K hK
          go_simp
          try simp only [Act.put]
          refine hK _ _ hS4 ?_
          clear hK K q0 q1 ql
          refine wpW_det (t' := ?ct12R89) 12 (by rfl) (by kernel_rfl) (NQ_free _) (by kernel_rfl) ?cw12R89 ?ch12R89 ?ca12R89 (Eq.refl _) ?cH12R89
          case cw12R89 => (go_simp; done)
          case ch12R89 =>
            intro ds w' hS K hK
            have hc := (ocell hS).1
            have hf := (ocell hS).2
            have hz := hS.size
            try simp at hz
            go_simp
            try go_bits
            first
              | exact hK _ hS (Gr.refl _)
              | exact hK _ (by repeat (first | (with_reducible exact Below.refl _ _) | (with_reducible assumption) | ((with_reducible refine Below.setCell ?_ ?_ _); rotate_left; · (first | exact Nat.le_refl _ | (simp; done) | (simp; omega) | omega)) | ((with_reducible refine Below.alloc ?_ ?_ _); rotate_left; · (first | exact Nat.le_refl _ | (simp; done) | (simp; omega) | omega)) | (with_reducible apply Below.drew) | (with_reducible apply below_drewN') | (refine Below.trans ?_ (Below.mono (by assumption) (by first | exact Nat.le_refl _ | (simp; done) | (simp; omega) | omega))) | exact Below.refl _ _ | assumption)) (by repeat (first | (with_reducible exact Below.refl _ _) | (with_reducible assumption) | ((with_reducible refine Below.setCell ?_ ?_ _); rotate_left; · (first | exact Nat.le_refl _ | (simp; done) | (simp; omega) | omega)) | ((with_reducible refine Below.alloc ?_ ?_ _); rotate_left; · (first | exact Nat.le_refl _ | (simp; done) | (simp; omega) | omega)) | (with_reducible apply Below.drew) | (with_reducible apply below_drewN') | (refine Below.trans ?_ (Below.mono (by assumption) (by first | exact Nat.le_refl _ | (simp; done) | (simp; omega) | omega))) | exact Below.refl _ _ | assumption))
          case ca12R89 => (first | (simp [Act.put]; done) | (simp [Act.put, *]; done))
          try dsimp only
          refine wpW_det (t' := ?ct22R90) 22 (by rfl) (by kernel_rfl) (NQ_free _) (by kernel_rfl) ?cw22R90 ?ch22R90 ?ca22R90 (Eq.refl _) ?cH22R90
          case cw22R90 => (go_simp; done)
          case ch22R90 =>
            intro ds w' hS K hK
            have hc := (ocell hS).1
            have hf := (ocell hS).2
            have hz := hS.size
            try simp at hz
            go_simp
            try go_bits
            first
              | exact hK _ hS (Gr.refl _)
              | exact hK _ (by repeat (first | (with_reducible exact Below.refl _ _) | (with_reducible assumption) | ((with_reducible refine Below.setCell ?_ ?_ _); rotate_left; · (first | exact Nat.le_refl _ | (simp; done) | (simp; omega) | omega)) | ((with_reducible refine Below.alloc ?_ ?_ _); rotate_left; · (first | exact Nat.le_refl _ | (simp; done) | (simp; omega) | omega)) | (with_reducible apply Below.drew) | (with_reducible apply below_drewN') | (refine Below.trans ?_ (Below.mono (by assumption) (by first | exact Nat.le_refl _ | (simp; done) | (simp; omega) | omega))) | exact Below.refl _ _ | assumption)) (by repeat (first | (with_reducible exact Below.refl _ _) | (with_reducible assumption) | ((with_reducible refine Below.setCell ?_ ?_ _); rotate_left; · (first | exact Nat.le_refl _ | (simp; done) | (simp; omega) | omega)) | ((with_reducible refine Below.alloc ?_ ?_ _); rotate_left; · (first | exact Nat.le_refl _ | (simp; done) | (simp; omega) | omega)) | (with_reducible apply Below.drew) | (with_reducible apply below_drewN') | (refine Below.trans ?_ (Below.mono (by assumption) (by first | exact Nat.le_refl _ | (simp; done) | (simp; omega) | omega))) | exact Below.refl _ _ | assumption))
          case ca22R90 => (first | (simp [Act.put]; done) | (simp [Act.put, *]; done))
          try dsimp only
          refine wpW_branch [23] (by kernel_rfl) (by simp) ?_
          intro v1 hg_v1 hS_v1
          have M1 := M.gr hg_v1
          have q0 := M1.cell HI.out
          have qf := M1.frozen i
          have ql := M1.lt
          refine each_cons ?_ each_nil
          refine wpOp_go (by rfl) (Eq.refl _) (by go_simp; done) ?_
          intro K hK
          go_simp
          try simp only [Act.put]
          refine hK _ _ (by have := hS_v1; rw [HRW.out] at this ⊢; exact only_setCell this (.inl rfl) _) ?_
          clear hK K q0 qf ql
          have M2 := M1.put i (min fi fk)
          clear M1
          refine wpW_det (t' := ?ct24R91) 24 (by rfl) (by kernel_rfl) (NQ_free _) (by kernel_rfl) ?cw24R91 ?ch24R91 ?ca24R91 (Eq.refl _) ?cH24R91
          case cw24R91 => (go_simp; done)
          case ch24R91 =>
            intro ds w' hS K hK
            have hc := (ocell hS).1
            have hf := (ocell hS).2
            have hz := hS.size
            try simp at hz
            go_simp
            try go_bits
            first
              | exact hK _ hS (Gr.refl _)
              | exact hK _ (by repeat (first | (with_reducible exact Below.refl _ _) | (with_reducible assumption) | ((with_reducible refine Below.setCell ?_ ?_ _); rotate_left; · (first | exact Nat.le_refl _ | (simp; done) | (simp; omega) | omega)) | ((with_reducible refine Below.alloc ?_ ?_ _); rotate_left; · (first | exact Nat.le_refl _ | (simp; done) | (simp; omega) | omega)) | (with_reducible apply Below.drew) | (with_reducible apply below_drewN') | (refine Below.trans ?_ (Below.mono (by assumption) (by first | exact Nat.le_refl _ | (simp; done) | (simp; omega) | omega))) | exact Below.refl _ _ | assumption)) (by repeat (first | (with_reducible exact Below.refl _ _) | (with_reducible assumption) | ((with_reducible refine Below.setCell ?_ ?_ _); rotate_left; · (first | exact Nat.le_refl _ | (simp; done) | (simp; omega) | omega)) | ((with_reducible refine Below.alloc ?_ ?_ _); rotate_left; · (first | exact Nat.le_refl _ | (simp; done) | (simp; omega) | omega)) | (with_reducible apply Below.drew) | (with_reducible apply below_drewN') | (refine Below.trans ?_ (Below.mono (by assumption) (by first | exact Nat.le_refl _ | (simp; done) | (simp; omega) | omega))) | exact Below.refl _ _ | assumption))
          case ca24R91 => (first | (simp [Act.put]; done) | (simp [Act.put, *]; done))
          try dsimp only
          refine wpW_branch [25] (by kernel_rfl) (by simp) ?_
          intro v2 hg_v2 hS_v2
          have M3 := M2.gr hg_v2
          have q1 := M3.cell (k := k) (x := fk) (by rw [List.getElem?_set_ne (by omega)]; exact HK.out)
          have qf := M3.frozen k
          have ql := M3.lt
          refine each_cons ?_ each_nil
          refine wpOp_go (by rfl) (Eq.refl _) (by go_simp; done) ?_
          intro K hK
          go_simp
          try simp only [Act.put]
          refine hK _ _ (by have := hS_v2; rw [HRW.out] at this ⊢; exact only_setCell this (.inl rfl) _) ?_
          clear hK K q1 qf ql
          have M4 := M3.put k (min fi fk)
          clear M3 M2
          refine wpW_det (t' := ?ct26R92) 26 (by rfl) (by kernel_rfl) (NQ_free _) (by kernel_rfl) ?cw26R92 ?ch26R92 ?ca26R92 (Eq.refl _) ?cH26R92
          case cw26R92 => (go_simp; done)
          case ch26R92 =>
            intro ds w' hS K hK
            have hc := (ocell hS).1
            have hf := (ocell hS).2
            have hz := hS.size
            try simp at hz
            go_simp
            try go_bits
            first
              | exact hK _ hS (Gr.refl _)
              | exact hK _ (by repeat (first | (with_reducible exact Below.refl _ _) | (with_reducible assumption) | ((with_reducible refine Below.setCell ?_ ?_ _); rotate_left; · (first | exact Nat.le_refl _ | (simp; done) | (simp; omega) | omega)) | ((with_reducible refine Below.alloc ?_ ?_ _); rotate_left; · (first | exact Nat.le_refl _ | (simp; done) | (simp; omega) | omega)) | (with_reducible apply Below.drew) | (with_reducible apply below_drewN') | (refine Below.trans ?_ (Below.mono (by assumption) (by first | exact Nat.le_refl _ | (simp; done) | (simp; omega) | omega))) | exact Below.refl _ _ | assumption)) (by repeat (first | (with_reducible exact Below.refl _ _) | (with_reducible assumption) | ((with_reducible refine Below.setCell ?_ ?_ _); rotate_left; · (first | exact Nat.le_refl _ | (simp; done) | (simp; omega) | omega)) | ((with_reducible refine Below.alloc ?_ ?_ _); rotate_left; · (first | exact Nat.le_refl _ | (simp; done) | (simp; omega) | omega)) | (with_reducible apply Below.drew) | (with_reducible apply below_drewN') | (refine Below.trans ?_ (Below.mono (by assumption) (by first | exact Nat.le_refl _ | (simp; done) | (simp; omega) | omega))) | exact Below.refl _ _ | assumption))
          case ca26R92 => (first | (simp [Act.put]; done) | (simp [Act.put, *]; done))
          try dsimp only
          refine wpW_end (by kernel_rfl) ?_
          intro we hg hS
          unfold NQ
          dsimp only
          exact H.out _ _ _ _ _ _ _ _ _ _ _ _ _ _ _ _ _ _ _ _ _ _ _ _ we (M4.gr hg)
      · refine wpOp_go (by rfl) (Eq.refl _) (by go_simp; done) ?_
        intro K hK
        go_simp
        try simp only [Act.put]
        refine hK _ _ hS3 ?_
        clear hK K q0 q1 ql
        refine wpW_branch [7] (by kernel_rfl) (by simp) ?_
        intro w4 hg4 hS4
        replace M := M.gr hg4
        have q0 := M.cell HI.out
        have q1 := M.cell HK.out
        have ql := M.lt
        refine each_cons ?_ (each_nil)
        · refine wpOp_go (by rfl) (Eq.refl _) (by go_simp; done) ?_
          intro K hK
          go_simp
          try simp only [Act.put]
          refine hK _ _ hS4 ?_
          clear hK K q0 q1 ql
          refine wpW_det (t' := ?ct12R93) 12 (by rfl) (by kernel_rfl) (NQ_free _) (by kernel_rfl) ?cw12R93 ?ch12R93 ?ca12R93 (Eq.refl _) ?cH12R93
          case cw12R93 => (go_simp; done)
          case ch12R93 =>
            intro ds w' hS K hK
            have hc := (ocell hS).1
            have hf := (ocell hS).2
            have hz := hS.size
            try simp at hz
            go_simp
            try go_bits
            first
              | exact hK _ hS (Gr.refl _)
              | exact hK _ (by repeat (first | (with_reducible exact Below.refl _ _) | (with_reducible assumption) | ((with_reducible refine Below.setCell ?_ ?_ _); rotate_left; · (first | exact Nat.le_refl _ | (simp; done) | (simp; omega) | omega)) | ((with_reducible refine Below.alloc ?_ ?_ _); rotate_left; · (first | exact Nat.le_refl _ | (simp; done) | (simp; omega) | omega)) | (with_reducible apply Below.drew) | (with_reducible apply below_drewN') | (refine Below.trans ?_ (Below.mono (by assumption) (by first | exact Nat.le_refl _ | (simp; done) | (simp; omega) | omega))) | exact Below.refl _ _ | assumption)) (by repeat (first | (with_reducible exact Below.refl _ _) | (with_reducible assumption) | ((with_reducible refine Below.setCell ?_ ?_ _); rotate_left; · (first | exact Nat.le_refl _ | (simp; done) | (simp; omega) | omega)) | ((with_reducible refine Below.alloc ?_ ?_ _); rotate_left; · (first | exact Nat.le_refl _ | (simp; done) | (simp; omega) | omega)) | (with_reducible apply Below.drew) | (with_reducible apply below_drewN') | (refine Below.trans ?_ (Below.mono (by assumption) (by first | exact Nat.le_refl _ | (simp; done) | (simp; omega) | omega))) | exact Below.refl _ _ | assumption))
          case ca12R93 => (first | (simp [Act.put]; done) | (simp [Act.put, *]; done))
          try dsimp only
          refine wpW_det (t' := ?ct22R94) 22 (by rfl) (by kernel_rfl) (NQ_free _) (by kernel_rfl) ?cw22R94 ?ch22R94 ?ca22R94 (Eq.refl _) ?cH22R94
          case cw22R94 => (go_simp; done)
          case ch22R94 =>
            intro ds w' hS K hK
            have hc := (ocell hS).1
            have hf := (ocell hS).2
            have hz := hS.size
            try simp at hz
            go_simp
            try go_bits
            first
              | exact hK _ hS (Gr.refl _)
              | exact hK _ (by repeat (first | (with_reducible exact Below.refl _ _) | (with_reducible assumption) | ((with_reducible refine Below.setCell ?_ ?_ _); rotate_left; · (first | exact Nat.le_refl _ | (simp; done) | (simp; omega) | omega)) | ((with_reducible refine Below.alloc ?_ ?_ _); rotate_left; · (first | exact Nat.le_refl _ | (simp; done) | (simp; omega) | omega)) | (with_reducible apply Below.drew) | (with_reducible apply below_drewN') | (refine Below.trans ?_ (Below.mono (by assumption) (by first | exact Nat.le_refl _ | (simp; done) | (simp; omega) | omega))) | exact Below.refl _ _ | assumption)) (by repeat (first | (with_reducible exact Below.refl _ _) | (with_reducible assumption) | ((with_reducible refine Below.setCell ?_ ?_ _); rotate_left; · (first | exact Nat.le_refl _ | (simp; done) | (simp; omega) | omega)) | ((with_reducible refine Below.alloc ?_ ?_ _); rotate_left; · (first | exact Nat.le_refl _ | (simp; done) | (simp; omega) | omega)) | (with_reducible apply Below.drew) | (with_reducible apply below_drewN') | (refine Below.trans ?_ (Below.mono (by assumption) (by first | exact Nat.le_refl _ | (simp; done) | (simp; omega) | omega))) | exact Below.refl _ _ | assumption))
          case ca22R94 => (first | (simp [Act.put]; done) | (simp [Act.put, *]; done))
          try dsimp only
          refine wpW_branch [23] (by kernel_rfl) (by simp) ?_
          intro v1 hg_v1 hS_v1
          have M1 := M.gr hg_v1
          have q0 := M1.cell HI.out
          have qf := M1.frozen i
          have ql := M1.lt
          refine each_cons ?_ each_nil
          refine wpOp_go (by rfl) (Eq.refl _) (by go_simp; done) ?_
          intro K hK
          go_simp
          try simp only [Act.put]
          refine hK _ _ (by have := hS_v1; rw [HRW.out] at this ⊢; exact only_setCell this (.inl rfl) _) ?_
          clear hK K q0 qf ql
          have M2 := M1.put i (min fi fk)
          clear M1
          refine wpW_det (t' := ?ct24R95) 24 (by rfl) (by kernel_rfl) (NQ_free _) (by kernel_rfl) ?cw24R95 ?ch24R95 ?ca24R95 (Eq.refl _) ?cH24R95
          case cw24R95 => (go_simp; done)
          case ch24R95 =>
            intro ds w' hS K hK
            have hc := (ocell hS).1
            have hf := (ocell hS).2
            have hz := hS.size
            try simp at hz
            go_simp
            try go_bits
            first
              | exact hK _ hS (Gr.refl _)
              | exact hK _ (by repeat (first | (with_reducible exact Below.refl _ _) | (with_reducible assumption) | ((with_reducible refine Below.setCell ?_ ?_ _); rotate_left; · (first | exact Nat.le_refl _ | (simp; done) | (simp; omega) | omega)) | ((with_reducible refine Below.alloc ?_ ?_ _); rotate_left; · (first | exact Nat.le_refl _ | (simp; done) | (simp; omega) | omega)) | (with_reducible apply Below.drew) | (with_reducible apply below_drewN') | (refine Below.trans ?_ (Below.mono (by assumption) (by first | exact Nat.le_refl _ | (simp; done) | (simp; omega) | omega))) | exact Below.refl _ _ | assumption)) (by repeat (first | (with_reducible exact Below.refl _ _) | (with_reducible assumption) | ((with_reducible refine Below.setCell ?_ ?_ _); rotate_left; · (first | exact Nat.le_refl _ | (simp; done) | (simp; omega) | omega)) | ((with_reducible refine Below.alloc ?_ ?_ _); rotate_left; · (first | exact Nat.le_refl _ | (simp; done) | (simp; omega) | omega)) | (with_reducible apply Below.drew) | (with_reducible apply below_drewN') | (refine Below.trans ?_ (Below.mono (by assumption) (by first | exact Nat.le_refl _ | (simp; done) | (simp; omega) | omega))) | exact Below.refl _ _ | assumption))
          case ca24R95 => (first | (simp [Act.put]; done) | (simp [Act.put, *]; done))
          try dsimp only
          refine wpW_branch [25] (by kernel_rfl) (by simp) ?_
          intro v2 hg_v2 hS_v2
          have M3 := M2.gr hg_v2
          have q1 := M3.cell (k := k) (x := fk) (by rw [List.getElem?_set_ne (by omega)]; exact HK.out)
          have qf := M3.frozen k
          have ql := M3.lt
          refine each_cons ?_ each_nil
          refine wpOp_go (by rfl) (Eq.refl _) (by go_simp; done) ?_
          intro K hK
          go_simp
          try simp only [Act.put]
          refine hK _ _ (by have := hS_v2; rw [HRW.out] at this ⊢; exact only_setCell this (.inl rfl) _) ?_
          clear hK K q1 qf ql
          have M4 := M3.put k (min fi fk)
          clear M3 M2
          refine wpW_det (t' := ?ct26R96) 26 (by rfl) (by kernel_rfl) (NQ_free _) (by kernel_rfl) ?cw26R96 ?ch26R96 ?ca26R96 (Eq.refl _) ?cH26R96
          case cw26R96 => (go_simp; done)
          case ch26R96 =>
            intro ds w' hS K hK
            have hc := (ocell hS).1
            have hf := (ocell hS).2
            have hz := hS.size
            try simp at hz
            go_simp
            try go_bits
            first
              | exact hK _ hS (Gr.refl _)
              | exact hK _ (by repeat (first | (with_reducible exact Below.refl _ _) | (with_reducible assumption) | ((with_reducible refine Below.setCell ?_ ?_ _); rotate_left; · (first | exact Nat.le_refl _ | (simp; done) | (simp; omega) | omega)) | ((with_reducible refine Below.alloc ?_ ?_ _); rotate_left; · (first | exact Nat.le_refl _ | (simp; done) | (simp; omega) | omega)) | (with_reducible apply Below.drew) | (with_reducible apply below_drewN') | (refine Below.trans ?_ (Below.mono (by assumption) (by first | exact Nat.le_refl _ | (simp; done) | (simp; omega) | omega))) | exact Below.refl _ _ | assumption)) (by repeat (first | (with_reducible exact Below.refl _ _) | (with_reducible assumption) | ((with_reducible refine Below.setCell ?_ ?_ _); rotate_left; · (first | exact Nat.le_refl _ | (simp; done) | (simp; omega) | omega)) | ((with_reducible refine Below.alloc ?_ ?_ _); rotate_left; · (first | exact Nat.le_refl _ | (simp; done) | (simp; omega) | omega)) | (with_reducible apply Below.drew) | (with_reducible apply below_drewN') | (refine Below.trans ?_ (Below.mono (by assumption) (by first | exact Nat.le_refl _ | (simp; done) | (simp; omega) | omega))) | exact Below.refl _ _ | assumption))
          case ca26R96 => (first | (simp [Act.put]; done) | (simp [Act.put, *]; done))
          try dsimp only
          refine wpW_end (by kernel_rfl) ?_
          intro we hg hS
          unfold NQ
          dsimp only
          exact H.out _ _ _ _ _ _ _ _ _ _ _ _ _ _ _ _ _ _ _ _ _ _ _ _ we (M4.gr hg)
  · refine wpOp_go (by rfl) (Eq.refl _) (by go_simp; done) ?_
    intro K hK
    go_simp
    try simp only [Act.put]
    refine hK _ _ hS1 ?_
    clear hK K q0 q1 ql
    refine wpW_branch [7, 11, 16] (by kernel_rfl) (by simp) ?_
    intro w2 hg2 hS2
    replace M := M.gr hg2
    have q0 := M.cell HI.out
    have q1 := M.cell HK.out
    have ql := M.lt
    refine each_cons ?_ (each_cons ?_ (each_cons ?_ (each_nil)))
    · refine wpOp_go (by rfl) (Eq.refl _) (by go_simp; done) ?_
      intro K hK
      go_simp
      try simp only [Act.put]
      refine hK _ _ hS2 ?_
      clear hK K q0 q1 ql
      refine wpW_branch [11, 16] (by kernel_rfl) (by simp) ?_
      intro w3 hg3 hS3
      replace M := M.gr hg3
      have q0 := M.cell HI.out
      have q1 := M.cell HK.out
      have ql := M.lt
      refine each_cons ?_ (each_cons ?_ (each_nil))
      · refine wpOp_go (by rfl) (Eq.refl _) (by go_simp; done) ?_
        intro K hK
        go_simp
        try simp only [Act.put]
        refine hK _ _ hS3 ?_
        clear hK K q0 q1 ql
        refine wpW_det (t' := ?ct12R97) 12 (by rfl) (by kernel_rfl) (NQ_free _) (by kernel_rfl) ?cw12R97 ?ch12R97 ?ca12R97 (Eq.refl _) ?cH12R97
        case cw12R97 => (go_simp; done)
        case ch12R97 =>
          intro ds w' hS K hK
          have hc := (ocell hS).1
          have hf := (ocell hS).2
          have hz := hS.size
          try simp at hz
          go_simp
          try go_bits
          first
            | exact hK _ hS (Gr.refl _)
            | exact hK _ (by repeat (first | (with_reducible exact Below.refl _ _) | (with_reducible assumption) | ((with_reducible refine Below.setCell ?_ ?_ _); rotate_left; · (first | exact Nat.le_refl _ | (simp; done) | (simp; omega) | omega)) | ((with_reducible refine Below.alloc ?_ ?_ _); rotate_left; · (first | exact Nat.le_refl _ | (simp; done) | (simp; omega) | omega)) | (with_reducible apply Below.drew) | (with_reducible apply below_drewN') | (refine Below.trans ?_ (Below.mono (by assumption) (by first | exact Nat.le_refl _ | (simp; done) | (simp; omega) | omega))) | exact Below.refl _ _ | assumption)) (by repeat (first | (with_reducible exact Below.refl _ _) | (with_reducible assumption) | ((with_reducible refine Below.setCell ?_ ?_ _); rotate_left; · (first | exact Nat.le_refl _ | (simp; done) | (simp; omega) | omega)) | ((with_reducible refine Below.alloc ?_ ?_ _); rotate_left; · (first | exact Nat.le_refl _ | (simp; done) | (simp; omega) | omega)) | (with_reducible apply Below.drew) | (with_reducible apply below_drewN') | (refine Below.trans ?_ (Below.mono (by assumption) (by first | exact Nat.le_refl _ | (simp; done) | (simp; omega) | omega))) | exact Below.refl _ _ | assumption))
        case ca12R97 => (first | (simp [Act.put]; done) | (simp [Act.put, *]; done))
        try dsimp only
        refine wpW_branch [16] (by kernel_rfl) (by simp) ?_
        intro w4 hg4 hS4
        replace M := M.gr hg4
        have q0 := M.cell HI.out
        have q1 := M.cell HK.out
        have ql := M.lt
        refine each_cons ?_ (each_nil)
        · refine wpOp_go (by rfl) (Eq.refl _) (by go_simp; done) ?_
          intro K hK
          go_simp
          try simp only [Act.put]
          refine hK _ _ hS4 ?_
          clear hK K q0 q1 ql
          refine wpW_det (t' := ?ct21R98) 21 (by rfl) (by kernel_rfl) (NQ_free _) (by kernel_rfl) ?cw21R98 ?ch21R98 ?ca21R98 (Eq.refl _) ?cH21R98
          case cw21R98 => (go_simp; done)
          case ch21R98 =>
            intro ds w' hS K hK
            have hc := (ocell hS).1
            have hf := (ocell hS).2
            have hz := hS.size
            try simp at hz
            go_simp
            try go_bits
            first
              | exact hK _ hS (Gr.refl _)
              | exact hK _ (by repeat (first | (with_reducible exact Below.refl _ _) | (with_reducible assumption) | ((with_reducible refine Below.setCell ?_ ?_ _); rotate_left; · (first | exact Nat.le_refl _ | (simp; done) | (simp; omega) | omega)) | ((with_reducible refine Below.alloc ?_ ?_ _); rotate_left; · (first | exact Nat.le_refl _ | (simp; done) | (simp; omega) | omega)) | (with_reducible apply Below.drew) | (with_reducible apply below_drewN') | (refine Below.trans ?_ (Below.mono (by assumption) (by first | exact Nat.le_refl _ | (simp; done) | (simp; omega) | omega))) | exact Below.refl _ _ | assumption)) (by repeat (first | (with_reducible exact Below.refl _ _) | (with_reducible assumption) | ((with_reducible refine Below.setCell ?_ ?_ _); rotate_left; · (first | exact Nat.le_refl _ | (simp; done) | (simp; omega) | omega)) | ((with_reducible refine Below.alloc ?_ ?_ _); rotate_left; · (first | exact Nat.le_refl _ | (simp; done) | (simp; omega) | omega)) | (with_reducible apply Below.drew) | (with_reducible apply below_drewN') | (refine Below.trans ?_ (Below.mono (by assumption) (by first | exact Nat.le_refl _ | (simp; done) | (simp; omega) | omega))) | exact Below.refl _ _ | assumption))
          case ca21R98 => (first | (simp [Act.put]; done) | (simp [Act.put, *]; done))
          try dsimp only
          refine wpW_det (t' := ?ct22R99) 22 (by rfl) (by kernel_rfl) (NQ_free _) (by kernel_rfl) ?cw22R99 ?ch22R99 ?ca22R99 (Eq.refl _) ?cH22R99
          case cw22R99 => (go_simp; done)
          case ch22R99 =>
            intro ds w' hS K hK
            have hc := (ocell hS).1
            have hf := (ocell hS).2
            have hz := hS.size
            try simp at hz
            go_simp
            try go_bits
            first
              | exact hK _ hS (Gr.refl _)
              | exact hK _ (by repeat (first | (with_reducible exact Below.refl _ _) | (with_reducible assumption) | ((with_reducible refine Below.setCell ?_ ?_ _); rotate_left; · (first | exact Nat.le_refl _ | (simp; done) | (simp; omega) | omega)) | ((with_reducible refine Below.alloc ?_ ?_ _); rotate_left; · (first | exact Nat.le_refl _ | (simp; done) | (simp; omega) | omega)) | (with_reducible apply Below.drew) | (with_reducible apply below_drewN') | (refine Below.trans ?_ (Below.mono (by assumption) (by first | exact Nat.le_refl _ | (simp; done) | (simp; omega) | omega))) | exact Below.refl _ _ | assumption)) (by repeat (first | (with_reducible exact Below.refl _ _) | (with_reducible assumption) | ((with_reducible refine Below.setCell ?_ ?_ _); rotate_left; · (first | exact Nat.le_refl _ | (simp; done) | (simp; omega) | omega)) | ((with_reducible refine Below.alloc ?_ ?_ _); rotate_left; · (first | exact Nat.le_refl _ | (simp; done) | (simp; omega) | omega)) | (with_reducible apply Below.drew) | (with_reducible apply below_drewN') | (refine Below.trans ?_ (Below.mono (by assumption) (by first | exact Nat.le_refl _ | (simp; done) | (simp; omega) | omega))) | exact Below.refl _ _ | assumption))
          case ca22R99 => (first | (simp [Act.put]; done) | (simp [Act.put, *]; done))
          try dsimp only
          refine wpW_branch [23] (by kernel_rfl) (by simp) ?_
          intro v1 hg_v1 hS_v1
          have M1 := M.gr hg_v1
          have q0 := M1.cell HI.out
          have qf := M1.frozen i
          have ql := M1.lt
          refine each_cons ?_ each_nil
          refine wpOp_go (by rfl) (Eq.refl _) (by go_simp; done) ?_
          intro K hK
          go_simp
          try simp only [Act.put]
          refine hK _ _ (by have := hS_v1; rw [HRW.out] at this ⊢; exact only_setCell this (.inl rfl) _) ?_
          clear hK K q0 qf ql
          have M2 := M1.put i (min fi fk)
          clear M1
          refine wpW_det (t' := ?ct24R100) 24 (by rfl) (by kernel_rfl) (NQ_free _) (by kernel_rfl) ?cw24R100 ?ch24R100 ?ca24R100 (Eq.refl _) ?cH24R100
          case cw24R100 => (go_simp; done)
          case ch24R100 =>
            intro ds w' hS K hK
            have hc := (ocell hS).1
            have hf := (ocell hS).2
            have hz := hS.size
            try simp at hz
            go_simp
            try go_bits
            first
              | exact hK _ hS (Gr.refl _)
              | exact hK _ (by repeat (first | (with_reducible exact Below.refl _ _) | (with_reducible assumption) | ((with_reducible refine Below.setCell ?_ ?_ _); rotate_left; · (first | exact Nat.le_refl _ | (simp; done) | (simp; omega) | omega)) | ((with_reducible refine Below.alloc ?_ ?_ _); rotate_left; · (first | exact Nat.le_refl _ | (simp; done) | (simp; omega) | omega)) | (with_reducible apply Below.drew) | (with_reducible apply below_drewN') | (refine Below.trans ?_ (Below.mono (by assumption) (by first | exact Nat.le_refl _ | (simp; done) | (simp; omega) | omega))) | exact Below.refl _ _ | assumption)) (by repeat (first | (with_reducible exact Below.refl _ _) | (with_reducible assumption) | ((with_reducible refine Below.setCell ?_ ?_ _); rotate_left; · (first | exact Nat.le_refl _ | (simp; done) | (simp; omega) | omega)) | ((with_reducible refine Below.alloc ?_ ?_ _); rotate_left; · (first | exact Nat.le_refl _ | (simp; done) | (simp; omega) | omega)) | (with_reducible apply Below.drew) | (with_reducible apply below_drewN') | (refine Below.trans ?_ (Below.mono (by assumption) (by first | exact Nat.le_refl _ | (simp; done) | (simp; omega) | omega))) | exact Below.refl _ _ | assumption))
          case ca24R100 => (first | (simp [Act.put]; done) | (simp [Act.put, *]; done))
          try dsimp only
          refine wpW_branch [25] (by kernel_rfl) (by simp) ?_
          intro v2 hg_v2 hS_v2
          have M3 := M2.gr hg_v2
          have q1 := M3.cell (k := k) (x := fk) (by rw [List.getElem?_set_ne (by omega)]; exact HK.out)
          have qf := M3.frozen k
          have ql := M3.lt
          refine each_cons ?_ each_nil
          refine wpOp_go (by rfl) (Eq.refl _) (by go_simp; done) ?_
          intro K hK
          go_simp
          try simp only [Act.put]
          refine hK _ _ (by have := hS_v2; rw [HRW.out] at this ⊢; exact only_setCell this (.inl rfl) _) ?_
          clear hK K q1 qf ql
          have M4 := M3.put k (min fi fk)
          clear M3 M2
          refine wpW_det (t' := ?ct26R101) 26 (by rfl) (by kernel_rfl) (NQ_free _) (by kernel_rfl) ?cw26R101 ?ch26R101 ?ca26R101 (Eq.refl _) ?cH26R101
          case cw26R101 => (go_simp; done)
          case ch26R101 =>
            intro ds w' hS K hK
            have hc := (ocell hS).1
            have hf := (ocell hS).2
            have hz := hS.size
            try simp at hz
            go_simp
            try go_bits
            first
              | exact hK _ hS (Gr.refl _)
              | exact hK _ (by repeat (first | (with_reducible exact Below.refl _ _) | (with_reducible assumption) | ((with_reducible refine Below.setCell ?_ ?_ _); rotate_left; · (first | exact Nat.le_refl _ | (simp; done) | (simp; omega) | omega)) | ((with_reducible refine Below.alloc ?_ ?_ _); rotate_left; · (first | exact Nat.le_refl _ | (simp; done) | (simp; omega) | omega)) | (with_reducible apply Below.drew) | (with_reducible apply below_drewN') | (refine Below.trans ?_ (Below.mono (by assumption) (by first | exact Nat.le_refl _ | (simp; done) | (simp; omega) | omega))) | exact Below.refl _ _ | assumption)) (by repeat (first | (with_reducible exact Below.refl _ _) | (with_reducible assumption) | ((with_reducible refine Below.setCell ?_ ?_ _); rotate_left; · (first | exact Nat.le_refl _ | (simp; done) | (simp; omega) | omega)) | ((with_reducible refine Below.alloc ?_ ?_ _); rotate_left; · (first | exact Nat.le_refl _ | (simp; done) | (simp; omega) | omega)) | (with_reducible apply Below.drew) | (with_reducible apply below_drewN') | (refine Below.trans ?_ (Below.mono (by assumption) (by first | exact Nat.le_refl _ | (simp; done) | (simp; omega) | omega))) | exact Below.refl _ _ | assumption))
          case ca26R101 => (first | (simp [Act.put]; done) | (simp [Act.put, *]; done))
          try dsimp only
          refine wpW_end (by kernel_rfl) ?_
          intro we hg hS
          unfold NQ
          dsimp only
          exact H.out _ _ _ _ _ _ _ _ _ _ _ _ _ _ _ _ _ _ _ _ _ _ _ _ we (M4.gr hg)
      · refine wpOp_go (by rfl) (Eq.refl _) (by go_simp; done) ?_
        intro K hK
        go_simp
        try simp only [Act.put]
        refine hK _ _ hS3 ?_
        clear hK K q0 q1 ql
        refine wpW_det (t' := ?ct21R102) 21 (by rfl) (by kernel_rfl) (NQ_free _) (by kernel_rfl) ?cw21R102 ?ch21R102 ?ca21R102 (Eq.refl _) ?cH21R102
        case cw21R102 => (go_simp; done)
        case ch21R102 =>
          intro ds w' hS K hK
          have hc := (ocell hS).1
          have hf := (ocell hS).2
          have hz := hS.size
          try simp at hz
          go_simp
          try go_bits
          first
            | exact hK _ hS (Gr.refl _)
            | exact hK _ (by repeat (first | (with_reducible exact Below.refl _ _) | (with_reducible assumption) | ((with_reducible refine Below.setCell ?_ ?_ _); rotate_left; · (first | exact Nat.le_refl _ | (simp; done) | (simp; omega) | omega)) | ((with_reducible refine Below.alloc ?_ ?_ _); rotate_left; · (first | exact Nat.le_refl _ | (simp; done) | (simp; omega) | omega)) | (with_reducible apply Below.drew) | (with_reducible apply below_drewN') | (refine Below.trans ?_ (Below.mono (by assumption) (by first | exact Nat.le_refl _ | (simp; done) | (simp; omega) | omega))) | exact Below.refl _ _ | assumption)) (by repeat (first | (with_reducible exact Below.refl _ _) | (with_reducible assumption) | ((with_reducible refine Below.setCell ?_ ?_ _); rotate_left; · (first | exact Nat.le_refl _ | (simp; done) | (simp; omega) | omega)) | ((with_reducible refine Below.alloc ?_ ?_ _); rotate_left; · (first | exact Nat.le_refl _ | (simp; done) | (simp; omega) | omega)) | (with_reducible apply Below.drew) | (with_reducible apply below_drewN') | (refine Below.trans ?_ (Below.mono (by assumption) (by first | exact Nat.le_refl _ | (simp; done) | (simp; omega) | omega))) | exact Below.refl _ _ | assumption))
        case ca21R102 => (first | (simp [Act.put]; done) | (simp [Act.put, *]; done))
        try dsimp only
        refine wpW_branch [11] (by kernel_rfl) (by simp) ?_
        intro w4 hg4 hS4
        replace M := M.gr hg4
        have q0 := M.cell HI.out
        have q1 := M.cell HK.out
        have ql := M.lt
        refine each_cons ?_ (each_nil)
        · refine wpOp_go (by rfl) (Eq.refl _) (by go_simp; done) ?_
          intro K hK
          go_simp
          try simp only [Act.put]
          refine hK _ _ hS4 ?_
          clear hK K q0 q1 ql
          refine wpW_det (t' := ?ct12R103) 12 (by rfl) (by kernel_rfl) (NQ_free _) (by kernel_rfl) ?cw12R103 ?ch12R103 ?ca12R103 (Eq.refl _) ?cH12R103
          case cw12R103 => (go_simp; done)
          case ch12R103 =>
            intro ds w' hS K hK
            have hc := (ocell hS).1
            have hf := (ocell hS).2
            have hz := hS.size
            try simp at hz
            go_simp
            try go_bits
            first
              | exact hK _ hS (Gr.refl _)
              | exact hK _ (by repeat (first | (with_reducible exact Below.refl _ _) | (with_reducible assumption) | ((with_reducible refine Below.setCell ?_ ?_ _); rotate_left; · (first | exact Nat.le_refl _ | (simp; done) | (simp; omega) | omega)) | ((with_reducible refine Below.alloc ?_ ?_ _); rotate_left; · (first | exact Nat.le_refl _ | (simp; done) | (simp; omega) | omega)) | (with_reducible apply Below.drew) | (with_reducible apply below_drewN') | (refine Below.trans ?_ (Below.mono (by assumption) (by first | exact Nat.le_refl _ | (simp; done) | (simp; omega) | omega))) | exact Below.refl _ _ | assumption)) (by repeat (first | (with_reducible exact Below.refl _ _) | (with_reducible assumption) | ((with_reducible refine Below.setCell ?_ ?_ _); rotate_left; · (first | exact Nat.le_refl _ | (simp; done) | (simp; omega) | omega)) | ((with_reducible refine Below.alloc ?_ ?_ _); rotate_left; · (first | exact Nat.le_refl _ | (simp; done) | (simp; omega) | omega)) | (with_reducible apply Below.drew) | (with_reducible apply below_drewN') | (refine Below.trans ?_ (Below.mono (by assumption) (by first | exact Nat.le_refl _ | (simp; done) | (simp; omega) | omega))) | exact Below.refl _ _ | assumption))
          case ca12R103 => (first | (simp [Act.put]; done) | (simp [Act.put, *]; done))
          try dsimp only
          refine wpW_det (t' := ?ct22R104) 22 (by rfl) (by kernel_rfl) (NQ_free _) (by kernel_rfl) ?cw22R104 ?ch22R104 ?ca22R104 (Eq.refl _) ?cH22R104
          case cw22R104 => (go_simp; done)
          case ch22R104 =>
            intro ds w' hS K hK
            have hc := (ocell hS).1
            have hf := (ocell hS).2
            have hz := hS.size
            try simp at hz
            go_simp
            try go_bits
            first
              | exact hK _ hS (Gr.refl _)
              | exact hK _ (by repeat (first | (with_reducible exact Below.refl _ _) | (with_reducible assumption) | ((with_reducible refine Below.setCell ?_ ?_ _); rotate_left; · (first | exact Nat.le_refl _ | (simp; done) | (simp; omega) | omega)) | ((with_reducible refine Below.alloc ?_ ?_ _); rotate_left; · (first | exact Nat.le_refl _ | (simp; done) | (simp; omega) | omega)) | (with_reducible apply Below.drew) | (with_reducible apply below_drewN') | (refine Below.trans ?_ (Below.mono (by assumption) (by first | exact Nat.le_refl _ | (simp; done) | (simp; omega) | omega))) | exact Below.refl _ _ | assumption)) (by repeat (first | (with_reducible exact Below.refl _ _) | (with_reducible assumption) | ((with_reducible refine Below.setCell ?_ ?_ _); rotate_left; · (first | exact Nat.le_refl _ | (simp; done) | (simp; omega) | omega)) | ((with_reducible refine Below.alloc ?_ ?_ _); rotate_left; · (first | exact Nat.le_refl _ | (simp; done) | (simp; omega) | omega)) | (with_reducible apply Below.drew) | (with_reducible apply below_drewN') | (refine Below.trans ?_ (Below.mono (by assumption) (by first | exact Nat.le_refl _ | (simp; done) | (simp; omega) | omega))) | exact Below.refl _ _ | assumption))
          case ca22R104 => (first | (simp [Act.put]; done) | (simp [Act.put, *]; done))
          try dsimp only
          refine wpW_branch [23] (by kernel_rfl) (by simp) ?_
          intro v1 hg_v1 hS_v1
          have M1 := M.gr hg_v1
          have q0 := M1.cell HI.out
          have qf := M1.frozen i
          have ql := M1.lt
          refine each_cons ?_ each_nil
          refine wpOp_go (by rfl) (Eq.refl _) (by go_simp; done) ?_
          intro K hK
          go_simp
          try simp only [Act.put]
          refine hK _ _ (by have := hS_v1; rw [HRW.out] at this ⊢; exact only_setCell this (.inl rfl) _) ?_
          clear hK K q0 qf ql
          have M2 := M1.put i (min fi fk)
          clear M1
          refine wpW_det (t' := ?ct24R105) 24 (by rfl) (by kernel_rfl) (NQ_free _) (by kernel_rfl) ?cw24R105 ?ch24R105 ?ca24R105 (Eq.refl _) ?cH24R105
          case cw24R105 => (go_simp; done)
          case ch24R105 =>
            intro ds w' hS K hK
            have hc := (ocell hS).1
            have hf := (ocell hS).2
            have hz := hS.size
            try simp at hz
            go_simp
            try go_bits
            first
              | exact hK _ hS (Gr.refl _)
              | exact hK _ (by repeat (first | (with_reducible exact Below.refl _ _) | (with_reducible assumption) | ((with_reducible refine Below.setCell ?_ ?_ _); rotate_left; · (first | exact Nat.le_refl _ | (simp; done) | (simp; omega) | omega)) | ((with_reducible refine Below.alloc ?_ ?_ _); rotate_left; · (first | exact Nat.le_refl _ | (simp; done) | (simp; omega) | omega)) | (with_reducible apply Below.drew) | (with_reducible apply below_drewN') | (refine Below.trans ?_ (Below.mono (by assumption) (by first | exact Nat.le_refl _ | (simp; done) | (simp; omega) | omega))) | exact Below.refl _ _ | assumption)) (by repeat (first | (with_reducible exact Below.refl _ _) | (with_reducible assumption) | ((with_reducible refine Below.setCell ?_ ?_ _); rotate_left; · (first | exact Nat.le_refl _ | (simp; done) | (simp; omega) | omega)) | ((with_reducible refine Below.alloc ?_ ?_ _); rotate_left; · (first | exact Nat.le_refl _ | (simp; done) | (simp; omega) | omega)) | (with_reducible apply Below.drew) | (with_reducible apply below_drewN') | (refine Below.trans ?_ (Below.mono (by assumption) (by first | exact Nat.le_refl _ | (simp; done) | (simp; omega) | omega))) | exact Below.refl _ _ | assumption))
          case ca24R105 => (first | (simp [Act.put]; done) | (simp [Act.put, *]; done))
          try dsimp only
          refine wpW_branch [25] (by kernel_rfl) (by simp) ?_
          intro v2 hg_v2 hS_v2
          have M3 := M2.gr hg_v2
          have q1 := M3.cell (k := k) (x := fk) (by rw [List.getElem?_set_ne (by omega)]; exact HK.out)
          have qf := M3.frozen k
          have ql := M3.lt
          refine each_cons ?_ each_nil
          refine wpOp_go (by rfl) (Eq.refl _) (by go_simp; done) ?_
          intro K hK
          go_simp
          try simp only [Act.put]
          refine hK _ _ (by have := hS_v2; rw [HRW.out] at this ⊢; exact only_setCell this (.inl rfl) _) ?_
          clear hK K q1 qf ql
          have M4 := M3.put k (min fi fk)
          clear M3 M2
          refine wpW_det (t' := ?ct26R106) 26 (by rfl) (by kernel_rfl) (NQ_free _) (by kernel_rfl) ?cw26R106 ?ch26R106 ?ca26R106 (Eq.refl _) ?cH26R106
          case cw26R106 => (go_simp; done)
          case ch26R106 =>
            intro ds w' hS K hK
            have hc := (ocell hS).1
            have hf := (ocell hS).2
            have hz := hS.size
            try simp at hz
            go_simp
            try go_bits
            first
              | exact hK _ hS (Gr.refl _)
              | exact hK _ (by repeat (first | (with_reducible exact Below.refl _ _) | (with_reducible assumption) | ((with_reducible refine Below.setCell ?_ ?_ _); rotate_left; · (first | exact Nat.le_refl _ | (simp; done) | (simp; omega) | omega)) | ((with_reducible refine Below.alloc ?_ ?_ _); rotate_left; · (first | exact Nat.le_refl _ | (simp; done) | (simp; omega) | omega)) | (with_reducible apply Below.drew) | (with_reducible apply below_drewN') | (refine Below.trans ?_ (Below.mono (by assumption) (by first | exact Nat.le_refl _ | (simp; done) | (simp; omega) | omega))) | exact Below.refl _ _ | assumption)) (by repeat (first | (with_reducible exact Below.refl _ _) | (with_reducible assumption) | ((with_reducible refine Below.setCell ?_ ?_ _); rotate_left; · (first | exact Nat.le_refl _ | (simp; done) | (simp; omega) | omega)) | ((with_reducible refine Below.alloc ?_ ?_ _); rotate_left; · (first | exact Nat.le_refl _ | (simp; done) | (simp; omega) | omega)) | (with_reducible apply Below.drew) | (with_reducible apply below_drewN') | (refine Below.trans ?_ (Below.mono (by assumption) (by first | exact Nat.le_refl _ | (simp; done) | (simp; omega) | omega))) | exact Below.refl _ _ | assumption))
          case ca26R106 => (first | (simp [Act.put]; done) | (simp [Act.put, *]; done))
          try dsimp only
          refine wpW_end (by kernel_rfl) ?_
          intro we hg hS
          unfold NQ
          dsimp only
          exact H.out _ _ _ _ _ _ _ _ _ _ _ _ _ _ _ _ _ _ _ _ _ _ _ _ we (M4.gr hg)
    · refine wpOp_go (by rfl) (Eq.refl _) (by go_simp; done) ?_
      intro K hK
      go_simp
      try simp only [Act.put]
      refine hK _ _ hS2 ?_
      clear hK K q0 q1 ql
      refine wpW_branch [7, 16] (by kernel_rfl) (by simp) ?_
      intro w3 hg3 hS3
      replace M := M.gr hg3
      have q0 := M.cell HI.out
      have q1 := M.cell HK.out
      have ql := M.lt
      refine each_cons ?_ (each_cons ?_ (each_nil))
      · refine wpOp_go (by rfl) (Eq.refl _) (by go_simp; done) ?_
        intro K hK
        go_simp
        try simp only [Act.put]
        refine hK _ _ hS3 ?_
        clear hK K q0 q1 ql
        refine wpW_det (t' := ?ct12R107) 12 (by rfl) (by kernel_rfl) (NQ_free _) (by kernel_rfl) ?cw12R107 ?ch12R107 ?ca12R107 (Eq.refl _) ?cH12R107
        case cw12R107 => (go_simp; done)
        case ch12R107 =>
          intro ds w' hS K hK
          have hc := (ocell hS).1
          have hf := (ocell hS).2
          have hz := hS.size
          try simp at hz
          go_simp
          try go_bits
          first
            | exact hK _ hS (Gr.refl _)
            | exact hK _ (by repeat (first | (with_reducible exact Below.refl _ _) | (with_reducible assumption) | ((with_reducible refine Below.setCell ?_ ?_ _); rotate_left; · (first | exact Nat.le_refl _ | (simp; done) | (simp; omega) | omega)) | ((with_reducible refine Below.alloc ?_ ?_ _); rotate_left; · (first | exact Nat.le_refl _ | (simp; done) | (simp; omega) | omega)) | (with_reducible apply Below.drew) | (with_reducible apply below_drewN') | (refine Below.trans ?_ (Below.mono (by assumption) (by first | exact Nat.le_refl _ | (simp; done) | (simp; omega) | omega))) | exact Below.refl _ _ | assumption)) (by repeat (first | (with_reducible exact Below.refl _ _) | (with_reducible assumption) | ((with_reducible refine Below.setCell ?_ ?_ _); rotate_left; · (first | exact Nat.le_refl _ | (simp; done) | (simp; omega) | omega)) | ((with_reducible refine Below.alloc ?_ ?_ _); rotate_left; · (first | exact Nat.le_refl _ | (simp; done) | (simp; omega) | omega)) | (with_reducible apply Below.drew) | (with_reducible apply below_drewN') | (refine Below.trans ?_ (Below.mono (by assumption) (by first | exact Nat.le_refl _ | (simp; done) | (simp; omega) | omega))) | exact Below.refl _ _ | assumption))
        case ca12R107 => (first | (simp [Act.put]; done) | (simp [Act.put, *]; done))
        try dsimp only
        refine wpW_branch [16] (by kernel_rfl) (by simp) ?_
        intro w4 hg4 hS4
        replace M := M.gr hg4
        have q0 := M.cell HI.out
        have q1 := M.cell HK.out
        have ql := M.lt
        refine each_cons ?_ (each_nil)
        · refine wpOp_go (by rfl) (Eq.refl _) (by go_simp; done) ?_
          intro K hK
          go_simp
          try simp only [Act.put]
          refine hK _ _ hS4 ?_
          clear hK K q0 q1 ql
          refine wpW_det (t' := ?ct21R108) 21 (by rfl) (by kernel_rfl) (NQ_free _) (by kernel_rfl) ?cw21R108 ?ch21R108 ?ca21R108 (Eq.refl _) ?cH21R108
          case cw21R108 => (go_simp; done)
          case ch21R108 =>
            intro ds w' hS K hK
            have hc := (ocell hS).1
            have hf := (ocell hS).2
            have hz := hS.size
            try simp at hz
            go_simp
            try go_bits
            first
              | exact hK _ hS (Gr.refl _)
              | exact hK _ (by repeat (first | (with_reducible exact Below.refl _ _) | (with_reducible assumption) | ((with_reducible refine Below.setCell ?_ ?_ _); rotate_left; · (first | exact Nat.le_refl _ | (simp; done) | (simp; omega) | omega)) | ((with_reducible refine Below.alloc ?_ ?_ _); rotate_left; · (first | exact Nat.le_refl _ | (simp; done) | (simp; omega) | omega)) | (with_reducible apply Below.drew) | (with_reducible apply below_drewN') | (refine Below.trans ?_ (Below.mono (by assumption) (by first | exact Nat.le_refl _ | (simp; done) | (simp; omega) | omega))) | exact Below.refl _ _ | assumption)) (by repeat (first | (with_reducible exact Below.refl _ _) | (with_reducible assumption) | ((with_reducible refine Below.setCell ?_ ?_ _); rotate_left; · (first | exact Nat.le_refl _ | (simp; done) | (simp; omega) | omega)) | ((with_reducible refine Below.alloc ?_ ?_ _); rotate_left; · (first | exact Nat.le_refl _ | (simp; done) | (simp; omega) | omega)) | (with_reducible apply Below.drew) | (with_reducible apply below_drewN') | (refine Below.trans ?_ (Below.mono (by assumption) (by first | exact Nat.le_refl _ | (simp; done) | (simp; omega) | omega))) | exact Below.refl _ _ | assumption))
          case ca21R108 => (first | (simp [Act.put]; done) | (simp [Act.put, *]; done))
          try dsimp only
          refine wpW_det (t' := ?ct22R109) 22 (by rfl) (by kernel_rfl) (NQ_free _) (by kernel_rfl) ?cw22R109 ?ch22R109 ?ca22R109 (Eq.refl _) ?cH22R109
          case cw22R109 => (go_simp; done)
          case ch22R109 =>
            intro ds w' hS K hK
            have hc := (ocell hS).1
            have hf := (ocell hS).2
            have hz := hS.size
            try simp at hz
            go_simp
            try go_bits
            first
              | exact hK _ hS (Gr.refl _)
              | exact hK _ (by repeat (first | (with_reducible exact Below.refl _ _) | (with_reducible assumption) | ((with_reducible refine Below.setCell ?_ ?_ _); rotate_left; · (first | exact Nat.le_refl _ | (simp; done) | (simp; omega) | omega)) | ((with_reducible refine Below.alloc ?_ ?_ _); rotate_left; · (first | exact Nat.le_refl _ | (simp; done) | (simp; omega) | omega)) | (with_reducible apply Below.drew) | (with_reducible apply below_drewN') | (refine Below.trans ?_ (Below.mono (by assumption) (by first | exact Nat.le_refl _ | (simp; done) | (simp; omega) | omega))) | exact Below.refl _ _ | assumption)) (by repeat (first | (with_reducible exact Below.refl _ _) | (with_reducible assumption) | ((with_reducible refine Below.setCell ?_ ?_ _); rotate_left; · (first | exact Nat.le_refl _ | (simp; done) | (simp; omega) | omega)) | ((with_reducible refine Below.alloc ?_ ?_ _); rotate_left; · (first | exact Nat.le_refl _ | (simp; done) | (simp; omega) | omega)) | (with_reducible apply Below.drew) | (with_reducible apply below_drewN') | (refine Below.trans ?_ (Below.mono (by assumption) (by first | exact Nat.le_refl _ | (simp; done) | (simp; omega) | omega))) | exact Below.refl _ _ | assumption))
          case ca22R109 => (first | (simp [Act.put]; done) | (simp [Act.put, *]; done))
          try dsimp only
          refine wpW_branch [23] (by kernel_rfl) (by simp) ?_
          intro v1 hg_v1 hS_v1
          have M1 := M.gr hg_v1
          have q0 := M1.cell HI.out
          have qf := M1.frozen i
          have ql := M1.lt
          refine each_cons ?_ each_nil
          refine wpOp_go (by rfl) (Eq.refl _) (by go_simp; done) ?_
          intro K hK
          go_simp
          try simp only [Act.put]
          refine hK _ _ (by have := hS_v1; rw [HRW.out] at this ⊢; exact only_setCell this (.inl rfl) _) ?_
          clear hK K q0 qf ql
          have M2 := M1.put i (min fi fk)
          clear M1
          refine wpW_det (t' := ?ct24R110) 24 (by rfl) (by kernel_rfl) (NQ_free _) (by kernel_rfl) ?cw24R110 ?ch24R110 ?ca24R110 (Eq.refl _) ?cH24R110
          case cw24R110 => (go_simp; done)
          case ch24R110 =>
            intro ds w' hS K hK
            have hc := (ocell hS).1
            have hf := (ocell hS).2
            have hz := hS.size
            try simp at hz
            go_simp
            try go_bits
            first
              | exact hK _ hS (Gr.refl _)
              | exact hK _ (by repeat (first | (with_reducible exact Below.refl _ _) | (with_reducible assumption) | ((with_reducible refine Below.setCell ?_ ?_ _); rotate_left; · (first | exact Nat.le_refl _ | (simp; done) | (simp; omega) | omega)) | ((with_reducible refine Below.alloc ?_ ?_ _); rotate_left; · (first | exact Nat.le_refl _ | (simp; done) | (simp; omega) | omega)) | (with_reducible apply Below.drew) | (with_reducible apply below_drewN') | (refine Below.trans ?_ (Below.mono (by assumption) (by first | exact Nat.le_refl _ | (simp; done) | (simp; omega) | omega))) | exact Below.refl _ _ | assumption)) (by repeat (first | (with_reducible exact Below.refl _ _) | (with_reducible assumption) | ((with_reducible refine Below.setCell ?_ ?_ _); rotate_left; · (first | exact Nat.le_refl _ | (simp; done) | (simp; omega) | omega)) | ((with_reducible refine Below.alloc ?_ ?_ _); rotate_left; · (first | exact Nat.le_refl _ | (simp; done) | (simp; omega) | omega)) | (with_reducible apply Below.drew) | (with_reducible apply below_drewN') | (refine Below.trans ?_ (Below.mono (by assumption) (by first | exact Nat.le_refl _ | (simp; done) | (simp; omega) | omega))) | exact Below.refl _ _ | assumption))
          case ca24R110 => (first | (simp [Act.put]; done) | (simp [Act.put, *]; done))
          try dsimp only
          refine wpW_branch [25] (by kernel_rfl) (by simp) ?_
          intro v2 hg_v2 hS_v2
          have M3 := M2.gr hg_v2
          have q1 := M3.cell (k := k) (x := fk) (by rw [List.getElem?_set_ne (by omega)]; exact HK.out)
          have qf := M3.frozen k
          have ql := M3.lt
          refine each_cons ?_ each_nil
          refine wpOp_go (by rfl) (Eq.refl _) (by go_simp; done) ?_
          intro K hK
          go_simp
          try simp only [Act.put]
          refine hK _ _ (by have := hS_v2; rw [HRW.out] at this ⊢; exact only_setCell this (.inl rfl) _) ?_
          clear hK K q1 qf ql
          have M4 := M3.put k (min fi fk)
          clear M3 M2
          refine wpW_det (t' := ?ct26R111) 26 (by rfl) (by kernel_rfl) (NQ_free _) (by kernel_rfl) ?cw26R111 ?ch26R111 ?ca26R111 (Eq.refl _) ?cH26R111
          case cw26R111 => (go_simp; done)
          case ch26R111 =>
            intro ds w' hS K hK
            have hc := (ocell hS).1
            have hf := (ocell hS).2
            have hz := hS.size
            try simp at hz
            go_simp
            try go_bits
            first
              | exact hK _ hS (Gr.refl _)
              | exact hK _ (by repeat (first | (with_reducible exact Below.refl _ _) | (with_reducible assumption) | ((with_reducible refine Below.setCell ?_ ?_ _); rotate_left; · (first | exact Nat.le_refl _ | (simp; done) | (simp; omega) | omega)) | ((with_reducible refine Below.alloc ?_ ?_ _); rotate_left; · (first | exact Nat.le_refl _ | (simp; done) | (simp; omega) | omega)) | (with_reducible apply Below.drew) | (with_reducible apply below_drewN') | (refine Below.trans ?_ (Below.mono (by assumption) (by first | exact Nat.le_refl _ | (simp; done) | (simp; omega) | omega))) | exact Below.refl _ _ | assumption)) (by repeat (first | (with_reducible exact Below.refl _ _) | (with_reducible assumption) | ((with_reducible refine Below.setCell ?_ ?_ _); rotate_left; · (first | exact Nat.le_refl _ | (simp; done) | (simp; omega) | omega)) | ((with_reducible refine Below.alloc ?_ ?_ _); rotate_left; · (first | exact Nat.le_refl _ | (simp; done) | (simp; omega) | omega)) | (with_reducible apply Below.drew) | (with_reducible apply below_drewN') | (refine Below.trans ?_ (Below.mono (by assumption) (by first | exact Nat.le_refl _ | (simp; done) | (simp; omega) | omega))) | exact Below.refl _ _ | assumption))
          case ca26R111 => (first | (simp [Act.put]; done) | (simp [Act.put, *]; done))
          try dsimp only
          refine wpW_end (by kernel_rfl) ?_
          intro we hg hS
          unfold NQ
          dsimp only
          exact H.out _ _ _ _ _ _ _ _ _ _ _ _ _ _ _ _ _ _ _ _ _ _ _ _ we (M4.gr hg)
      · refine wpOp_go (by rfl) (Eq.refl _) (by go_simp; done) ?_
        intro K hK
        go_simp
        try simp only [Act.put]
        refine hK _ _ hS3 ?_
        clear hK K q0 q1 ql
        refine wpW_det (t' := ?ct21R112) 21 (by rfl) (by kernel_rfl) (NQ_free _) (by kernel_rfl) ?cw21R112 ?ch21R112 ?ca21R112 (Eq.refl _) ?cH21R112
        case cw21R112 => (go_simp; done)
        case ch21R112 =>
          intro ds w' hS K hK
          have hc := (ocell hS).1
          have hf := (ocell hS).2
          have hz := hS.size
          try simp at hz
          go_simp
          try go_bits
          first
            | exact hK _ hS (Gr.refl _)
            | exact hK _ (by repeat (first | (with_reducible exact Below.refl _ _) | (with_reducible assumption) | ((with_reducible refine Below.setCell ?_ ?_ _); rotate_left; · (first | exact Nat.le_refl _ | (simp; done) | (simp; omega) | omega)) | ((with_reducible refine Below.alloc ?_ ?_ _); rotate_left; · (first | exact Nat.le_refl _ | (simp; done) | (simp; omega) | omega)) | (with_reducible apply Below.drew) | (with_reducible apply below_drewN') | (refine Below.trans ?_ (Below.mono (by assumption) (by first | exact Nat.le_refl _ | (simp; done) | (simp; omega) | omega))) | exact Below.refl _ _ | assumption)) (by repeat (first | (with_reducible exact Below.refl _ _) | (with_reducible assumption) | ((with_reducible refine Below.setCell ?_ ?_ _); rotate_left; · (first | exact Nat.le_refl _ | (simp; done) | (simp; omega) | omega)) | ((with_reducible refine Below.alloc ?_ ?_ _); rotate_left; · (first | exact Nat.le_refl _ | (simp; done) | (simp; omega) | omega)) | (with_reducible apply Below.drew) | (with_reducible apply below_drewN') | (refine Below.trans ?_ (Below.mono (by assumption) (by first | exact Nat.le_refl _ | (simp; done) | (simp; omega) | omega))) | exact Below.refl _ _ | assumption))
        case ca21R112 => (first | (simp [Act.put]; done) | (simp [Act.put, *]; done))
        try dsimp only
        refine wpW_branch [7] (by kernel_rfl) (by simp) ?_
        intro w4 hg4 hS4
        replace M := M.gr hg4
        have q0 := M.cell HI.out
        have q1 := M.cell HK.out
        have ql := M.lt
        refine each_cons ?_ (each_nil)
        · refine wpOp_go (by rfl) (Eq.refl _) (by go_simp; done) ?_
          intro K hK
          go_simp
          try simp only [Act.put]
          refine hK _ _ hS4 ?_
          clear hK K q0 q1 ql
          refine wpW_det (t' := ?ct12R113) 12 (by rfl) (by kernel_rfl) (NQ_free _) (by kernel_rfl) ?cw12R113 ?ch12R113 ?ca12R113 (Eq.refl _) ?cH12R113
          case cw12R113 => (go_simp; done)
          case ch12R113 =>
            intro ds w' hS K hK
            have hc := (ocell hS).1
            have hf := (ocell hS).2
            have hz := hS.size
            try simp at hz
            go_simp
            try go_bits
            first
              | exact hK _ hS (Gr.refl _)
              | exact hK _ (by repeat (first | (with_reducible exact Below.refl _ _) | (with_reducible assumption) | ((with_reducible refine Below.setCell ?_ ?_ _); rotate_left; · (first | exact Nat.le_refl _ | (simp; done) | (simp; omega) | omega)) | ((with_reducible refine Below.alloc ?_ ?_ _); rotate_left; · (first | exact Nat.le_refl _ | (simp; done) | (simp; omega) | omega)) | (with_reducible apply Below.drew) | (with_reducible apply below_drewN') | (refine Below.trans ?_ (Below.mono (by assumption) (by first | exact Nat.le_refl _ | (simp; done) | (simp; omega) | omega))) | exact Below.refl _ _ | assumption)) (by repeat (first | (with_reducible exact Below.refl _ _) | (with_reducible assumption) | ((with_reducible refine Below.setCell ?_ ?_ _); rotate_left; · (first | exact Nat.le_refl _ | (simp; done) | (simp; omega) | omega)) | ((with_reducible refine Below.alloc ?_ ?_ _); rotate_left; · (first | exact Nat.le_refl _ | (simp; done) | (simp; omega) | omega)) | (with_reducible apply Below.drew) | (with_reducible apply below_drewN') | (refine Below.trans ?_ (Below.mono (by assumption) (by first | exact Nat.le_refl _ | (simp; done) | (simp; omega) | omega))) | exact Below.refl _ _ | assumption))
          case ca12R113 => (first | (simp [Act.put]; done) | (simp [Act.put, *]; done))
          try dsimp only
          refine wpW_det (t' := ?ct22R114) 22 (by rfl) (by kernel_rfl) (NQ_free _) (by kernel_rfl) ?cw22R114 ?ch22R114 ?ca22R114 (Eq.refl _) ?cH22R114
          case cw22R114 => (go_simp; done)
          case ch22R114 =>
            intro ds w' hS K hK
            have hc := (ocell hS).1
            have hf := (ocell hS).2
            have hz := hS.size
            try simp at hz
            go_simp
            try go_bits
            first
              | exact hK _ hS (Gr.refl _)
              | exact hK _ (by repeat (first | (with_reducible exact Below.refl _ _) | (with_reducible assumption) | ((with_reducible refine Below.setCell ?_ ?_ _); rotate_left; · (first | exact Nat.le_refl _ | (simp; done) | (simp; omega) | omega)) | ((with_reducible refine Below.alloc ?_ ?_ _); rotate_left; · (first | exact Nat.le_refl _ | (simp; done) | (simp; omega) | omega)) | (with_reducible apply Below.drew) | (with_reducible apply below_drewN') | (refine Below.trans ?_ (Below.mono (by assumption) (by first | exact Nat.le_refl _ | (simp; done) | (simp; omega) | omega))) | exact Below.refl _ _ | assumption)) (by repeat (first | (with_reducible exact Below.refl _ _) | (with_reducible assumption) | ((with_reducible refine Below.setCell ?_ ?_ _); rotate_left; · (first | exact Nat.le_refl _ | (simp; done) | (simp; omega) | omega)) | ((with_reducible refine Below.alloc ?_ ?_ _); rotate_left; · (first | exact Nat.le_refl _ | (simp; done) | (simp; omega) | omega)) | (with_reducible apply Below.drew) | (with_reducible apply below_drewN') | (refine Below.trans ?_ (Below.mono (by assumption) (by first | exact Nat.le_refl _ | (simp; done) | (simp; omega) | omega))) | exact Below.refl _ _ | assumption))
          case ca22R114 => (first | (simp [Act.put]; done) | (simp [Act.put, *]; done))
          try dsimp only
          refine wpW_branch [23] (by kernel_rfl) (by simp) ?_
          intro v1 hg_v1 hS_v1
          have M1 := M.gr hg_v1
          have q0 := M1.cell HI.out
          have qf := M1.frozen i
          have ql := M1.lt
          refine each_cons ?_ each_nil
          refine wpOp_go (by rfl) (Eq.refl _) (by go_simp; done) ?_
          intro K hK
          go_simp
          try simp only [Act.put]
          refine hK _ _ (by have := hS_v1; rw [HRW.out] at this ⊢; exact only_setCell this (.inl rfl) _) ?_
          clear hK K q0 qf ql
          have M2 := M1.put i (min fi fk)
          clear M1
          refine wpW_det (t' := ?ct24R115) 24 (by rfl) (by kernel_rfl) (NQ_free _) (by kernel_rfl) ?cw24R115 ?ch24R115 ?ca24R115 (Eq.refl _) ?cH24R115
          case cw24R115 => (go_simp; done)
          case ch24R115 =>
            intro ds w' hS K hK
            have hc := (ocell hS).1
            have hf := (ocell hS).2
            have hz := hS.size
            try simp at hz
            go_simp
            try go_bits
            first
              | exact hK _ hS (Gr.refl _)
              | exact hK _ (by repeat (first | (with_reducible exact Below.refl _ _) | (with_reducible assumption) | ((with_reducible refine Below.setCell ?_ ?_ _); rotate_left; · (first | exact Nat.le_refl _ | (simp; done) | (simp; omega) | omega)) | ((with_reducible refine Below.alloc ?_ ?_ _); rotate_left; · (first | exact Nat.le_refl _ | (simp; done) | (simp; omega) | omega)) | (with_reducible apply Below.drew) | (with_reducible apply below_drewN') | (refine Below.trans ?_ (Below.mono (by assumption) (by first | exact Nat.le_refl _ | (simp; done) | (simp; omega) | omega))) | exact Below.refl _ _ | assumption)) (by repeat (first | (with_reducible exact Below.refl _ _) | (with_reducible assumption) | ((with_reducible refine Below.setCell ?_ ?_ _); rotate_left; · (first | exact Nat.le_refl _ | (simp; done) | (simp; omega) | omega)) | ((with_reducible refine Below.alloc ?_ ?_ _); rotate_left; · (first | exact Nat.le_refl _ | (simp; done) | (simp; omega) | omega)) | (with_reducible apply Below.drew) | (with_reducible apply below_drewN') | (refine Below.trans ?_ (Below.mono (by assumption) (by first | exact Nat.le_refl _ | (simp; done) | (simp; omega) | omega))) | exact Below.refl _ _ | assumption))
          case ca24R115 => (first | (simp [Act.put]; done) | (simp [Act.put, *]; done))
          try dsimp only
          refine wpW_branch [25] (by kernel_rfl) (by simp) ?_
          intro v2 hg_v2 hS_v2
          have M3 := M2.gr hg_v2
          have q1 := M3.cell (k := k) (x := fk) (by rw [List.getElem?_set_ne (by omega)]; exact HK.out)
          have qf := M3.frozen k
          have ql := M3.lt
          refine each_cons ?_ each_nil
          refine wpOp_go (by rfl) (Eq.refl _) (by go_simp; done) ?_
          intro K hK
          go_simp
          try simp only [Act.put]
          refine hK _ _ (by have := hS_v2; rw [HRW.out] at this ⊢; exact only_setCell this (.inl rfl) _) ?_
          clear hK K q1 qf ql
          have M4 := M3.put k (min fi fk)
          clear M3 M2
          refine wpW_det (t' := ?ct26R116) 26 (by rfl) (by kernel_rfl) (NQ_free _) (by kernel_rfl) ?cw26R116 ?ch26R116 ?ca26R116 (Eq.refl _) ?cH26R116
          case cw26R116 => (go_simp; done)
          case ch26R116 =>
            intro ds w' hS K hK
            have hc := (ocell hS).1
            have hf := (ocell hS).2
            have hz := hS.size
            try simp at hz
            go_simp
            try go_bits
            first
              | exact hK _ hS (Gr.refl _)
              | exact hK _ (by repeat (first | (with_reducible exact Below.refl _ _) | (with_reducible assumption) | ((with_reducible refine Below.setCell ?_ ?_ _); rotate_left; · (first | exact Nat.le_refl _ | (simp; done) | (simp; omega) | omega)) | ((with_reducible refine Below.alloc ?_ ?_ _); rotate_left; · (first | exact Nat.le_refl _ | (simp; done) | (simp; omega) | omega)) | (with_reducible apply Below.drew) | (with_reducible apply below_drewN') | (refine Below.trans ?_ (Below.mono (by assumption) (by first | exact Nat.le_refl _ | (simp; done) | (simp; omega) | omega))) | exact Below.refl _ _ | assumption)) (by repeat (first | (with_reducible exact Below.refl _ _) | (with_reducible assumption) | ((with_reducible refine Below.setCell ?_ ?_ _); rotate_left; · (first | exact Nat.le_refl _ | (simp; done) | (simp; omega) | omega)) | ((with_reducible refine Below.alloc ?_ ?_ _); rotate_left; · (first | exact Nat.le_refl _ | (simp; done) | (simp; omega) | omega)) | (with_reducible apply Below.drew) | (with_reducible apply below_drewN') | (refine Below.trans ?_ (Below.mono (by assumption) (by first | exact Nat.le_refl _ | (simp; done) | (simp; omega) | omega))) | exact Below.refl _ _ | assumption))
          case ca26R116 => (first | (simp [Act.put]; done) | (simp [Act.put, *]; done))
          try dsimp only
          refine wpW_end (by kernel_rfl) ?_
          intro we hg hS
          unfold NQ
          dsimp only
          exact H.out _ _ _ _ _ _ _ _ _ _ _ _ _ _ _ _ _ _ _ _ _ _ _ _ we (M4.gr hg)
    · refine wpOp_go (by rfl) (Eq.refl _) (by go_simp; done) ?_
      intro K hK
      go_simp
      try simp only [Act.put]
      refine hK _ _ hS2 ?_
      clear hK K q0 q1 ql
      refine wpW_det (t' := ?ct21R117) 21 (by rfl) (by kernel_rfl) (NQ_free _) (by kernel_rfl) ?cw21R117 ?ch21R117 ?ca21R117 (Eq.refl _) ?cH21R117
      case cw21R117 => (go_simp; done)
      case ch21R117 =>
        intro ds w' hS K hK
        have hc := (ocell hS).1
        have hf := (ocell hS).2
        have hz := hS.size
        try simp at hz
        go_simp
        try go_bits
        first
          | exact hK _ hS (Gr.refl _)
          | exact hK _ (by repeat (first | (with_reducible exact Below.refl _ _) | (with_reducible assumption) | ((with_reducible refine Below.setCell ?_ ?_ _); rotate_left; · (first | exact Nat.le_refl _ | (simp; done) | (simp; omega) | omega)) | ((with_reducible refine Below.alloc ?_ ?_ _); rotate_left; · (first | exact Nat.le_refl _ | (simp; done) | (simp; omega) | omega)) | (with_reducible apply Below.drew) | (with_reducible apply below_drewN') | (refine Below.trans ?_ (Below.mono (by assumption) (by first | exact Nat.le_refl _ | (simp; done) | (simp; omega) | omega))) | exact Below.refl _ _ | assumption)) (by repeat (first | (with_reducible exact Below.refl _ _) | (with_reducible assumption) | ((with_reducible refine Below.setCell ?_ ?_ _); rotate_left; · (first | exact Nat.le_refl _ | (simp; done) | (simp; omega) | omega)) | ((with_reducible refine Below.alloc ?_ ?_ _); rotate_left; · (first | exact Nat.le_refl _ | (simp; done) | (simp; omega) | omega)) | (with_reducible apply Below.drew) | (with_reducible apply below_drewN') | (refine Below.trans ?_ (Below.mono (by assumption) (by first | exact Nat.le_refl _ | (simp; done) | (simp; omega) | omega))) | exact Below.refl _ _ | assumption))
      case ca21R117 => (first | (simp [Act.put]; done) | (simp [Act.put, *]; done))
      try dsimp only
      refine wpW_branch [7, 11] (by kernel_rfl) (by simp) ?_
      intro w3 hg3 hS3
      replace M := M.gr hg3
      have q0 := M.cell HI.out
      have q1 := M.cell HK.out
      have ql := M.lt
      refine each_cons ?_ (each_cons ?_ (each_nil))
      · refine wpOp_go (by rfl) (Eq.refl _) (by go_simp; done) ?_
        intro K hK
        go_simp
        try simp only [Act.put]
        refine hK _ _ hS3 ?_
        clear hK K q0 q1 ql
        refine wpW_branch [11] (by kernel_rfl) (by simp) ?_
        intro w4 hg4 hS4
        replace M := M.gr hg4
        have q0 := M.cell HI.out
        have q1 := M.cell HK.out
        have ql := M.lt
        refine each_cons ?_ (each_nil)
        · refine wpOp_go (by rfl) (Eq.refl _) (by go_simp; done) ?_
          intro K hK
          go_simp
          try simp only [Act.put]
          refine hK _ _ hS4 ?_
          clear hK K q0 q1 ql
          refine wpW_det (t' := ?ct12R118) 12 (by rfl) (by kernel_rfl) (NQ_free _) (by kernel_rfl) ?cw12R118 ?ch12R118 ?ca12R118 (Eq.refl _) ?cH12R118
          case cw12R118 => (go_simp; done)
          case ch12R118 =>
            intro ds w' hS K hK
            have hc := (ocell hS).1
            have hf := (ocell hS).2
            have hz := hS.size
            try simp at hz
            go_simp
            try go_bits
            first
              | exact hK _ hS (Gr.refl _)
              | exact hK _ (by repeat (first | (with_reducible exact Below.refl _ _) | (with_reducible assumption) | ((with_reducible refine Below.setCell ?_ ?_ _); rotate_left; · (first | exact Nat.le_refl _ | (simp; done) | (simp; omega) | omega)) | ((with_reducible refine Below.alloc ?_ ?_ _); rotate_left; · (first | exact Nat.le_refl _ | (simp; done) | (simp; omega) | omega)) | (with_reducible apply Below.drew) | (with_reducible apply below_drewN') | (refine Below.trans ?_ (Below.mono (by assumption) (by first | exact Nat.le_refl _ | (simp; done) | (simp; omega) | omega))) | exact Below.refl _ _ | assumption)) (by repeat (first | (with_reducible exact Below.refl _ _) | (with_reducible assumption) | ((with_reducible refine Below.setCell ?_ ?_ _); rotate_left; · (first | exact Nat.le_refl _ | (simp; done) | (simp; omega) | omega)) | ((with_reducible refine Below.alloc ?_ ?_ _); rotate_left; · (first | exact Nat.le_refl _ | (simp; done) | (simp; omega) | omega)) | (with_reducible apply Below.drew) | (with_reducible apply below_drewN') | (refine Below.trans ?_ (Below.mono (by assumption) (by first | exact Nat.le_refl _ | (simp; done) | (simp; omega) | omega))) | exact Below.refl _ _ | assumption))
          case ca12R118 => (first | (simp [Act.put]; done) | (simp [Act.put, *]; done))
          try dsimp only
          refine wpW_det (t' := ?ct22R119) 22 (by rfl) (by kernel_rfl) (NQ_free _) (by kernel_rfl) ?cw22R119 ?ch22R119 ?ca22R119 (Eq.refl _) ?cH22R119
          case cw22R119 => (go_simp; done)
          case ch22R119 =>
            intro ds w' hS K hK
            have hc := (ocell hS).1
            have hf := (ocell hS).2
            have hz := hS.size
            try simp at hz
            go_simp
            try go_bits
            first
              | exact hK _ hS (Gr.refl _)
              | exact hK _ (by repeat (first | (with_reducible exact Below.refl _ _) | (with_reducible assumption) | ((with_reducible refine Below.setCell ?_ ?_ _); rotate_left; · (first | exact Nat.le_refl _ | (simp; done) | (simp; omega) | omega)) | ((with_reducible refine Below.alloc ?_ ?_ _); rotate_left; · (first | exact Nat.le_refl _ | (simp; done) | (simp; omega) | omega)) | (with_reducible apply Below.drew) | (with_reducible apply below_drewN') | (refine Below.trans ?_ (Below.mono (by assumption) (by first | exact Nat.le_refl _ | (simp; done) | (simp; omega) | omega))) | exact Below.refl _ _ | assumption)) (by repeat (first | (with_reducible exact Below.refl _ _) | (with_reducible assumption) | ((with_reducible refine Below.setCell ?_ ?_ _); rotate_left; · (first | exact Nat.le_refl _ | (simp; done) | (simp; omega) | omega)) | ((with_reducible refine Below.alloc ?_ ?_ _); rotate_left; · (first | exact Nat.le_refl _ | (simp; done) | (simp; omega) | omega)) | (with_reducible apply Below.drew) | (with_reducible apply below_drewN') | (refine Below.trans ?_ (Below.mono (by assumption) (by first | exact Nat.le_refl _ | (simp; done) | (simp; omega) | omega))) | exact Below.refl _ _ | assumption))
          case ca22R119 => (first | (simp [Act.put]; done) | (simp [Act.put, *]; done))
          try dsimp only
          refine wpW_branch [23] (by kernel_rfl) (by simp) ?_
          intro v1 hg_v1 hS_v1
          have M1 := M.gr hg_v1
          have q0 := M1.cell HI.out
          have qf := M1.frozen i
          have ql := M1.lt
          refine each_cons ?_ each_nil
          refine wpOp_go (by rfl) (Eq.refl _) (by go_simp; done) ?_
          intro K hK
          go_simp
          try simp only [Act.put]
          refine hK _ _ (by have := hS_v1; rw [HRW.out] at this ⊢; exact only_setCell this (.inl rfl) _) ?_
          clear hK K q0 qf ql
          have M2 := M1.put i (min fi fk)
          clear M1
          refine wpW_det (t' := ?ct24R120) 24 (by rfl) (by kernel_rfl) (NQ_free _) (by kernel_rfl) ?cw24R120 ?ch24R120 ?ca24R120 (Eq.refl _) ?cH24R120
          case cw24R120 => (go_simp; done)
          case ch24R120 =>
            intro ds w' hS K hK
            have hc := (ocell hS).1
            have hf := (ocell hS).2
            have hz := hS.size
            try simp at hz
            go_simp
            try go_bits
            first
              | exact hK _ hS (Gr.refl _)
              | exact hK _ (by repeat (first | (with_reducible exact Below.refl _ _) | (with_reducible assumption) | ((with_reducible refine Below.setCell ?_ ?_ _); rotate_left; · (first | exact Nat.le_refl _ | (simp; done) | (simp; omega) | omega)) | ((with_reducible refine Below.alloc ?_ ?_ _); rotate_left; · (first | exact Nat.le_refl _ | (simp; done) | (simp; omega) | omega)) | (with_reducible apply Below.drew) | (with_reducible apply below_drewN') | (refine Below.trans ?_ (Below.mono (by assumption) (by first | exact Nat.le_refl _ | (simp; done) | (simp; omega) | omega))) | exact Below.refl _ _ | assumption)) (by repeat (first | (with_reducible exact Below.refl _ _) | (with_reducible assumption) | ((with_reducible refine Below.setCell ?_ ?_ _); rotate_left; · (first | exact Nat.le_refl _ | (simp; done) | (simp; omega) | omega)) | ((with_reducible refine Below.alloc ?_ ?_ _); rotate_left; · (first | exact Nat.le_refl _ | (simp; done) | (simp; omega) | omega)) | (with_reducible apply Below.drew) | (with_reducible apply below_drewN') | (refine Below.trans ?_ (Below.mono (by assumption) (by first | exact Nat.le_refl _ | (simp; done) | (simp; omega) | omega))) | exact Below.refl _ _ | assumption))
          case ca24R120 => (first | (simp [Act.put]; done) | (simp [Act.put, *]; done))
          try dsimp only
          refine wpW_branch [25] (by kernel_rfl) (by simp) ?_
          intro v2 hg_v2 hS_v2
          have M3 := M2.gr hg_v2
          have q1 := M3.cell (k := k) (x := fk) (by rw [List.getElem?_set_ne (by omega)]; exact HK.out)
          have qf := M3.frozen k
          have ql := M3.lt
          refine each_cons ?_ each_nil
          refine wpOp_go (by rfl) (Eq.refl _) (by go_simp; done) ?_
          intro K hK
          go_simp
          try simp only [Act.put]
          refine hK _ _ (by have := hS_v2; rw [HRW.out] at this ⊢; exact only_setCell this (.inl rfl) _) ?_
          clear hK K q1 qf ql
          have M4 := M3.put k (min fi fk)
          clear M3 M2
          refine wpW_det (t' := ?ct26R121) 26 (by rfl) (by kernel_rfl) (NQ_free _) (by kernel_rfl) ?cw26R121 ?ch26R121 ?ca26R121 (Eq.refl _) ?cH26R121
          case cw26R121 => (go_simp; done)
          case ch26R121 =>
            intro ds w' hS K hK
            have hc := (ocell hS).1
            have hf := (ocell hS).2
            have hz := hS.size
            try simp at hz
            go_simp
            try go_bits
            first
              | exact hK _ hS (Gr.refl _)
              | exact hK _ (by repeat (first | (with_reducible exact Below.refl _ _) | (with_reducible assumption) | ((with_reducible refine Below.setCell ?_ ?_ _); rotate_left; · (first | exact Nat.le_refl _ | (simp; done) | (simp; omega) | omega)) | ((with_reducible refine Below.alloc ?_ ?_ _); rotate_left; · (first | exact Nat.le_refl _ | (simp; done) | (simp; omega) | omega)) | (with_reducible apply Below.drew) | (with_reducible apply below_drewN') | (refine Below.trans ?_ (Below.mono (by assumption) (by first | exact Nat.le_refl _ | (simp; done) | (simp; omega) | omega))) | exact Below.refl _ _ | assumption)) (by repeat (first | (with_reducible exact Below.refl _ _) | (with_reducible assumption) | ((with_reducible refine Below.setCell ?_ ?_ _); rotate_left; · (first | exact Nat.le_refl _ | (simp; done) | (simp; omega) | omega)) | ((with_reducible refine Below.alloc ?_ ?_ _); rotate_left; · (first | exact Nat.le_refl _ | (simp; done) | (simp; omega) | omega)) | (with_reducible apply Below.drew) | (with_reducible apply below_drewN') | (refine Below.trans ?_ (Below.mono (by assumption) (by first | exact Nat.le_refl _ | (simp; done) | (simp; omega) | omega))) | exact Below.refl _ _ | assumption))
          case ca26R121 => (first | (simp [Act.put]; done) | (simp [Act.put, *]; done))
          try dsimp only
          refine wpW_end (by kernel_rfl) ?_
          intro we hg hS
          unfold NQ
          dsimp only
          exact H.out _ _ _ _ _ _ _ _ _ _ _ _ _ _ _ _ _ _ _ _ _ _ _ _ we (M4.gr hg)
      · refine wpOp_go (by rfl) (Eq.refl _) (by go_simp; done) ?_
        intro K hK
        go_simp
        try simp only [Act.put]
        refine hK _ _ hS3 ?_
        clear hK K q0 q1 ql
        refine wpW_branch [7] (by kernel_rfl) (by simp) ?_
        intro w4 hg4 hS4
        replace M := M.gr hg4
        have q0 := M.cell HI.out
        have q1 := M.cell HK.out
        have ql := M.lt
        refine each_cons ?_ (each_nil)
        · refine wpOp_go (by rfl) (Eq.refl _) (by go_simp; done) ?_
          intro K hK
          go_simp
          try simp only [Act.put]
          refine hK _ _ hS4 ?_
          clear hK K q0 q1 ql
          refine wpW_det (t' := ?ct12R122) 12 (by rfl) (by kernel_rfl) (NQ_free _) (by kernel_rfl) ?cw12R122 ?ch12R122 ?ca12R122 (Eq.refl _) ?cH12R122
          case cw12R122 => (go_simp; done)
          case ch12R122 =>
            intro ds w' hS K hK
            have hc := (ocell hS).1
            have hf := (ocell hS).2
            have hz := hS.size
            try simp at hz
            go_simp
            try go_bits
            first
              | exact hK _ hS (Gr.refl _)
              | exact hK _ (by repeat (first | (with_reducible exact Below.refl _ _) | (with_reducible assumption) | ((with_reducible refine Below.setCell ?_ ?_ _); rotate_left; · (first | exact Nat.le_refl _ | (simp; done) | (simp; omega) | omega)) | ((with_reducible refine Below.alloc ?_ ?_ _); rotate_left; · (first | exact Nat.le_refl _ | (simp; done) | (simp; omega) | omega)) | (with_reducible apply Below.drew) | (with_reducible apply below_drewN') | (refine Below.trans ?_ (Below.mono (by assumption) (by first | exact Nat.le_refl _ | (simp; done) | (simp; omega) | omega))) | exact Below.refl _ _ | assumption)) (by repeat (first | (with_reducible exact Below.refl _ _) | (with_reducible assumption) | ((with_reducible refine Below.setCell ?_ ?_ _); rotate_left; · (first | exact Nat.le_refl _ | (simp; done) | (simp; omega) | omega)) | ((with_reducible refine Below.alloc ?_ ?_ _); rotate_left; · (first | exact Nat.le_refl _ | (simp; done) | (simp; omega) | omega)) | (with_reducible apply Below.drew) | (with_reducible apply below_drewN') | (refine Below.trans ?_ (Below.mono (by assumption) (by first | exact Nat.le_refl _ | (simp; done) | (simp; omega) | omega))) | exact Below.refl _ _ | assumption))
          case ca12R122 => (first | (simp [Act.put]; done) | (simp [Act.put, *]; done))
          try dsimp only
          refine wpW_det (t' := ?ct22R123) 22 (by rfl) (by kernel_rfl) (NQ_free _) (by kernel_rfl) ?cw22R123 ?ch22R123 ?ca22R123 (Eq.refl _) ?cH22R123
          case cw22R123 => (go_simp; done)
          case ch22R123 =>
            intro ds w' hS K hK
            have hc := (ocell hS).1
            have hf := (ocell hS).2
            have hz := hS.size
            try simp at hz
            go_simp
            try go_bits
            first
              | exact hK _ hS (Gr.refl _)
              | exact hK _ (by repeat (first | (with_reducible exact Below.refl _ _) | (with_reducible assumption) | ((with_reducible refine Below.setCell ?_ ?_ _); rotate_left; · (first | exact Nat.le_refl _ | (simp; done) | (simp; omega) | omega)) | ((with_reducible refine Below.alloc ?_ ?_ _); rotate_left; · (first | exact Nat.le_refl _ | (simp; done) | (simp; omega) | omega)) | (with_reducible apply Below.drew) | (with_reducible apply below_drewN') | (refine Below.trans ?_ (Below.mono (by assumption) (by first | exact Nat.le_refl _ | (simp; done) | (simp; omega) | omega))) | exact Below.refl _ _ | assumption)) (by repeat (first | (with_reducible exact Below.refl _ _) | (with_reducible assumption) | ((with_reducible refine Below.setCell ?_ ?_ _); rotate_left; · (first | exact Nat.le_refl _ | (simp; done) | (simp; omega) | omega)) | ((with_reducible refine Below.alloc ?_ ?_ _); rotate_left; · (first | exact Nat.le_refl _ | (simp; done) | (simp; omega) | omega)) | (with_reducible apply Below.drew) | (with_reducible apply below_drewN') | (refine Below.trans ?_ (Below.mono (by assumption) (by first | exact Nat.le_refl _ | (simp; done) | (simp; omega) | omega))) | exact Below.refl _ _ | assumption))
          case ca22R123 => (first | (simp [Act.put]; done) | (simp [Act.put, *]; done))
          try dsimp only
          refine wpW_branch [23] (by kernel_rfl) (by simp) ?_
          intro v1 hg_v1 hS_v1
          have M1 := M.gr hg_v1
          have q0 := M1.cell HI.out
          have qf := M1.frozen i
          have ql := M1.lt
          refine each_cons ?_ each_nil
          refine wpOp_go (by rfl) (Eq.refl _) (by go_simp; done) ?_
          intro K hK
          go_simp
          try simp only [Act.put]
          refine hK _ _ (by have := hS_v1; rw [HRW.out] at this ⊢; exact only_setCell this (.inl rfl) _) ?_
          clear hK K q0 qf ql
          have M2 := M1.put i (min fi fk)
          clear M1
          refine wpW_det (t' := ?ct24R124) 24 (by rfl) (by kernel_rfl) (NQ_free _) (by kernel_rfl) ?cw24R124 ?ch24R124 ?ca24R124 (Eq.refl _) ?cH24R124
          case cw24R124 => (go_simp; done)
          case ch24R124 =>
            intro ds w' hS K hK
            have hc := (ocell hS).1
            have hf := (ocell hS).2
            have hz := hS.size
            try simp at hz
            go_simp
            try go_bits
            first
              | exact hK _ hS (Gr.refl _)
              | exact hK _ (by repeat (first | (with_reducible exact Below.refl _ _) | (with_reducible assumption) | ((with_reducible refine Below.setCell ?_ ?_ _); rotate_left; · (first | exact Nat.le_refl _ | (simp; done) | (simp; omega) | omega)) | ((with_reducible refine Below.alloc ?_ ?_ _); rotate_left; · (first | exact Nat.le_refl _ | (simp; done) | (simp; omega) | omega)) | (with_reducible apply Below.drew) | (with_reducible apply below_drewN') | (refine Below.trans ?_ (Below.mono (by assumption) (by first | exact Nat.le_refl _ | (simp; done) | (simp; omega) | omega))) | exact Below.refl _ _ | assumption)) (by repeat (first | (with_reducible exact Below.refl _ _) | (with_reducible assumption) | ((with_reducible refine Below.setCell ?_ ?_ _); rotate_left; · (first | exact Nat.le_refl _ | (simp; done) | (simp; omega) | omega)) | ((with_reducible refine Below.alloc ?_ ?_ _); rotate_left; · (first | exact Nat.le_refl _ | (simp; done) | (simp; omega) | omega)) | (with_reducible apply Below.drew) | (with_reducible apply below_drewN') | (refine Below.trans ?_ (Below.mono (by assumption) (by first | exact Nat.le_refl _ | (simp; done) | (simp; omega) | omega))) | exact Below.refl _ _ | assumption))
          case ca24R124 => (first | (simp [Act.put]; done) | (simp [Act.put, *]; done))
          try dsimp only
          refine wpW_branch [25] (by kernel_rfl) (by simp) ?_
          intro v2 hg_v2 hS_v2
          have M3 := M2.gr hg_v2
          have q1 := M3.cell (k := k) (x := fk) (by rw [List.getElem?_set_ne (by omega)]; exact HK.out)
          have qf := M3.frozen k
          have ql := M3.lt
          refine each_cons ?_ each_nil
          refine wpOp_go (by rfl) (Eq.refl _) (by go_simp; done) ?_
          intro K hK
          go_simp
          try simp only [Act.put]
          refine hK _ _ (by have := hS_v2; rw [HRW.out] at this ⊢; exact only_setCell this (.inl rfl) _) ?_
          clear hK K q1 qf ql
          have M4 := M3.put k (min fi fk)
          clear M3 M2
          refine wpW_det (t' := ?ct26R125) 26 (by rfl) (by kernel_rfl) (NQ_free _) (by kernel_rfl) ?cw26R125 ?ch26R125 ?ca26R125 (Eq.refl _) ?cH26R125
          case cw26R125 => (go_simp; done)
          case ch26R125 =>
            intro ds w' hS K hK
            have hc := (ocell hS).1
            have hf := (ocell hS).2
            have hz := hS.size
            try simp at hz
            go_simp
            try go_bits
            first
              | exact hK _ hS (Gr.refl _)
              | exact hK _ (by repeat (first | (with_reducible exact Below.refl _ _) | (with_reducible assumption) | ((with_reducible refine Below.setCell ?_ ?_ _); rotate_left; · (first | exact Nat.le_refl _ | (simp; done) | (simp; omega) | omega)) | ((with_reducible refine Below.alloc ?_ ?_ _); rotate_left; · (first | exact Nat.le_refl _ | (simp; done) | (simp; omega) | omega)) | (with_reducible apply Below.drew) | (with_reducible apply below_drewN') | (refine Below.trans ?_ (Below.mono (by assumption) (by first | exact Nat.le_refl _ | (simp; done) | (simp; omega) | omega))) | exact Below.refl _ _ | assumption)) (by repeat (first | (with_reducible exact Below.refl _ _) | (with_reducible assumption) | ((with_reducible refine Below.setCell ?_ ?_ _); rotate_left; · (first | exact Nat.le_refl _ | (simp; done) | (simp; omega) | omega)) | ((with_reducible refine Below.alloc ?_ ?_ _); rotate_left; · (first | exact Nat.le_refl _ | (simp; done) | (simp; omega) | omega)) | (with_reducible apply Below.drew) | (with_reducible apply below_drewN') | (refine Below.trans ?_ (Below.mono (by assumption) (by first | exact Nat.le_refl _ | (simp; done) | (simp; omega) | omega))) | exact Below.refl _ _ | assumption))
          case ca26R125 => (first | (simp [Act.put]; done) | (simp [Act.put, *]; done))
          try dsimp only
          refine wpW_end (by kernel_rfl) ?_
          intro we hg hS
          unfold NQ
          dsimp only
          exact H.out _ _ _ _ _ _ _ _ _ _ _ _ _ _ _ _ _ _ _ _ _ _ _ _ we (M4.gr hg)
end Go.Proofs.YtidgeagpgllkeaaGreat
