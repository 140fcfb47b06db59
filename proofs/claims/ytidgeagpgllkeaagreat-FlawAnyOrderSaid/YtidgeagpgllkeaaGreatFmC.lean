/- The law FlawAnyOrder answers true. -/
import Derived.Test.YtidgeagpgllkeaaGreatFmB
namespace Go.Proofs.YtidgeagpgllkeaaGreat
open Go.RowKit

set_option maxRecDepth 100000 in
set_option maxHeartbeats 1000000 in
theorem refAskErr_any (level : Int) (corners : Bool) (w : World) : Calls Tryz.prog 21 #[.agg #[.int .i64 level, .bool corners]] w fun e w' => e = .returned (.int .i64 (levelE level)) ∧ Below w.heap.size w w' := by
  have b1 := Blk.new w 24 #[.int .i64 level, .bool corners]
  have hBB : Below w.heap.size w (w.alloc (.cells #[.int .i64 level, .bool corners] 24)) := (by repeat (first | (with_reducible exact Below.refl _ _) | (with_reducible assumption) | ((with_reducible refine Below.setCell ?_ ?_ _); rotate_left; · (first | exact Nat.le_refl _ | (simp; done) | (simp; omega) | omega)) | ((with_reducible refine Below.alloc ?_ ?_ _); rotate_left; · (first | exact Nat.le_refl _ | (simp; done) | (simp; omega) | omega)) | (with_reducible apply Below.drew) | (with_reducible apply below_drewN') | (refine Below.trans ?_ (Below.mono (by assumption) (by first | exact Nat.le_refl _ | (simp; done) | (simp; omega) | omega))) | exact Below.refl _ _ | assumption))
  obtain ⟨c0, c1, f1⟩ := blk2c b1
  have l1 := b1.lt
  have HE : Hid (levelE level = if wi level 0 1000000000 then 0 else 2) := Lib.hid rfl
  obtain ⟨D, hD⟩ : ∃ D, wi level 0 1000000000 = D := ⟨_, rfl⟩
  have HW := Lib.hid hD
  rw [hD] at HE
  clear hD
  go_enter Tryz.func21, Tryz.ntmps21
  cases D
  all_goals
    go_wp2_with (go_at_call 85; refine (isLevel_any _ _).mono ?_; rw [HW.out]; rintro e w1 ⟨rfl, rfl⟩)
    go_ret
    exact ⟨by rw [HE.out]; rfl, hBB⟩
theorem AreasA.same {g : Int → Int → Int} {level : Int} {corners : Bool} {P P' : List (Int × Int)} {As As' : List ArA} {A A' : Option Addr} {B B' : Nat} {W W' : World} (h : AreasA g level corners P As A B W) (h' : AreasA g level corners P' As' A' B' W') : As.map (·.2) = As'.map (·.2) := by
  obtain ⟨Bs, rfl, h1⟩ := h.ars
  obtain ⟨Cs, rfl, h2⟩ := h'.ars
  have e := h.pls.eq h'.pls
  subst e
  have e1 := h1.areas h.pls
  have e2 := h2.areas h.pls
  rw [List.map_map, List.map_map]
  exact e1.trans e2.symm
theorem ArsOk.more {g : Int → Int → Int} {As : List ArA} {A : Option Addr} {B B' : Nat} {w : World} (h : ArsOk g As A B w) (hB : B ≤ B') : ArsOk g As A B' w :=
  ⟨h.len, h.row.more hB, fun a ha => ⟨(h.each a ha).len, by obtain ⟨A, c, e, hr⟩ := (h.each a ha).row; exact ⟨A, c, e, hr.more hB⟩⟩⟩

set_option maxRecDepth 100000 in
set_option maxHeartbeats 4000000 in
theorem aoAreas8 (l : List Sc) (A : Option Addr) (c B : Nat) (level : Int) (corners : Bool) {w : World} {q : Nat} (HL : Hid (∀ w', Below w.heap.size w w' → ScOk l A B w')) (hB : B ≤ w.heap.size) (hle : l.length ≤ c) (hl6 : l.length ≤ 6) (HNIL : Hid (A = none → c = 0)) (HD : Hid (∀ s ∈ l, s.data.length ≤ s.dcap ∧ (s.dA = none → s.dcap = 0))) (HSZ : Hid (∀ s ∈ l, s.data.length ≤ 1000000000)) (HG : Hid (∀ s ∈ l, ScGood s))
    (b4 : Blk w q 24 #[.int .i64 level, .bool corners]) (HLV : Hid (wi level 0 1000000000 = true)) {t1 t2 t3 t5 t6 t7 t8 t9 t10 t11 t12 t13 t14 t15 t16 t17 t18 t19 t20 t21 t22 t23 t24 t25 t26 t27 t28 t29 t30 t31 t32 t33 t34 t35 t36 t37 t38 t39 t40 t41 t42 t43 t44 t45 t46 t47 t48 t49 t50 t51 t52 t53 t54 t55 t56 t57 t58 t59 t60 t61 t62 t63 t64 t65 t66 t67 t68 t69 t70 t71 t72 t73 t74 t75 t76 t77 t78 t79 t80 t81 t82 t83 t84 t85 t86 t87 t88 t89 t90 t91 t92 t93 t94 t95 t96 t97 t98 t99 t100 t101 t102 t103 t104 t105 t106 t107 t108 t109 t110 t111 t112 t113 t114 t115 t116 t117 t118 t119 t120 t121 t122 t123 t124 t125 t126 t127 t128 t129 t130 t131 t132 t133 t134 t135 t136 t137 t138 t139 t140 t141 t142 t143 t144 t145 t146 t147 t148 t149 t150 t151 t152 t153 t154 t155 t156 t157 t158 t159 t160 t161 t162 t163 t164 t165 t166 t167 t168 t169 t170 t171 t172 t173 t174 t175 t176 t177 t178 t179 t180 t181 t182 t183 t184 t185 t186 t187 t188 t189 t190 t191 t192 t193 t194 : Value} {ds : List Deferred} (Q : Exit → Act → World → Prop)
    (h : ∀ (t48 t49 t50 t51 t52 t53 t54 : Value) (A' : Option Addr) (c' B' : Nat) (P : List (Int × Int)) (As : List ArA) (w' : World), AreasA (atV l) level corners P As A' B' w' → B' ≤ w'.heap.size → Below w.heap.size w w' → Q .normal ⟨#[.slice A l.length c, t1, t2, t3, .pointer (some ⟨q, 0, none⟩), t5, t6, t7, t8, .slice A' As.length c', .int .i64 0, t11, t12, t13, t14, t15, t16, t17, t18, t19, t20, t21, t22, t23, t24, t25, t26, t27, t28, t29, t30, t31, t32, t33, t34, t35, t36, t37, t38, t39, t40, t41, t42, t43, t44, t45, t46, t47, t48, t49, t50, t51, t52, t53, t54, t55, t56, t57, t58, t59, t60, t61, t62, t63, t64, t65, t66, t67, t68, t69, t70, t71, t72, t73, t74, t75, t76, t77, t78, t79, t80, t81, t82, t83, t84, t85, t86, t87, t88, t89, t90, t91, t92, t93, t94, t95, t96, t97, t98, t99, t100, t101, t102, t103, t104, t105, t106, t107, t108, t109, t110, t111, t112, t113, t114, t115, t116, t117, t118, t119, t120, t121, t122, t123, t124, t125, t126, t127, t128, t129, t130, t131, t132, t133, t134, t135, t136, t137, t138, t139, t140, t141, t142, t143, t144, t145, t146, t147, t148, t149, t150, t151, t152, t153, t154, t155, t156, t157, t158, t159, t160, t161, t162, t163, t164, t165, t166, t167, t168, t169, t170, t171, t172, t173, t174, t175, t176, t177, t178, t179, t180, t181, t182, t183, t184, t185, t186, t187, t188, t189, t190, t191, t192, t193, t194], ds⟩ w') :
    (regOf Tryz.f3 8).wp Tryz.prog Q ⟨#[.slice A l.length c, t1, t2, t3, .pointer (some ⟨q, 0, none⟩), t5, t6, t7, t8, t9, t10, t11, t12, t13, t14, t15, t16, t17, t18, t19, t20, t21, t22, t23, t24, t25, t26, t27, t28, t29, t30, t31, t32, t33, t34, t35, t36, t37, t38, t39, t40, t41, t42, t43, t44, t45, t46, t47, t48, t49, t50, t51, t52, t53, t54, t55, t56, t57, t58, t59, t60, t61, t62, t63, t64, t65, t66, t67, t68, t69, t70, t71, t72, t73, t74, t75, t76, t77, t78, t79, t80, t81, t82, t83, t84, t85, t86, t87, t88, t89, t90, t91, t92, t93, t94, t95, t96, t97, t98, t99, t100, t101, t102, t103, t104, t105, t106, t107, t108, t109, t110, t111, t112, t113, t114, t115, t116, t117, t118, t119, t120, t121, t122, t123, t124, t125, t126, t127, t128, t129, t130, t131, t132, t133, t134, t135, t136, t137, t138, t139, t140, t141, t142, t143, t144, t145, t146, t147, t148, t149, t150, t151, t152, t153, t154, t155, t156, t157, t158, t159, t160, t161, t162, t163, t164, t165, t166, t167, t168, t169, t170, t171, t172, t173, t174, t175, t176, t177, t178, t179, t180, t181, t182, t183, t184, t185, t186, t187, t188, t189, t190, t191, t192, t193, t194], ds⟩ w := by
  have H := Lib.hid h; clear h
  obtain ⟨c0, c1, f4⟩ := blk2c b4
  have l4 := b4.lt
  conv in (regOf _ _) => whnf
  refine wp_region_w (Gr _) (by kernel_rfl) (Below.refl _ _).drew ?_
  refine wpW_det (t' := ?ct0R18) 0 (by rfl) (by kernel_rfl) (NQ_free _) (by kernel_rfl) ?cw0R18 ?ch0R18 ?ca0R18 (Eq.refl _) ?cH0R18
  case cw0R18 => (go_simp; done)
  case ch0R18 =>
    intro ds w' hS K hK
    have hc := (bcell hS).1
    have hf := (bcell hS).2
    have hz := hS.size
    try simp at hz
    go_simp
    try go_bits
    first
      | exact hK _ hS (Gr.refl _)
      | exact hK _ (by repeat (first | (with_reducible exact Below.refl _ _) | (with_reducible assumption) | ((with_reducible refine Below.setCell ?_ ?_ _); rotate_left; · (first | exact Nat.le_refl _ | (simp; done) | (simp; omega) | omega)) | ((with_reducible refine Below.alloc ?_ ?_ _); rotate_left; · (first | exact Nat.le_refl _ | (simp; done) | (simp; omega) | omega)) | (with_reducible apply Below.drew) | (with_reducible apply below_drewN') | (refine Below.trans ?_ (Below.mono (by assumption) (by first | exact Nat.le_refl _ | (simp; done) | (simp; omega) | omega))) | exact Below.refl _ _ | assumption)) (by repeat (first | (with_reducible exact Below.refl _ _) | (with_reducible assumption) | ((with_reducible refine Below.setCell ?_ ?_ _); rotate_left; · (first | exact Nat.le_refl _ | (simp; done) | (simp; omega) | omega)) | ((with_reducible refine Below.alloc ?_ ?_ _); rotate_left; · (first | exact Nat.le_refl _ | (simp; done) | (simp; omega) | omega)) | (with_reducible apply Below.drew) | (with_reducible apply below_drewN') | (refine Below.trans ?_ (Below.mono (by assumption) (by first | exact Nat.le_refl _ | (simp; done) | (simp; omega) | omega))) | exact Below.refl _ _ | assumption))
  case ca0R18 => (first | (simp [Act.put]; done) | (simp [Act.put, *]; done))
  try dsimp only
  refine wpW_det (t' := ?ct2R18) 2 (by rfl) (by kernel_rfl) (NQ_free _) (by kernel_rfl) ?cw2R18 ?ch2R18 ?ca2R18 (Eq.refl _) ?cH2R18
  case cw2R18 => (go_simp; done)
  case ch2R18 =>
    intro ds w' hS K hK
    have hc := (bcell hS).1
    have hf := (bcell hS).2
    have hz := hS.size
    try simp at hz
    go_simp
    try go_bits
    first
      | exact hK _ hS (Gr.refl _)
      | exact hK _ (by repeat (first | (with_reducible exact Below.refl _ _) | (with_reducible assumption) | ((with_reducible refine Below.setCell ?_ ?_ _); rotate_left; · (first | exact Nat.le_refl _ | (simp; done) | (simp; omega) | omega)) | ((with_reducible refine Below.alloc ?_ ?_ _); rotate_left; · (first | exact Nat.le_refl _ | (simp; done) | (simp; omega) | omega)) | (with_reducible apply Below.drew) | (with_reducible apply below_drewN') | (refine Below.trans ?_ (Below.mono (by assumption) (by first | exact Nat.le_refl _ | (simp; done) | (simp; omega) | omega))) | exact Below.refl _ _ | assumption)) (by repeat (first | (with_reducible exact Below.refl _ _) | (with_reducible assumption) | ((with_reducible refine Below.setCell ?_ ?_ _); rotate_left; · (first | exact Nat.le_refl _ | (simp; done) | (simp; omega) | omega)) | ((with_reducible refine Below.alloc ?_ ?_ _); rotate_left; · (first | exact Nat.le_refl _ | (simp; done) | (simp; omega) | omega)) | (with_reducible apply Below.drew) | (with_reducible apply below_drewN') | (refine Below.trans ?_ (Below.mono (by assumption) (by first | exact Nat.le_refl _ | (simp; done) | (simp; omega) | omega))) | exact Below.refl _ _ | assumption))
  case ca2R18 => (first | (simp [Act.put]; done) | (simp [Act.put, *]; done))
  try dsimp only
  refine wpW_branch [1] (by kernel_rfl) (by simp) ?_
  intro v1 hg_v1 hS_v1
  refine each_cons ?_ each_nil
  refine wpOp_go (by rfl) (Eq.refl _) (by go_simp; done) ?_
  intro K hK
  go_simp
  try simp only [Act.put]
  refine (copyScans_any l A c B _ (HL.out _ hS_v1) hle (by have := Below.size hS_v1; omega) HNIL.out HD).mono ?_
  rintro e ws1 ⟨v2, L2, rfl, hc2, own2, each2, hBs⟩
  obtain ⟨A2, c2, rfl, hl2⟩ := copiedS hc2 own2 each2 (by omega) HSZ.out
  refine hK _ _ (Below.trans hS_v1 (hBs.mono (Below.size hS_v1))) ?_
  clear hK K own2 each2 hBs
  refine wpW_branch [3] (by kernel_rfl) (by simp) ?_
  intro v2 hg_v2 hS_v2
  refine each_cons ?_ each_nil
  refine wpOp_go (by rfl) (Eq.refl _) (by go_simp; done) ?_
  intro K hK
  go_simp
  try simp only [Act.put]
  refine (areasCopy l L2 A2 c2 _ level corners _ hc2 (hl2.below hg_v2 (Nat.le_refl _)) (Below.size hg_v2) HG.out hl6 HLV.out).mono ?_
  rintro e ws2 ⟨A', c', P, As, rfl, hA, hBs⟩
  refine hK _ _ (Below.trans hS_v2 (hBs.mono (Below.size hS_v2))) ?_
  clear hK K hBs hl2
  refine wpW_det (t' := ?ct4R19) 4 (by rfl) (by kernel_rfl) (NQ_free _) (by kernel_rfl) ?cw4R19 ?ch4R19 ?ca4R19 (Eq.refl _) ?cH4R19
  case cw4R19 => (go_simp; done)
  case ch4R19 =>
    intro ds w' hS K hK
    have hc := (bcell hS).1
    have hf := (bcell hS).2
    have hz := hS.size
    try simp at hz
    go_simp
    try go_bits
    first
      | exact hK _ hS (Gr.refl _)
      | exact hK _ (by repeat (first | (with_reducible exact Below.refl _ _) | (with_reducible assumption) | ((with_reducible refine Below.setCell ?_ ?_ _); rotate_left; · (first | exact Nat.le_refl _ | (simp; done) | (simp; omega) | omega)) | ((with_reducible refine Below.alloc ?_ ?_ _); rotate_left; · (first | exact Nat.le_refl _ | (simp; done) | (simp; omega) | omega)) | (with_reducible apply Below.drew) | (with_reducible apply below_drewN') | (refine Below.trans ?_ (Below.mono (by assumption) (by first | exact Nat.le_refl _ | (simp; done) | (simp; omega) | omega))) | exact Below.refl _ _ | assumption)) (by repeat (first | (with_reducible exact Below.refl _ _) | (with_reducible assumption) | ((with_reducible refine Below.setCell ?_ ?_ _); rotate_left; · (first | exact Nat.le_refl _ | (simp; done) | (simp; omega) | omega)) | ((with_reducible refine Below.alloc ?_ ?_ _); rotate_left; · (first | exact Nat.le_refl _ | (simp; done) | (simp; omega) | omega)) | (with_reducible apply Below.drew) | (with_reducible apply below_drewN') | (refine Below.trans ?_ (Below.mono (by assumption) (by first | exact Nat.le_refl _ | (simp; done) | (simp; omega) | omega))) | exact Below.refl _ _ | assumption))
  case ca4R19 => (first | (simp [Act.put]; done) | (simp [Act.put, *]; done))
  try dsimp only
  refine wpW_det (t' := ?ct5R19) 5 (by rfl) (by kernel_rfl) (NQ_free _) (by kernel_rfl) ?cw5R19 ?ch5R19 ?ca5R19 (Eq.refl _) ?cH5R19
  case cw5R19 => (go_simp; done)
  case ch5R19 =>
    intro ds w' hS K hK
    have hc := (bcell hS).1
    have hf := (bcell hS).2
    have hz := hS.size
    try simp at hz
    go_simp
    try go_bits
    first
      | exact hK _ hS (Gr.refl _)
      | exact hK _ (by repeat (first | (with_reducible exact Below.refl _ _) | (with_reducible assumption) | ((with_reducible refine Below.setCell ?_ ?_ _); rotate_left; · (first | exact Nat.le_refl _ | (simp; done) | (simp; omega) | omega)) | ((with_reducible refine Below.alloc ?_ ?_ _); rotate_left; · (first | exact Nat.le_refl _ | (simp; done) | (simp; omega) | omega)) | (with_reducible apply Below.drew) | (with_reducible apply below_drewN') | (refine Below.trans ?_ (Below.mono (by assumption) (by first | exact Nat.le_refl _ | (simp; done) | (simp; omega) | omega))) | exact Below.refl _ _ | assumption)) (by repeat (first | (with_reducible exact Below.refl _ _) | (with_reducible assumption) | ((with_reducible refine Below.setCell ?_ ?_ _); rotate_left; · (first | exact Nat.le_refl _ | (simp; done) | (simp; omega) | omega)) | ((with_reducible refine Below.alloc ?_ ?_ _); rotate_left; · (first | exact Nat.le_refl _ | (simp; done) | (simp; omega) | omega)) | (with_reducible apply Below.drew) | (with_reducible apply below_drewN') | (refine Below.trans ?_ (Below.mono (by assumption) (by first | exact Nat.le_refl _ | (simp; done) | (simp; omega) | omega))) | exact Below.refl _ _ | assumption))
  case ca5R19 => (first | (simp [Act.put]; done) | (simp [Act.put, *]; done))
  try dsimp only
  refine wpW_det (t' := ?ct6R19) 6 (by rfl) (by kernel_rfl) (NQ_free _) (by kernel_rfl) ?cw6R19 ?ch6R19 ?ca6R19 (Eq.refl _) ?cH6R19
  case cw6R19 => (go_simp; done)
  case ch6R19 =>
    intro ds w' hS K hK
    have hc := (bcell hS).1
    have hf := (bcell hS).2
    have hz := hS.size
    try simp at hz
    go_simp
    try go_bits
    first
      | exact hK _ hS (Gr.refl _)
      | exact hK _ (by repeat (first | (with_reducible exact Below.refl _ _) | (with_reducible assumption) | ((with_reducible refine Below.setCell ?_ ?_ _); rotate_left; · (first | exact Nat.le_refl _ | (simp; done) | (simp; omega) | omega)) | ((with_reducible refine Below.alloc ?_ ?_ _); rotate_left; · (first | exact Nat.le_refl _ | (simp; done) | (simp; omega) | omega)) | (with_reducible apply Below.drew) | (with_reducible apply below_drewN') | (refine Below.trans ?_ (Below.mono (by assumption) (by first | exact Nat.le_refl _ | (simp; done) | (simp; omega) | omega))) | exact Below.refl _ _ | assumption)) (by repeat (first | (with_reducible exact Below.refl _ _) | (with_reducible assumption) | ((with_reducible refine Below.setCell ?_ ?_ _); rotate_left; · (first | exact Nat.le_refl _ | (simp; done) | (simp; omega) | omega)) | ((with_reducible refine Below.alloc ?_ ?_ _); rotate_left; · (first | exact Nat.le_refl _ | (simp; done) | (simp; omega) | omega)) | (with_reducible apply Below.drew) | (with_reducible apply below_drewN') | (refine Below.trans ?_ (Below.mono (by assumption) (by first | exact Nat.le_refl _ | (simp; done) | (simp; omega) | omega))) | exact Below.refl _ _ | assumption))
  case ca6R19 => (first | (simp [Act.put]; done) | (simp [Act.put, *]; done))
  try dsimp only
  refine wpW_det (t' := ?ct7R19) 7 (by rfl) (by kernel_rfl) (NQ_free _) (by kernel_rfl) ?cw7R19 ?ch7R19 ?ca7R19 (Eq.refl _) ?cH7R19
  case cw7R19 => (go_simp; done)
  case ch7R19 =>
    intro ds w' hS K hK
    have hc := (bcell hS).1
    have hf := (bcell hS).2
    have hz := hS.size
    try simp at hz
    go_simp
    try go_bits
    first
      | exact hK _ hS (Gr.refl _)
      | exact hK _ (by repeat (first | (with_reducible exact Below.refl _ _) | (with_reducible assumption) | ((with_reducible refine Below.setCell ?_ ?_ _); rotate_left; · (first | exact Nat.le_refl _ | (simp; done) | (simp; omega) | omega)) | ((with_reducible refine Below.alloc ?_ ?_ _); rotate_left; · (first | exact Nat.le_refl _ | (simp; done) | (simp; omega) | omega)) | (with_reducible apply Below.drew) | (with_reducible apply below_drewN') | (refine Below.trans ?_ (Below.mono (by assumption) (by first | exact Nat.le_refl _ | (simp; done) | (simp; omega) | omega))) | exact Below.refl _ _ | assumption)) (by repeat (first | (with_reducible exact Below.refl _ _) | (with_reducible assumption) | ((with_reducible refine Below.setCell ?_ ?_ _); rotate_left; · (first | exact Nat.le_refl _ | (simp; done) | (simp; omega) | omega)) | ((with_reducible refine Below.alloc ?_ ?_ _); rotate_left; · (first | exact Nat.le_refl _ | (simp; done) | (simp; omega) | omega)) | (with_reducible apply Below.drew) | (with_reducible apply below_drewN') | (refine Below.trans ?_ (Below.mono (by assumption) (by first | exact Nat.le_refl _ | (simp; done) | (simp; omega) | omega))) | exact Below.refl _ _ | assumption))
  case ca7R19 => (first | (simp [Act.put]; done) | (simp [Act.put, *]; done))
  try dsimp only
  refine wpW_det (t' := ?ct8R19) 8 (by rfl) (by kernel_rfl) (NQ_free _) (by kernel_rfl) ?cw8R19 ?ch8R19 ?ca8R19 (Eq.refl _) ?cH8R19
  case cw8R19 => (go_simp; done)
  case ch8R19 =>
    intro ds w' hS K hK
    have hc := (bcell hS).1
    have hf := (bcell hS).2
    have hz := hS.size
    try simp at hz
    go_simp
    try go_bits
    first
      | exact hK _ hS (Gr.refl _)
      | exact hK _ (by repeat (first | (with_reducible exact Below.refl _ _) | (with_reducible assumption) | ((with_reducible refine Below.setCell ?_ ?_ _); rotate_left; · (first | exact Nat.le_refl _ | (simp; done) | (simp; omega) | omega)) | ((with_reducible refine Below.alloc ?_ ?_ _); rotate_left; · (first | exact Nat.le_refl _ | (simp; done) | (simp; omega) | omega)) | (with_reducible apply Below.drew) | (with_reducible apply below_drewN') | (refine Below.trans ?_ (Below.mono (by assumption) (by first | exact Nat.le_refl _ | (simp; done) | (simp; omega) | omega))) | exact Below.refl _ _ | assumption)) (by repeat (first | (with_reducible exact Below.refl _ _) | (with_reducible assumption) | ((with_reducible refine Below.setCell ?_ ?_ _); rotate_left; · (first | exact Nat.le_refl _ | (simp; done) | (simp; omega) | omega)) | ((with_reducible refine Below.alloc ?_ ?_ _); rotate_left; · (first | exact Nat.le_refl _ | (simp; done) | (simp; omega) | omega)) | (with_reducible apply Below.drew) | (with_reducible apply below_drewN') | (refine Below.trans ?_ (Below.mono (by assumption) (by first | exact Nat.le_refl _ | (simp; done) | (simp; omega) | omega))) | exact Below.refl _ _ | assumption))
  case ca8R19 => (first | (simp [Act.put]; done) | (simp [Act.put, *]; done))
  try dsimp only
  refine wpW_end (by kernel_rfl) ?_
  intro we hg hS
  unfold NQ
  dsimp only
  exact H.out _ _ _ _ _ _ _ A' c' _ P As we (hA.below hg (Nat.le_refl _)) (Below.size hg) hS

set_option maxRecDepth 100000 in
set_option maxHeartbeats 4000000 in
theorem aoAreas24 (l : List Sc) (A : Option Addr) (c B : Nat) (level : Int) (corners : Bool) {w : World} {q : Nat} (HL : Hid (∀ w', Below w.heap.size w w' → ScOk l A B w')) (hB : B ≤ w.heap.size) (hle : l.length ≤ c) (hl6 : l.length ≤ 6) (HNIL : Hid (A = none → c = 0)) (HD : Hid (∀ s ∈ l, s.data.length ≤ s.dcap ∧ (s.dA = none → s.dcap = 0))) (HSZ : Hid (∀ s ∈ l, s.data.length ≤ 1000000000)) (HG : Hid (∀ s ∈ l, ScGood s))
    (b4 : Blk w q 24 #[.int .i64 level, .bool corners]) (HLV : Hid (wi level 0 1000000000 = true)) {t0 t1 t2 t3 t5 t6 t7 t8 t9 t10 t12 t13 t14 t15 t16 t17 t18 t19 t20 t21 t22 t23 t24 t25 t26 t27 t28 t29 t30 t31 t32 t33 t34 t35 t36 t37 t38 t39 t40 t41 t42 t43 t44 t45 t46 t47 t48 t49 t50 t51 t52 t53 t54 t55 t56 t57 t58 t59 t60 t61 t62 t63 t64 t65 t66 t67 t68 t69 t70 t71 t72 t73 t74 t75 t76 t77 t78 t79 t80 t81 t82 t83 t84 t85 t86 t87 t88 t89 t90 t91 t92 t93 t94 t95 t96 t97 t98 t99 t100 t101 t102 t103 t104 t105 t106 t107 t108 t109 t110 t111 t112 t113 t114 t115 t116 t117 t118 t119 t120 t121 t122 t123 t124 t125 t126 t127 t128 t129 t130 t131 t132 t133 t134 t135 t136 t137 t138 t139 t140 t141 t142 t143 t144 t145 t146 t147 t148 t149 t150 t151 t152 t153 t154 t155 t156 t157 t158 t159 t160 t161 t162 t163 t164 t165 t166 t167 t168 t169 t170 t171 t172 t173 t174 t175 t176 t177 t178 t179 t180 t181 t182 t183 t184 t185 t186 t187 t188 t189 t190 t191 t192 t193 t194 : Value} {ds : List Deferred} (Q : Exit → Act → World → Prop)
    (h : ∀ (t161 t162 t163 t164 t165 t166 t167 : Value) (A' : Option Addr) (c' B' : Nat) (P : List (Int × Int)) (As : List ArA) (w' : World), AreasA (atV l) level corners P As A' B' w' → B' ≤ w'.heap.size → Below w.heap.size w w' → Q .normal ⟨#[t0, t1, t2, t3, .pointer (some ⟨q, 0, none⟩), t5, t6, t7, t8, t9, t10, .slice A l.length c, t12, t13, t14, t15, t16, .slice A' As.length c', .int .i64 0, t19, t20, t21, t22, t23, t24, t25, t26, t27, t28, t29, t30, t31, t32, t33, t34, t35, t36, t37, t38, t39, t40, t41, t42, t43, t44, t45, t46, t47, t48, t49, t50, t51, t52, t53, t54, t55, t56, t57, t58, t59, t60, t61, t62, t63, t64, t65, t66, t67, t68, t69, t70, t71, t72, t73, t74, t75, t76, t77, t78, t79, t80, t81, t82, t83, t84, t85, t86, t87, t88, t89, t90, t91, t92, t93, t94, t95, t96, t97, t98, t99, t100, t101, t102, t103, t104, t105, t106, t107, t108, t109, t110, t111, t112, t113, t114, t115, t116, t117, t118, t119, t120, t121, t122, t123, t124, t125, t126, t127, t128, t129, t130, t131, t132, t133, t134, t135, t136, t137, t138, t139, t140, t141, t142, t143, t144, t145, t146, t147, t148, t149, t150, t151, t152, t153, t154, t155, t156, t157, t158, t159, t160, t161, t162, t163, t164, t165, t166, t167, t168, t169, t170, t171, t172, t173, t174, t175, t176, t177, t178, t179, t180, t181, t182, t183, t184, t185, t186, t187, t188, t189, t190, t191, t192, t193, t194], ds⟩ w') :
    (regOf Tryz.f3 24).wp Tryz.prog Q ⟨#[t0, t1, t2, t3, .pointer (some ⟨q, 0, none⟩), t5, t6, t7, t8, t9, t10, .slice A l.length c, t12, t13, t14, t15, t16, t17, t18, t19, t20, t21, t22, t23, t24, t25, t26, t27, t28, t29, t30, t31, t32, t33, t34, t35, t36, t37, t38, t39, t40, t41, t42, t43, t44, t45, t46, t47, t48, t49, t50, t51, t52, t53, t54, t55, t56, t57, t58, t59, t60, t61, t62, t63, t64, t65, t66, t67, t68, t69, t70, t71, t72, t73, t74, t75, t76, t77, t78, t79, t80, t81, t82, t83, t84, t85, t86, t87, t88, t89, t90, t91, t92, t93, t94, t95, t96, t97, t98, t99, t100, t101, t102, t103, t104, t105, t106, t107, t108, t109, t110, t111, t112, t113, t114, t115, t116, t117, t118, t119, t120, t121, t122, t123, t124, t125, t126, t127, t128, t129, t130, t131, t132, t133, t134, t135, t136, t137, t138, t139, t140, t141, t142, t143, t144, t145, t146, t147, t148, t149, t150, t151, t152, t153, t154, t155, t156, t157, t158, t159, t160, t161, t162, t163, t164, t165, t166, t167, t168, t169, t170, t171, t172, t173, t174, t175, t176, t177, t178, t179, t180, t181, t182, t183, t184, t185, t186, t187, t188, t189, t190, t191, t192, t193, t194], ds⟩ w := by
  have H := Lib.hid h; clear h
  obtain ⟨c0, c1, f4⟩ := blk2c b4
  have l4 := b4.lt
  conv in (regOf _ _) => whnf
  refine wp_region_w (Gr _) (by kernel_rfl) (Below.refl _ _).drew ?_
  refine wpW_det (t' := ?ct0R20) 0 (by rfl) (by kernel_rfl) (NQ_free _) (by kernel_rfl) ?cw0R20 ?ch0R20 ?ca0R20 (Eq.refl _) ?cH0R20
  case cw0R20 => (go_simp; done)
  case ch0R20 =>
    intro ds w' hS K hK
    have hc := (bcell hS).1
    have hf := (bcell hS).2
    have hz := hS.size
    try simp at hz
    go_simp
    try go_bits
    first
      | exact hK _ hS (Gr.refl _)
      | exact hK _ (by repeat (first | (with_reducible exact Below.refl _ _) | (with_reducible assumption) | ((with_reducible refine Below.setCell ?_ ?_ _); rotate_left; · (first | exact Nat.le_refl _ | (simp; done) | (simp; omega) | omega)) | ((with_reducible refine Below.alloc ?_ ?_ _); rotate_left; · (first | exact Nat.le_refl _ | (simp; done) | (simp; omega) | omega)) | (with_reducible apply Below.drew) | (with_reducible apply below_drewN') | (refine Below.trans ?_ (Below.mono (by assumption) (by first | exact Nat.le_refl _ | (simp; done) | (simp; omega) | omega))) | exact Below.refl _ _ | assumption)) (by repeat (first | (with_reducible exact Below.refl _ _) | (with_reducible assumption) | ((with_reducible refine Below.setCell ?_ ?_ _); rotate_left; · (first | exact Nat.le_refl _ | (simp; done) | (simp; omega) | omega)) | ((with_reducible refine Below.alloc ?_ ?_ _); rotate_left; · (first | exact Nat.le_refl _ | (simp; done) | (simp; omega) | omega)) | (with_reducible apply Below.drew) | (with_reducible apply below_drewN') | (refine Below.trans ?_ (Below.mono (by assumption) (by first | exact Nat.le_refl _ | (simp; done) | (simp; omega) | omega))) | exact Below.refl _ _ | assumption))
  case ca0R20 => (first | (simp [Act.put]; done) | (simp [Act.put, *]; done))
  try dsimp only
  refine wpW_det (t' := ?ct2R20) 2 (by rfl) (by kernel_rfl) (NQ_free _) (by kernel_rfl) ?cw2R20 ?ch2R20 ?ca2R20 (Eq.refl _) ?cH2R20
  case cw2R20 => (go_simp; done)
  case ch2R20 =>
    intro ds w' hS K hK
    have hc := (bcell hS).1
    have hf := (bcell hS).2
    have hz := hS.size
    try simp at hz
    go_simp
    try go_bits
    first
      | exact hK _ hS (Gr.refl _)
      | exact hK _ (by repeat (first | (with_reducible exact Below.refl _ _) | (with_reducible assumption) | ((with_reducible refine Below.setCell ?_ ?_ _); rotate_left; · (first | exact Nat.le_refl _ | (simp; done) | (simp; omega) | omega)) | ((with_reducible refine Below.alloc ?_ ?_ _); rotate_left; · (first | exact Nat.le_refl _ | (simp; done) | (simp; omega) | omega)) | (with_reducible apply Below.drew) | (with_reducible apply below_drewN') | (refine Below.trans ?_ (Below.mono (by assumption) (by first | exact Nat.le_refl _ | (simp; done) | (simp; omega) | omega))) | exact Below.refl _ _ | assumption)) (by repeat (first | (with_reducible exact Below.refl _ _) | (with_reducible assumption) | ((with_reducible refine Below.setCell ?_ ?_ _); rotate_left; · (first | exact Nat.le_refl _ | (simp; done) | (simp; omega) | omega)) | ((with_reducible refine Below.alloc ?_ ?_ _); rotate_left; · (first | exact Nat.le_refl _ | (simp; done) | (simp; omega) | omega)) | (with_reducible apply Below.drew) | (with_reducible apply below_drewN') | (refine Below.trans ?_ (Below.mono (by assumption) (by first | exact Nat.le_refl _ | (simp; done) | (simp; omega) | omega))) | exact Below.refl _ _ | assumption))
  case ca2R20 => (first | (simp [Act.put]; done) | (simp [Act.put, *]; done))
  try dsimp only
  refine wpW_branch [1] (by kernel_rfl) (by simp) ?_
  intro v1 hg_v1 hS_v1
  refine each_cons ?_ each_nil
  refine wpOp_go (by rfl) (Eq.refl _) (by go_simp; done) ?_
  intro K hK
  go_simp
  try simp only [Act.put]
  refine (copyScans_any l A c B _ (HL.out _ hS_v1) hle (by have := Below.size hS_v1; omega) HNIL.out HD).mono ?_
  rintro e ws1 ⟨v2, L2, rfl, hc2, own2, each2, hBs⟩
  obtain ⟨A2, c2, rfl, hl2⟩ := copiedS hc2 own2 each2 (by omega) HSZ.out
  refine hK _ _ (Below.trans hS_v1 (hBs.mono (Below.size hS_v1))) ?_
  clear hK K own2 each2 hBs
  refine wpW_branch [3] (by kernel_rfl) (by simp) ?_
  intro v2 hg_v2 hS_v2
  refine each_cons ?_ each_nil
  refine wpOp_go (by rfl) (Eq.refl _) (by go_simp; done) ?_
  intro K hK
  go_simp
  try simp only [Act.put]
  refine (areasCopy l L2 A2 c2 _ level corners _ hc2 (hl2.below hg_v2 (Nat.le_refl _)) (Below.size hg_v2) HG.out hl6 HLV.out).mono ?_
  rintro e ws2 ⟨A', c', P, As, rfl, hA, hBs⟩
  refine hK _ _ (Below.trans hS_v2 (hBs.mono (Below.size hS_v2))) ?_
  clear hK K hBs hl2
  refine wpW_det (t' := ?ct4R21) 4 (by rfl) (by kernel_rfl) (NQ_free _) (by kernel_rfl) ?cw4R21 ?ch4R21 ?ca4R21 (Eq.refl _) ?cH4R21
  case cw4R21 => (go_simp; done)
  case ch4R21 =>
    intro ds w' hS K hK
    have hc := (bcell hS).1
    have hf := (bcell hS).2
    have hz := hS.size
    try simp at hz
    go_simp
    try go_bits
    first
      | exact hK _ hS (Gr.refl _)
      | exact hK _ (by repeat (first | (with_reducible exact Below.refl _ _) | (with_reducible assumption) | ((with_reducible refine Below.setCell ?_ ?_ _); rotate_left; · (first | exact Nat.le_refl _ | (simp; done) | (simp; omega) | omega)) | ((with_reducible refine Below.alloc ?_ ?_ _); rotate_left; · (first | exact Nat.le_refl _ | (simp; done) | (simp; omega) | omega)) | (with_reducible apply Below.drew) | (with_reducible apply below_drewN') | (refine Below.trans ?_ (Below.mono (by assumption) (by first | exact Nat.le_refl _ | (simp; done) | (simp; omega) | omega))) | exact Below.refl _ _ | assumption)) (by repeat (first | (with_reducible exact Below.refl _ _) | (with_reducible assumption) | ((with_reducible refine Below.setCell ?_ ?_ _); rotate_left; · (first | exact Nat.le_refl _ | (simp; done) | (simp; omega) | omega)) | ((with_reducible refine Below.alloc ?_ ?_ _); rotate_left; · (first | exact Nat.le_refl _ | (simp; done) | (simp; omega) | omega)) | (with_reducible apply Below.drew) | (with_reducible apply below_drewN') | (refine Below.trans ?_ (Below.mono (by assumption) (by first | exact Nat.le_refl _ | (simp; done) | (simp; omega) | omega))) | exact Below.refl _ _ | assumption))
  case ca4R21 => (first | (simp [Act.put]; done) | (simp [Act.put, *]; done))
  try dsimp only
  refine wpW_det (t' := ?ct5R21) 5 (by rfl) (by kernel_rfl) (NQ_free _) (by kernel_rfl) ?cw5R21 ?ch5R21 ?ca5R21 (Eq.refl _) ?cH5R21
  case cw5R21 => (go_simp; done)
  case ch5R21 =>
    intro ds w' hS K hK
    have hc := (bcell hS).1
    have hf := (bcell hS).2
    have hz := hS.size
    try simp at hz
    go_simp
    try go_bits
    first
      | exact hK _ hS (Gr.refl _)
      | exact hK _ (by repeat (first | (with_reducible exact Below.refl _ _) | (with_reducible assumption) | ((with_reducible refine Below.setCell ?_ ?_ _); rotate_left; · (first | exact Nat.le_refl _ | (simp; done) | (simp; omega) | omega)) | ((with_reducible refine Below.alloc ?_ ?_ _); rotate_left; · (first | exact Nat.le_refl _ | (simp; done) | (simp; omega) | omega)) | (with_reducible apply Below.drew) | (with_reducible apply below_drewN') | (refine Below.trans ?_ (Below.mono (by assumption) (by first | exact Nat.le_refl _ | (simp; done) | (simp; omega) | omega))) | exact Below.refl _ _ | assumption)) (by repeat (first | (with_reducible exact Below.refl _ _) | (with_reducible assumption) | ((with_reducible refine Below.setCell ?_ ?_ _); rotate_left; · (first | exact Nat.le_refl _ | (simp; done) | (simp; omega) | omega)) | ((with_reducible refine Below.alloc ?_ ?_ _); rotate_left; · (first | exact Nat.le_refl _ | (simp; done) | (simp; omega) | omega)) | (with_reducible apply Below.drew) | (with_reducible apply below_drewN') | (refine Below.trans ?_ (Below.mono (by assumption) (by first | exact Nat.le_refl _ | (simp; done) | (simp; omega) | omega))) | exact Below.refl _ _ | assumption))
  case ca5R21 => (first | (simp [Act.put]; done) | (simp [Act.put, *]; done))
  try dsimp only
  refine wpW_det (t' := ?ct6R21) 6 (by rfl) (by kernel_rfl) (NQ_free _) (by kernel_rfl) ?cw6R21 ?ch6R21 ?ca6R21 (Eq.refl _) ?cH6R21
  case cw6R21 => (go_simp; done)
  case ch6R21 =>
    intro ds w' hS K hK
    have hc := (bcell hS).1
    have hf := (bcell hS).2
    have hz := hS.size
    try simp at hz
    go_simp
    try go_bits
    first
      | exact hK _ hS (Gr.refl _)
      | exact hK _ (by repeat (first | (with_reducible exact Below.refl _ _) | (with_reducible assumption) | ((with_reducible refine Below.setCell ?_ ?_ _); rotate_left; · (first | exact Nat.le_refl _ | (simp; done) | (simp; omega) | omega)) | ((with_reducible refine Below.alloc ?_ ?_ _); rotate_left; · (first | exact Nat.le_refl _ | (simp; done) | (simp; omega) | omega)) | (with_reducible apply Below.drew) | (with_reducible apply below_drewN') | (refine Below.trans ?_ (Below.mono (by assumption) (by first | exact Nat.le_refl _ | (simp; done) | (simp; omega) | omega))) | exact Below.refl _ _ | assumption)) (by repeat (first | (with_reducible exact Below.refl _ _) | (with_reducible assumption) | ((with_reducible refine Below.setCell ?_ ?_ _); rotate_left; · (first | exact Nat.le_refl _ | (simp; done) | (simp; omega) | omega)) | ((with_reducible refine Below.alloc ?_ ?_ _); rotate_left; · (first | exact Nat.le_refl _ | (simp; done) | (simp; omega) | omega)) | (with_reducible apply Below.drew) | (with_reducible apply below_drewN') | (refine Below.trans ?_ (Below.mono (by assumption) (by first | exact Nat.le_refl _ | (simp; done) | (simp; omega) | omega))) | exact Below.refl _ _ | assumption))
  case ca6R21 => (first | (simp [Act.put]; done) | (simp [Act.put, *]; done))
  try dsimp only
  refine wpW_det (t' := ?ct7R21) 7 (by rfl) (by kernel_rfl) (NQ_free _) (by kernel_rfl) ?cw7R21 ?ch7R21 ?ca7R21 (Eq.refl _) ?cH7R21
  case cw7R21 => (go_simp; done)
  case ch7R21 =>
    intro ds w' hS K hK
    have hc := (bcell hS).1
    have hf := (bcell hS).2
    have hz := hS.size
    try simp at hz
    go_simp
    try go_bits
    first
      | exact hK _ hS (Gr.refl _)
      | exact hK _ (by repeat (first | (with_reducible exact Below.refl _ _) | (with_reducible assumption) | ((with_reducible refine Below.setCell ?_ ?_ _); rotate_left; · (first | exact Nat.le_refl _ | (simp; done) | (simp; omega) | omega)) | ((with_reducible refine Below.alloc ?_ ?_ _); rotate_left; · (first | exact Nat.le_refl _ | (simp; done) | (simp; omega) | omega)) | (with_reducible apply Below.drew) | (with_reducible apply below_drewN') | (refine Below.trans ?_ (Below.mono (by assumption) (by first | exact Nat.le_refl _ | (simp; done) | (simp; omega) | omega))) | exact Below.refl _ _ | assumption)) (by repeat (first | (with_reducible exact Below.refl _ _) | (with_reducible assumption) | ((with_reducible refine Below.setCell ?_ ?_ _); rotate_left; · (first | exact Nat.le_refl _ | (simp; done) | (simp; omega) | omega)) | ((with_reducible refine Below.alloc ?_ ?_ _); rotate_left; · (first | exact Nat.le_refl _ | (simp; done) | (simp; omega) | omega)) | (with_reducible apply Below.drew) | (with_reducible apply below_drewN') | (refine Below.trans ?_ (Below.mono (by assumption) (by first | exact Nat.le_refl _ | (simp; done) | (simp; omega) | omega))) | exact Below.refl _ _ | assumption))
  case ca7R21 => (first | (simp [Act.put]; done) | (simp [Act.put, *]; done))
  try dsimp only
  refine wpW_det (t' := ?ct8R21) 8 (by rfl) (by kernel_rfl) (NQ_free _) (by kernel_rfl) ?cw8R21 ?ch8R21 ?ca8R21 (Eq.refl _) ?cH8R21
  case cw8R21 => (go_simp; done)
  case ch8R21 =>
    intro ds w' hS K hK
    have hc := (bcell hS).1
    have hf := (bcell hS).2
    have hz := hS.size
    try simp at hz
    go_simp
    try go_bits
    first
      | exact hK _ hS (Gr.refl _)
      | exact hK _ (by repeat (first | (with_reducible exact Below.refl _ _) | (with_reducible assumption) | ((with_reducible refine Below.setCell ?_ ?_ _); rotate_left; · (first | exact Nat.le_refl _ | (simp; done) | (simp; omega) | omega)) | ((with_reducible refine Below.alloc ?_ ?_ _); rotate_left; · (first | exact Nat.le_refl _ | (simp; done) | (simp; omega) | omega)) | (with_reducible apply Below.drew) | (with_reducible apply below_drewN') | (refine Below.trans ?_ (Below.mono (by assumption) (by first | exact Nat.le_refl _ | (simp; done) | (simp; omega) | omega))) | exact Below.refl _ _ | assumption)) (by repeat (first | (with_reducible exact Below.refl _ _) | (with_reducible assumption) | ((with_reducible refine Below.setCell ?_ ?_ _); rotate_left; · (first | exact Nat.le_refl _ | (simp; done) | (simp; omega) | omega)) | ((with_reducible refine Below.alloc ?_ ?_ _); rotate_left; · (first | exact Nat.le_refl _ | (simp; done) | (simp; omega) | omega)) | (with_reducible apply Below.drew) | (with_reducible apply below_drewN') | (refine Below.trans ?_ (Below.mono (by assumption) (by first | exact Nat.le_refl _ | (simp; done) | (simp; omega) | omega))) | exact Below.refl _ _ | assumption))
  case ca8R21 => (first | (simp [Act.put]; done) | (simp [Act.put, *]; done))
  try dsimp only
  refine wpW_end (by kernel_rfl) ?_
  intro we hg hS
  unfold NQ
  dsimp only
  exact H.out _ _ _ _ _ _ _ A' c' _ P As we (hA.below hg (Nat.le_refl _)) (Below.size hg) hS

set_option maxRecDepth 100000 in
set_option maxHeartbeats 4000000 in
theorem aoAreas25 (l : List Sc) (A : Option Addr) (c B : Nat) (level : Int) (corners : Bool) {w : World} {q : Nat} (HL : Hid (∀ w', Below w.heap.size w w' → ScOk l A B w')) (hB : B ≤ w.heap.size) (hle : l.length ≤ c) (hl6 : l.length ≤ 6) (HNIL : Hid (A = none → c = 0)) (HD : Hid (∀ s ∈ l, s.data.length ≤ s.dcap ∧ (s.dA = none → s.dcap = 0))) (HSZ : Hid (∀ s ∈ l, s.data.length ≤ 1000000000)) (HG : Hid (∀ s ∈ l, ScGood s))
    (b4 : Blk w q 24 #[.int .i64 level, .bool corners]) (HLV : Hid (wi level 0 1000000000 = true)) {t0 t1 t2 t3 t5 t6 t7 t8 t9 t10 t11 t13 t14 t15 t16 t17 t18 t19 t20 t21 t22 t23 t24 t25 t26 t27 t28 t29 t30 t31 t32 t33 t34 t35 t36 t37 t38 t39 t40 t41 t42 t43 t44 t45 t46 t47 t48 t49 t50 t51 t52 t53 t54 t55 t56 t57 t58 t59 t60 t61 t62 t63 t64 t65 t66 t67 t68 t69 t70 t71 t72 t73 t74 t75 t76 t77 t78 t79 t80 t81 t82 t83 t84 t85 t86 t87 t88 t89 t90 t91 t92 t93 t94 t95 t96 t97 t98 t99 t100 t101 t102 t103 t104 t105 t106 t107 t108 t109 t110 t111 t112 t113 t114 t115 t116 t117 t118 t119 t120 t121 t122 t123 t124 t125 t126 t127 t128 t129 t130 t131 t132 t133 t134 t135 t136 t137 t138 t139 t140 t141 t142 t143 t144 t145 t146 t147 t148 t149 t150 t151 t152 t153 t154 t155 t156 t157 t158 t159 t160 t161 t162 t163 t164 t165 t166 t167 t168 t169 t170 t171 t172 t173 t174 t175 t176 t177 t178 t179 t180 t181 t182 t183 t184 t185 t186 t187 t188 t189 t190 t191 t192 t193 t194 : Value} {ds : List Deferred} (Q : Exit → Act → World → Prop)
    (h : ∀ (t168 t169 t170 t171 t172 t173 t174 : Value) (A' : Option Addr) (c' B' : Nat) (P : List (Int × Int)) (As : List ArA) (w' : World), AreasA (atV l) level corners P As A' B' w' → B' ≤ w'.heap.size → Below w.heap.size w w' → Q .normal ⟨#[t0, t1, t2, t3, .pointer (some ⟨q, 0, none⟩), t5, t6, t7, t8, t9, t10, t11, .slice A l.length c, t13, t14, t15, t16, t17, t18, .slice A' As.length c', .int .i64 0, t21, t22, t23, t24, t25, t26, t27, t28, t29, t30, t31, t32, t33, t34, t35, t36, t37, t38, t39, t40, t41, t42, t43, t44, t45, t46, t47, t48, t49, t50, t51, t52, t53, t54, t55, t56, t57, t58, t59, t60, t61, t62, t63, t64, t65, t66, t67, t68, t69, t70, t71, t72, t73, t74, t75, t76, t77, t78, t79, t80, t81, t82, t83, t84, t85, t86, t87, t88, t89, t90, t91, t92, t93, t94, t95, t96, t97, t98, t99, t100, t101, t102, t103, t104, t105, t106, t107, t108, t109, t110, t111, t112, t113, t114, t115, t116, t117, t118, t119, t120, t121, t122, t123, t124, t125, t126, t127, t128, t129, t130, t131, t132, t133, t134, t135, t136, t137, t138, t139, t140, t141, t142, t143, t144, t145, t146, t147, t148, t149, t150, t151, t152, t153, t154, t155, t156, t157, t158, t159, t160, t161, t162, t163, t164, t165, t166, t167, t168, t169, t170, t171, t172, t173, t174, t175, t176, t177, t178, t179, t180, t181, t182, t183, t184, t185, t186, t187, t188, t189, t190, t191, t192, t193, t194], ds⟩ w') :
    (regOf Tryz.f3 25).wp Tryz.prog Q ⟨#[t0, t1, t2, t3, .pointer (some ⟨q, 0, none⟩), t5, t6, t7, t8, t9, t10, t11, .slice A l.length c, t13, t14, t15, t16, t17, t18, t19, t20, t21, t22, t23, t24, t25, t26, t27, t28, t29, t30, t31, t32, t33, t34, t35, t36, t37, t38, t39, t40, t41, t42, t43, t44, t45, t46, t47, t48, t49, t50, t51, t52, t53, t54, t55, t56, t57, t58, t59, t60, t61, t62, t63, t64, t65, t66, t67, t68, t69, t70, t71, t72, t73, t74, t75, t76, t77, t78, t79, t80, t81, t82, t83, t84, t85, t86, t87, t88, t89, t90, t91, t92, t93, t94, t95, t96, t97, t98, t99, t100, t101, t102, t103, t104, t105, t106, t107, t108, t109, t110, t111, t112, t113, t114, t115, t116, t117, t118, t119, t120, t121, t122, t123, t124, t125, t126, t127, t128, t129, t130, t131, t132, t133, t134, t135, t136, t137, t138, t139, t140, t141, t142, t143, t144, t145, t146, t147, t148, t149, t150, t151, t152, t153, t154, t155, t156, t157, t158, t159, t160, t161, t162, t163, t164, t165, t166, t167, t168, t169, t170, t171, t172, t173, t174, t175, t176, t177, t178, t179, t180, t181, t182, t183, t184, t185, t186, t187, t188, t189, t190, t191, t192, t193, t194], ds⟩ w := by
  have H := Lib.hid h; clear h
  obtain ⟨c0, c1, f4⟩ := blk2c b4
  have l4 := b4.lt
  conv in (regOf _ _) => whnf
  refine wp_region_w (Gr _) (by kernel_rfl) (Below.refl _ _).drew ?_
  refine wpW_det (t' := ?ct0R22) 0 (by rfl) (by kernel_rfl) (NQ_free _) (by kernel_rfl) ?cw0R22 ?ch0R22 ?ca0R22 (Eq.refl _) ?cH0R22
  case cw0R22 => (go_simp; done)
  case ch0R22 =>
    intro ds w' hS K hK
    have hc := (bcell hS).1
    have hf := (bcell hS).2
    have hz := hS.size
    try simp at hz
    go_simp
    try go_bits
    first
      | exact hK _ hS (Gr.refl _)
      | exact hK _ (by repeat (first | (with_reducible exact Below.refl _ _) | (with_reducible assumption) | ((with_reducible refine Below.setCell ?_ ?_ _); rotate_left; · (first | exact Nat.le_refl _ | (simp; done) | (simp; omega) | omega)) | ((with_reducible refine Below.alloc ?_ ?_ _); rotate_left; · (first | exact Nat.le_refl _ | (simp; done) | (simp; omega) | omega)) | (with_reducible apply Below.drew) | (with_reducible apply below_drewN') | (refine Below.trans ?_ (Below.mono (by assumption) (by first | exact Nat.le_refl _ | (simp; done) | (simp; omega) | omega))) | exact Below.refl _ _ | assumption)) (by repeat (first | (with_reducible exact Below.refl _ _) | (with_reducible assumption) | ((with_reducible refine Below.setCell ?_ ?_ _); rotate_left; · (first | exact Nat.le_refl _ | (simp; done) | (simp; omega) | omega)) | ((with_reducible refine Below.alloc ?_ ?_ _); rotate_left; · (first | exact Nat.le_refl _ | (simp; done) | (simp; omega) | omega)) | (with_reducible apply Below.drew) | (with_reducible apply below_drewN') | (refine Below.trans ?_ (Below.mono (by assumption) (by first | exact Nat.le_refl _ | (simp; done) | (simp; omega) | omega))) | exact Below.refl _ _ | assumption))
  case ca0R22 => (first | (simp [Act.put]; done) | (simp [Act.put, *]; done))
  try dsimp only
  refine wpW_det (t' := ?ct2R22) 2 (by rfl) (by kernel_rfl) (NQ_free _) (by kernel_rfl) ?cw2R22 ?ch2R22 ?ca2R22 (Eq.refl _) ?cH2R22
  case cw2R22 => (go_simp; done)
  case ch2R22 =>
    intro ds w' hS K hK
    have hc := (bcell hS).1
    have hf := (bcell hS).2
    have hz := hS.size
    try simp at hz
    go_simp
    try go_bits
    first
      | exact hK _ hS (Gr.refl _)
      | exact hK _ (by repeat (first | (with_reducible exact Below.refl _ _) | (with_reducible assumption) | ((with_reducible refine Below.setCell ?_ ?_ _); rotate_left; · (first | exact Nat.le_refl _ | (simp; done) | (simp; omega) | omega)) | ((with_reducible refine Below.alloc ?_ ?_ _); rotate_left; · (first | exact Nat.le_refl _ | (simp; done) | (simp; omega) | omega)) | (with_reducible apply Below.drew) | (with_reducible apply below_drewN') | (refine Below.trans ?_ (Below.mono (by assumption) (by first | exact Nat.le_refl _ | (simp; done) | (simp; omega) | omega))) | exact Below.refl _ _ | assumption)) (by repeat (first | (with_reducible exact Below.refl _ _) | (with_reducible assumption) | ((with_reducible refine Below.setCell ?_ ?_ _); rotate_left; · (first | exact Nat.le_refl _ | (simp; done) | (simp; omega) | omega)) | ((with_reducible refine Below.alloc ?_ ?_ _); rotate_left; · (first | exact Nat.le_refl _ | (simp; done) | (simp; omega) | omega)) | (with_reducible apply Below.drew) | (with_reducible apply below_drewN') | (refine Below.trans ?_ (Below.mono (by assumption) (by first | exact Nat.le_refl _ | (simp; done) | (simp; omega) | omega))) | exact Below.refl _ _ | assumption))
  case ca2R22 => (first | (simp [Act.put]; done) | (simp [Act.put, *]; done))
  try dsimp only
  refine wpW_branch [1] (by kernel_rfl) (by simp) ?_
  intro v1 hg_v1 hS_v1
  refine each_cons ?_ each_nil
  refine wpOp_go (by rfl) (Eq.refl _) (by go_simp; done) ?_
  intro K hK
  go_simp
  try simp only [Act.put]
  refine (copyScans_any l A c B _ (HL.out _ hS_v1) hle (by have := Below.size hS_v1; omega) HNIL.out HD).mono ?_
  rintro e ws1 ⟨v2, L2, rfl, hc2, own2, each2, hBs⟩
  obtain ⟨A2, c2, rfl, hl2⟩ := copiedS hc2 own2 each2 (by omega) HSZ.out
  refine hK _ _ (Below.trans hS_v1 (hBs.mono (Below.size hS_v1))) ?_
  clear hK K own2 each2 hBs
  refine wpW_branch [3] (by kernel_rfl) (by simp) ?_
  intro v2 hg_v2 hS_v2
  refine each_cons ?_ each_nil
  refine wpOp_go (by rfl) (Eq.refl _) (by go_simp; done) ?_
  intro K hK
  go_simp
  try simp only [Act.put]
  refine (areasCopy l L2 A2 c2 _ level corners _ hc2 (hl2.below hg_v2 (Nat.le_refl _)) (Below.size hg_v2) HG.out hl6 HLV.out).mono ?_
  rintro e ws2 ⟨A', c', P, As, rfl, hA, hBs⟩
  refine hK _ _ (Below.trans hS_v2 (hBs.mono (Below.size hS_v2))) ?_
  clear hK K hBs hl2
  refine wpW_det (t' := ?ct4R23) 4 (by rfl) (by kernel_rfl) (NQ_free _) (by kernel_rfl) ?cw4R23 ?ch4R23 ?ca4R23 (Eq.refl _) ?cH4R23
  case cw4R23 => (go_simp; done)
  case ch4R23 =>
    intro ds w' hS K hK
    have hc := (bcell hS).1
    have hf := (bcell hS).2
    have hz := hS.size
    try simp at hz
    go_simp
    try go_bits
    first
      | exact hK _ hS (Gr.refl _)
      | exact hK _ (by repeat (first | (with_reducible exact Below.refl _ _) | (with_reducible assumption) | ((with_reducible refine Below.setCell ?_ ?_ _); rotate_left; · (first | exact Nat.le_refl _ | (simp; done) | (simp; omega) | omega)) | ((with_reducible refine Below.alloc ?_ ?_ _); rotate_left; · (first | exact Nat.le_refl _ | (simp; done) | (simp; omega) | omega)) | (with_reducible apply Below.drew) | (with_reducible apply below_drewN') | (refine Below.trans ?_ (Below.mono (by assumption) (by first | exact Nat.le_refl _ | (simp; done) | (simp; omega) | omega))) | exact Below.refl _ _ | assumption)) (by repeat (first | (with_reducible exact Below.refl _ _) | (with_reducible assumption) | ((with_reducible refine Below.setCell ?_ ?_ _); rotate_left; · (first | exact Nat.le_refl _ | (simp; done) | (simp; omega) | omega)) | ((with_reducible refine Below.alloc ?_ ?_ _); rotate_left; · (first | exact Nat.le_refl _ | (simp; done) | (simp; omega) | omega)) | (with_reducible apply Below.drew) | (with_reducible apply below_drewN') | (refine Below.trans ?_ (Below.mono (by assumption) (by first | exact Nat.le_refl _ | (simp; done) | (simp; omega) | omega))) | exact Below.refl _ _ | assumption))
  case ca4R23 => (first | (simp [Act.put]; done) | (simp [Act.put, *]; done))
  try dsimp only
  refine wpW_det (t' := ?ct5R23) 5 (by rfl) (by kernel_rfl) (NQ_free _) (by kernel_rfl) ?cw5R23 ?ch5R23 ?ca5R23 (Eq.refl _) ?cH5R23
  case cw5R23 => (go_simp; done)
  case ch5R23 =>
    intro ds w' hS K hK
    have hc := (bcell hS).1
    have hf := (bcell hS).2
    have hz := hS.size
    try simp at hz
    go_simp
    try go_bits
    first
      | exact hK _ hS (Gr.refl _)
      | exact hK _ (by repeat (first | (with_reducible exact Below.refl _ _) | (with_reducible assumption) | ((with_reducible refine Below.setCell ?_ ?_ _); rotate_left; · (first | exact Nat.le_refl _ | (simp; done) | (simp; omega) | omega)) | ((with_reducible refine Below.alloc ?_ ?_ _); rotate_left; · (first | exact Nat.le_refl _ | (simp; done) | (simp; omega) | omega)) | (with_reducible apply Below.drew) | (with_reducible apply below_drewN') | (refine Below.trans ?_ (Below.mono (by assumption) (by first | exact Nat.le_refl _ | (simp; done) | (simp; omega) | omega))) | exact Below.refl _ _ | assumption)) (by repeat (first | (with_reducible exact Below.refl _ _) | (with_reducible assumption) | ((with_reducible refine Below.setCell ?_ ?_ _); rotate_left; · (first | exact Nat.le_refl _ | (simp; done) | (simp; omega) | omega)) | ((with_reducible refine Below.alloc ?_ ?_ _); rotate_left; · (first | exact Nat.le_refl _ | (simp; done) | (simp; omega) | omega)) | (with_reducible apply Below.drew) | (with_reducible apply below_drewN') | (refine Below.trans ?_ (Below.mono (by assumption) (by first | exact Nat.le_refl _ | (simp; done) | (simp; omega) | omega))) | exact Below.refl _ _ | assumption))
  case ca5R23 => (first | (simp [Act.put]; done) | (simp [Act.put, *]; done))
  try dsimp only
  refine wpW_det (t' := ?ct6R23) 6 (by rfl) (by kernel_rfl) (NQ_free _) (by kernel_rfl) ?cw6R23 ?ch6R23 ?ca6R23 (Eq.refl _) ?cH6R23
  case cw6R23 => (go_simp; done)
  case ch6R23 =>
    intro ds w' hS K hK
    have hc := (bcell hS).1
    have hf := (bcell hS).2
    have hz := hS.size
    try simp at hz
    go_simp
    try go_bits
    first
      | exact hK _ hS (Gr.refl _)
      | exact hK _ (by repeat (first | (with_reducible exact Below.refl _ _) | (with_reducible assumption) | ((with_reducible refine Below.setCell ?_ ?_ _); rotate_left; · (first | exact Nat.le_refl _ | (simp; done) | (simp; omega) | omega)) | ((with_reducible refine Below.alloc ?_ ?_ _); rotate_left; · (first | exact Nat.le_refl _ | (simp; done) | (simp; omega) | omega)) | (with_reducible apply Below.drew) | (with_reducible apply below_drewN') | (refine Below.trans ?_ (Below.mono (by assumption) (by first | exact Nat.le_refl _ | (simp; done) | (simp; omega) | omega))) | exact Below.refl _ _ | assumption)) (by repeat (first | (with_reducible exact Below.refl _ _) | (with_reducible assumption) | ((with_reducible refine Below.setCell ?_ ?_ _); rotate_left; · (first | exact Nat.le_refl _ | (simp; done) | (simp; omega) | omega)) | ((with_reducible refine Below.alloc ?_ ?_ _); rotate_left; · (first | exact Nat.le_refl _ | (simp; done) | (simp; omega) | omega)) | (with_reducible apply Below.drew) | (with_reducible apply below_drewN') | (refine Below.trans ?_ (Below.mono (by assumption) (by first | exact Nat.le_refl _ | (simp; done) | (simp; omega) | omega))) | exact Below.refl _ _ | assumption))
  case ca6R23 => (first | (simp [Act.put]; done) | (simp [Act.put, *]; done))
  try dsimp only
  refine wpW_det (t' := ?ct7R23) 7 (by rfl) (by kernel_rfl) (NQ_free _) (by kernel_rfl) ?cw7R23 ?ch7R23 ?ca7R23 (Eq.refl _) ?cH7R23
  case cw7R23 => (go_simp; done)
  case ch7R23 =>
    intro ds w' hS K hK
    have hc := (bcell hS).1
    have hf := (bcell hS).2
    have hz := hS.size
    try simp at hz
    go_simp
    try go_bits
    first
      | exact hK _ hS (Gr.refl _)
      | exact hK _ (by repeat (first | (with_reducible exact Below.refl _ _) | (with_reducible assumption) | ((with_reducible refine Below.setCell ?_ ?_ _); rotate_left; · (first | exact Nat.le_refl _ | (simp; done) | (simp; omega) | omega)) | ((with_reducible refine Below.alloc ?_ ?_ _); rotate_left; · (first | exact Nat.le_refl _ | (simp; done) | (simp; omega) | omega)) | (with_reducible apply Below.drew) | (with_reducible apply below_drewN') | (refine Below.trans ?_ (Below.mono (by assumption) (by first | exact Nat.le_refl _ | (simp; done) | (simp; omega) | omega))) | exact Below.refl _ _ | assumption)) (by repeat (first | (with_reducible exact Below.refl _ _) | (with_reducible assumption) | ((with_reducible refine Below.setCell ?_ ?_ _); rotate_left; · (first | exact Nat.le_refl _ | (simp; done) | (simp; omega) | omega)) | ((with_reducible refine Below.alloc ?_ ?_ _); rotate_left; · (first | exact Nat.le_refl _ | (simp; done) | (simp; omega) | omega)) | (with_reducible apply Below.drew) | (with_reducible apply below_drewN') | (refine Below.trans ?_ (Below.mono (by assumption) (by first | exact Nat.le_refl _ | (simp; done) | (simp; omega) | omega))) | exact Below.refl _ _ | assumption))
  case ca7R23 => (first | (simp [Act.put]; done) | (simp [Act.put, *]; done))
  try dsimp only
  refine wpW_det (t' := ?ct8R23) 8 (by rfl) (by kernel_rfl) (NQ_free _) (by kernel_rfl) ?cw8R23 ?ch8R23 ?ca8R23 (Eq.refl _) ?cH8R23
  case cw8R23 => (go_simp; done)
  case ch8R23 =>
    intro ds w' hS K hK
    have hc := (bcell hS).1
    have hf := (bcell hS).2
    have hz := hS.size
    try simp at hz
    go_simp
    try go_bits
    first
      | exact hK _ hS (Gr.refl _)
      | exact hK _ (by repeat (first | (with_reducible exact Below.refl _ _) | (with_reducible assumption) | ((with_reducible refine Below.setCell ?_ ?_ _); rotate_left; · (first | exact Nat.le_refl _ | (simp; done) | (simp; omega) | omega)) | ((with_reducible refine Below.alloc ?_ ?_ _); rotate_left; · (first | exact Nat.le_refl _ | (simp; done) | (simp; omega) | omega)) | (with_reducible apply Below.drew) | (with_reducible apply below_drewN') | (refine Below.trans ?_ (Below.mono (by assumption) (by first | exact Nat.le_refl _ | (simp; done) | (simp; omega) | omega))) | exact Below.refl _ _ | assumption)) (by repeat (first | (with_reducible exact Below.refl _ _) | (with_reducible assumption) | ((with_reducible refine Below.setCell ?_ ?_ _); rotate_left; · (first | exact Nat.le_refl _ | (simp; done) | (simp; omega) | omega)) | ((with_reducible refine Below.alloc ?_ ?_ _); rotate_left; · (first | exact Nat.le_refl _ | (simp; done) | (simp; omega) | omega)) | (with_reducible apply Below.drew) | (with_reducible apply below_drewN') | (refine Below.trans ?_ (Below.mono (by assumption) (by first | exact Nat.le_refl _ | (simp; done) | (simp; omega) | omega))) | exact Below.refl _ _ | assumption))
  case ca8R23 => (first | (simp [Act.put]; done) | (simp [Act.put, *]; done))
  try dsimp only
  refine wpW_end (by kernel_rfl) ?_
  intro we hg hS
  unfold NQ
  dsimp only
  exact H.out _ _ _ _ _ _ _ A' c' _ P As we (hA.below hg (Nat.le_refl _)) (Below.size hg) hS

set_option maxRecDepth 100000 in
set_option maxHeartbeats 8000000 in
theorem flawAnyOrder_any (l : List Sc) (A : Option Addr) (c : Nat) (level : Int) (corners : Bool) (a0 a1 : Int) (w : World) (ha : ScArg l A c w) :
    Calls Tryz.prog 3 #[.slice A l.length c, .agg #[.int .i64 level, .bool corners], .agg #[.int .i64 a0, .int .i64 a1]] w fun e w' => e = .returned (.bool true) ∧ Below w.heap.size w w' := by
  have HNIL := Lib.hid ha.nil
  have hle := ha.le
  have hmost := ha.most
  have b4 := (Blk.new w 24 #[.int .i64 level, .bool corners]).alloc (.cells #[.int .i64 a0, .int .i64 a1] 25)
  have b5 := Blk.new (w.alloc (.cells #[.int .i64 level, .bool corners] 24)) 25 #[.int .i64 a0, .int .i64 a1]
  have hBB : Below w.heap.size w ((w.alloc (.cells #[.int .i64 level, .bool corners] 24)).alloc (.cells #[.int .i64 a0, .int .i64 a1] 25)) := (by repeat (first | (with_reducible exact Below.refl _ _) | (with_reducible assumption) | ((with_reducible refine Below.setCell ?_ ?_ _); rotate_left; · (first | exact Nat.le_refl _ | (simp; done) | (simp; omega) | omega)) | ((with_reducible refine Below.alloc ?_ ?_ _); rotate_left; · (first | exact Nat.le_refl _ | (simp; done) | (simp; omega) | omega)) | (with_reducible apply Below.drew) | (with_reducible apply below_drewN') | (refine Below.trans ?_ (Below.mono (by assumption) (by first | exact Nat.le_refl _ | (simp; done) | (simp; omega) | omega))) | exact Below.refl _ _ | assumption))
  simp only [World.size_alloc] at b5
  go_enter Tryz.func3, Tryz.ntmps3
  go_wp2_with fail
  obtain ⟨W, hW⟩ : ∃ W, (w.alloc (.cells #[.int .i64 level, .bool corners] 24)).alloc (.cells #[.int .i64 a0, .int .i64 a1] 25) = W := ⟨_, rfl⟩
  rw [hW] at b4 b5 hBB ⊢
  clear hW
  refine (awake_any _).mono ?_
  rintro e w1 ⟨rfl, hB1⟩
  replace b4 := b4.gr hB1
  replace b5 := b5.gr hB1
  replace hBB := hBB.trans (hB1.mono (Below.size hBB))
  clear hB1
  have l_b4 := b4.lt
  obtain ⟨e0, e1, f4⟩ := blk2c b4
  have l_b5 := b5.lt
  obtain ⟨d0, d1, f5⟩ := blk2c b5
  go_wp2_with fail
  refine (few_wide l A c w.heap.size _ (by omega) (ha.row.below hBB (Nat.le_refl _)) (Lib.hid (fun s hs => by have := (ha.each s hs).2.2; omega)) (Below.size hBB)).mono ?_
  rintro e wc1 ⟨rfl, hBc1⟩
  replace b4 := b4.gr hBc1
  replace b5 := b5.gr hBc1
  replace hBB := hBB.trans (Below.mono hBc1 (Below.size hBB))
  clear hBc1
  clear l_b4 e0 e1 f4 l_b5 d0 d1 f5
  have l_b4 := b4.lt
  have l_b5 := b5.lt
  obtain ⟨e0, e1, f4⟩ := blk2c b4
  obtain ⟨d0, d1, f5⟩ := blk2c b5
  cases hf : fewB l
  · go_wp2
    go_ret
    exact ⟨rfl, hBB⟩
  have hl := ha.ok hf
  obtain ⟨hl8, hd36⟩ := fewB_true hf
  have HD : Hid (∀ s ∈ l, s.data.length ≤ s.dcap ∧ (s.dA = none → s.dcap = 0)) := Lib.hid (fun s hs => ⟨(ha.each s hs).2.2.1, (ha.each s hs).1⟩)
  have HDX : Hid (∀ s ∈ l, s.data.length ≤ s.dcap ∧ s.dcap ≤ 9223372036854775807 ∧ (s.dA = none → s.dcap = 0)) := Lib.hid (fun s hs => ⟨(ha.each s hs).2.2.1, (ha.each s hs).2.2.2, (ha.each s hs).1⟩)
  have HSZ : Hid (∀ s ∈ l, s.data.length ≤ 1000000000) := Lib.hid hl.size
  clear hf hd36 ha
  by_cases h0 : l.length = 0
  · have hz : ((l.length : Int) == 0) = true := beq_iff_eq.2 (by omega)
    have H0 := Lib.hid h0; clear h0
    go_wp2
    go_ret
    exact ⟨rfl, hBB⟩
  have hz : ((l.length : Int) == 0) = false := beq_eq_false_iff_ne.2 (by omega)
  by_cases h4 : 4 < l.length
  · have h4' : ((4 : Int) < (l.length : Int)) := by omega
    go_wp2
    go_ret
    exact ⟨rfl, hBB⟩
  have h4' : ¬ ((4 : Int) < (l.length : Int)) := by omega
  obtain ⟨E1, hE1⟩ : ∃ E, (scansE l).1 = E := ⟨_, rfl⟩
  obtain ⟨E2, hE2⟩ : ∃ E, (scansE l).2 = E := ⟨_, rfl⟩
  have HE1 := Lib.hid hE1; have HE2 := Lib.hid hE2
  clear hE1 hE2
  go_wp2_with fail
  refine (refCheckScans_any l A c w.heap.size _ (hl.below hBB (Nat.le_refl _)) (Below.size hBB)).mono ?_
  rw [HE1.out, HE2.out]
  rintro e wc2 ⟨rfl, hBc2⟩
  replace b4 := b4.gr hBc2
  replace b5 := b5.gr hBc2
  replace hBB := hBB.trans (Below.mono hBc2 (Below.size hBB))
  clear hBc2
  clear l_b4 e0 e1 f4 l_b5 d0 d1 f5
  have l_b4 := b4.lt
  have l_b5 := b5.lt
  obtain ⟨e0, e1, f4⟩ := blk2c b4
  obtain ⟨d0, d1, f5⟩ := blk2c b5
  by_cases h0 : E2 = 0
  case neg =>
    have h1 : (E2 != 0) = true := by simpa using h0
    go_wp2
    go_ret
    exact ⟨by first | rfl | (simp; done), hBB⟩
  subst h0
  cases hlv : wi level 0 1000000000
  case false =>
    have HLE : Hid (levelE level = 2) := Lib.hid (by unfold levelE unlessE; rw [hlv]; rfl)
    clear hlv
    go_wp2_with fail
    refine (refAskErr_any level corners _).mono ?_
    rw [HLE.out]
    rintro e wc3 ⟨rfl, hBc3⟩
    replace b4 := b4.gr hBc3
    replace b5 := b5.gr hBc3
    replace hBB := hBB.trans (Below.mono hBc3 (Below.size hBB))
    clear hBc3
    clear l_b4 e0 e1 f4 l_b5 d0 d1 f5
    have l_b4 := b4.lt
    have l_b5 := b5.lt
    obtain ⟨e0, e1, f4⟩ := blk2c b4
    obtain ⟨d0, d1, f5⟩ := blk2c b5
    go_wp2
    go_ret
    exact ⟨by first | rfl | (simp; done), hBB⟩
  case true =>
    have HLE : Hid (levelE level = 0) := Lib.hid (levelE_zero hlv)
    have HLV := Lib.hid hlv
    clear hlv
    go_wp2_with fail
    refine (refAskErr_any level corners _).mono ?_
    rw [HLE.out]
    rintro e wc4 ⟨rfl, hBc4⟩
    replace b4 := b4.gr hBc4
    replace b5 := b5.gr hBc4
    replace hBB := hBB.trans (Below.mono hBc4 (Below.size hBB))
    clear hBc4
    clear l_b4 e0 e1 f4 l_b5 d0 d1 f5
    have l_b4 := b4.lt
    have l_b5 := b5.lt
    obtain ⟨e0, e1, f4⟩ := blk2c b4
    obtain ⟨d0, d1, f5⟩ := blk2c b5
    have HG := Lib.hid (scansE_zero HE2.out).2
    go_upto_region 8 with fail
    have HL : Hid (∀ w', Below wc4.heap.size wc4 w' → ScOk l A w.heap.size w') := Lib.hid (fun w' h => hl.below (hBB.trans (h.mono (Below.size hBB))) (Nat.le_refl _))
    refine aoAreas8 l A c w.heap.size level corners HL (Below.size hBB) hle (by omega) HNIL HD HSZ HG b4 HLV _ ?_
    intro t48 t49 t50 t51 t52 t53 t54 A1 c1 B1 P1 As w8 hAs hB1 hB8
    try dsimp only
    clear l_b4 e0 e1 f4 l_b5 d0 d1 f5
    replace b4 := b4.gr hB8
    replace b5 := b5.gr hB8
    replace hBB := hBB.trans (hB8.mono (Below.size hBB))
    clear hB8 HL
    have l_b4 := b4.lt
    have l_b5 := b5.lt
    obtain ⟨e0, e1, f4⟩ := blk2c b4
    obtain ⟨d0, d1, f5⟩ := blk2c b5
    obtain ⟨k, hk, hkl⟩ : ∃ n : Nat, a0 % (l.length : Int) = (n : Int) ∧ n < l.length := ⟨(a0 % (l.length : Int)).toNat, by
      have := Int.emod_nonneg a0 (show (l.length : Int) ≠ 0 by omega)
      omega, by
      have h1 := Int.emod_nonneg a0 (show (l.length : Int) ≠ 0 by omega)
      have h2 := Int.emod_lt_of_pos a0 (show 0 < (l.length : Int) by omega)
      omega⟩
    have HK := Lib.hid hk; clear hk
    have hgl : (1 : Int) ≤ (l.length : Int) ∧ (l.length : Int) ≤ 4000000000000000000 := by omega
    have hwz := Below.size hBB
    have hM : AvM w8 [] [] (.slice none 0 0) (.slice none 0 0) w8 := ⟨World.ownsRow_nil _ _ _ _, World.ownsRow_nil _ _ _ _, .inl rfl, by simp, Below.refl _ _⟩
    have HW8 := Lib.hid (hl.below hBB (Nat.le_refl _))
    go_wp2_with (go_at_call 24; refine (mod_any a0 (l.length : Int) hgl _).mono ?_; rw [HK.out]; rintro e w1 ⟨rfl, rfl⟩)
    have hloop := aoLoop l A c w.heap.size a0 a1 (V := w8) (wr0 := w8) HW8.out hwz (by omega) HG HDX b5 hkl
    unfold bodyOf at hloop
    conv at hloop in (Option.getD _ Code.skip) => whnf
    refine hloop hM _ ?_ ?_
    case refine_2 =>
      intro t11 t12 t14 t15 t16 t60 t61 t62 t63 t64 t65 t66 t67 t68 t69 t70 t71 t72 t73 t74 t75 t76 t77 t78 t79 t80 t81 t82 t83 t84 t85 t86 t87 t88 t89 t90 t91 t92 t93 t94 t95 t96 t97 t98 t99 t100 t101 t102 t103 t104 t105 t106 t107 t108 t109 t110 t111 t112 t113 t114 t115 t116 t117 t118 t119 t120 t121 t122 t123 t124 t125 t126 t127 t128 t129 t130 t131 t132 t133 t134 t135 t136 t137 t138 t139 t140 t141 t142 t143 t144 t145 t146 t147 t148 t149 t150 t151 t152 t153 w9 hx
      go_ret
      exact ⟨by first | rfl | (simp; done), hBB.trans (hx.mono hwz)⟩
    clear hloop hM
    intro t6 t14 t15 t16 t60 t61 t62 t63 t64 t65 t66 t67 t68 t69 t70 t71 t72 t73 t74 t75 t76 t77 t78 t79 t80 t81 t82 t83 t84 t85 t86 t87 t88 t89 t90 t91 t92 t93 t94 t95 t96 t97 t98 t99 t100 t101 t102 t103 t104 t105 t106 t107 t108 t109 t110 t111 t112 t113 t114 t115 t116 t117 t118 t119 t120 t121 t122 t123 t124 t125 t126 t127 t128 t129 t130 t131 t132 t133 t134 t135 t136 t137 t138 t139 t140 t141 t142 t143 t144 t145 t146 t147 t148 t149 t150 t151 t152 t153 bk ct v11 v12 w9 HI M
    have HIV := Lib.hid HI
    clear HI
    obtain ⟨hbk, hct⟩ := HIV.out.lens
    obtain ⟨i0, hi, iz0, iz1, iz2⟩ := info_parts infoScan
    have hx := M.below
    have hzx := Below.size hx
    have hks : l[k]? = some l[k] := List.getElem?_eq_getElem hkl
    obtain ⟨g, o, hA, hgB, x0, x1, x2, x3, x4⟩ := scCells (HW8.out.below hx hwz).row hkl
    have HKS := Lib.hid hks
    clear hks
    generalize l[k] = s at *
    subst hA
    have i1 : ((k : Int) < (l.length : Int)) := by omega
    have lg : g < w9.heap.size := by omega
    go_upto_region 24 with (at_builtin; refine wpList_append_own_at _ rfl _ _ 22 rfl w8.heap.size 39 i0 (.agg #[.int .i64 0, .int .i64 0, .int .i64 0, .int .i64 0, .slice none 0 0]) 5 56 Tryz.underlying22 hi iz0 iz1 iz2 rfl (by decide) v11 bk.length (scsC bk) rfl (M.own11.alloc _) ⟨w9.heap.size, 0, none⟩ 1 1 (scC s) rfl rfl (cell_arr_new w9 #[.int .i64 s.row, .int .i64 s.col, .int .i64 s.rows, .int .i64 s.cols, .slice s.dA s.data.length s.dcap] 39) (by simp [Value.oneCell']) (by unfold maxLen; omega) (by omega) (by simp; omega) ?_; intro u W5 hown' hgrow _ hat)
    have M5 := (M.gr ((Below.refl _ _).alloc (Nat.le_refl _) _)).back hown' hgrow hat
    clear M hown' hgrow hat x0 x1 x2 x3 x4 hx hzx lg
    have hx := M5.below
    have hzx := Below.size hx
    have hmem : ∀ t, t ∈ bk ++ [s] ↔ t ∈ l := fun t => by rw [HIV.out.back]; exact back_mem HKS.out t
    have HMEM := Lib.hid hmem
    have hat1 : atV (bk ++ [s]) = atV l := atV_mem hmem
    have HA1 := Lib.hid hat1
    have hcut : ∀ u, l[k]? = some u → u.rows ≠ 1 → 1 ≤ nCut l k a1 ∧ nCut l k a1 < u.rows ∧ u.row + nCut l k a1 ≤ 100000 := fun u hu hr => by
      have h1 := HIV.out.most hkl u hu hr
      have hg := (HG.out u (List.mem_of_getElem? hu)).rows
      have hn : nCut l k a1 = 1 + a1 % (u.rows - 1) := by unfold nCut; rw [hu]
      have h2 := Int.emod_nonneg a1 (show u.rows - 1 ≠ 0 by omega)
      have h3 := Int.emod_lt_of_pos a1 (show 0 < u.rows - 1 by omega)
      rw [hn] at h1 ⊢
      omega
    have HCG : Hid (∀ u ∈ ct, ScGood u) := Lib.hid (core_good HIV.out.cut (cut_good HG.out hcut))
    have HA2 : Hid (atV ct = atV l) := Lib.hid ((atV_core HIV.out.cut).trans (cut_atV HG.out hcut))
    clear hmem hat1 hcut
    obtain ⟨A12, c12, rfl, hok12, hle12, hn12, hea12⟩ := M5.ok (fun u hu => by have := (HCG.out u hu).short; omega) (by omega)
    obtain ⟨A11, c11, rfl, hR11, hle11, hn11⟩ := own_row2 M5.own11
    have hbl : (bk ++ [s]).length ≤ 6 := by simp; omega
    have hok11 : ScOk (bk ++ [s]) A11 W5.heap.size W5 := ⟨by omega, hR11, fun u hu => HSZ.out u ((HMEM.out u).1 hu), fun u hu => (HW8.out.below hx hwz).data u ((HMEM.out u).1 hu) |>.more (by omega)⟩
    have HC12 : Hid (∀ u ∈ ct, u.data.length ≤ u.dcap ∧ (u.dA = none → u.dcap = 0)) := Lib.hid (fun u hu => (hea12 u hu).caps)
    have HC11 : Hid (∀ u ∈ bk ++ [s], u.data.length ≤ u.dcap ∧ (u.dA = none → u.dcap = 0)) := Lib.hid (fun u hu => HD.out u ((HMEM.out u).1 hu))
    have HN11 := Lib.hid hn11; have HN12 := Lib.hid hn12
    have HOK11 := Lib.hid hok11; have HOK12 := Lib.hid hok12
    have b45 := b4.gr hx
    clear hea12 M5 hR11 hn11 hn12 hok11 hok12
    refine aoAreas24 (bk ++ [s]) A11 c11 W5.heap.size level corners (Lib.hid (fun w' h => HOK11.out.below h (Nat.le_refl _))) (Nat.le_refl _) hle11 hbl HN11 HC11 (Lib.hid (fun u hu => HSZ.out u ((HMEM.out u).1 hu))) (Lib.hid (fun u hu => HG.out u ((HMEM.out u).1 hu))) b45 HLV _ ?_
    intro t161 t162 t163 t164 t165 t166 t167 A2 c2 B2 P2 As2 w24 hAs2 hB2 hB24
    try dsimp only
    rw [HA1.out] at hAs2
    have b46 := b45.gr hB24
    have hz24 := Below.size hB24
    go_upto_region 25 with fail
    refine aoAreas25 ct A12 c12 W5.heap.size level corners (Lib.hid (fun w' h => HOK12.out.below (hB24.trans (h.mono hz24)) (Nat.le_refl _))) hz24 hle12 (by omega) HN12 HC12 (Lib.hid (fun u hu => by have := (HCG.out u hu).short; omega)) HCG b46 HLV _ ?_
    intro t168 t169 t170 t171 t172 t173 t174 A3 c3 B3 P3 As3 w25 hAs3 hB3 hB25
    try dsimp only
    rw [HA2.out] at hAs3
    have hz25 := Below.size hB25
    have hE2 := Lib.hid (hAs.same hAs2)
    have hE3 := Lib.hid (hAs.same hAs3)
    have hBx := hx.trans ((hB24.trans (hB25.mono hz24)).mono hzx)
    have o1 := (hAs.ok.below hBx hB1).more (show B1 ≤ w25.heap.size by omega)
    have o2 := (hAs2.ok.below hB25 hB2).more (show B2 ≤ w25.heap.size by omega)
    have o3 := hAs3.ok.more hB3
    have HO1 := Lib.hid o1; have HO3 := Lib.hid o3
    clear hAs hAs2 hAs3 o3 hB24 hB25 b45 b46
    go_wp2_with fail
    refine (sameAreas_eq (atV l) As As2 A1 A2 c1 c2 w25.heap.size w25 o1 o2 hE2.out (Nat.le_refl _)).mono ?_
    rintro e w26 ⟨rfl, hB26⟩
    have hz26 := Below.size hB26
    clear o1 o2
    go_wp2_with fail
    refine (sameAreas_eq (atV l) As As3 A1 A3 c1 c3 w25.heap.size w26 (HO1.out.below hB26 (Nat.le_refl _)) (HO3.out.below hB26 (Nat.le_refl _)) hE3.out hz26).mono ?_
    rintro e w27 ⟨rfl, hB27⟩
    have hfin := hBB.trans ((hBx.trans ((hB26.trans (hB27.mono hz26)).mono (by omega))).mono hwz)
    clear hB26 hB27
    go_wp2
    go_ret
    exact ⟨by first | rfl | (simp; done), hfin⟩
end Go.Proofs.YtidgeagpgllkeaaGreat
