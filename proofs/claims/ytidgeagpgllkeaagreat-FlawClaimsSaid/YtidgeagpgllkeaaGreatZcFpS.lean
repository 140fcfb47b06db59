/- A region of the law FlawClaims: the lists and pairs are copied and checked. -/
import Derived.Test.YtidgeagpgllkeaaGreatZcFpR
namespace Go.Proofs.YtidgeagpgllkeaaGreat
open Go.RowKit

theorem own_mk {w : World} {base : Nat} {D : Option Addr} {d : Nat} {l : List Mk} (h : w.ownsRow base 79 6 (.slice D l.length d) l.length (mksC l)) (hl : l.length ≤ 1000000000) (hs : ∀ m ∈ l, m.nm.size ≤ 1000000000000) : MkOk l D w.heap.size w := by
  obtain ⟨A, c, e, m, _⟩ := copied h hl hs
  have e1 := Value.slice.inj e
  rw [e1.1]; exact m
theorem wp_append_own_none' {P : Program} (w : World) {o : Oper} {a : Act} {K : Act → World → Prop} {Q : Exit → Act → World → Prop} (s x : Operand) (t : TypeId)
    (ho : o.op = .call { callee := .builtin .append, args := #[s, x], argTypes := #[t, t] })
    (base : Nat) (e : TypeId) (i : TypeInfo) (size : Nat) (ht : P.underlying t = some (.slice e)) (hi : P.info? e = some i)
    (v : Value) (n : Nat) (xs : List Value) (hs : a.eval s = v) (hown : w.ownsRow base e size v n xs) (hx : a.eval x = .slice none 0 0)
    (h : K (a.put o.dst v) w) : o.wp P a w K Q := by
  have hrun := run_append_owned_none (P := P) (w := w) base t o.type e i size ht hi v n xs hown
  unfold Oper.wp
  simp [execOp, ho, resolve, invoke, builtin, hs, hx, hrun, Result.andThen]
  exact h
theorem wp_append_row (w : World) {o : Oper} {a : Act} {K : Act → World → Prop} {Q : Exit → Act → World → Prop} (s x : Operand)
    (ho : o.op = .call { callee := .builtin .append, args := #[s, x], argTypes := #[87, 87] })
    (base : Nat) (v : Value) (P : List (Int × Int)) (A2 : Option Addr) (c2 B : Nat) (hs : a.eval s = v) (hown : w.ownsRow base 25 2 v 0 []) (hx : a.eval x = .slice A2 P.length c2) (hR : Row w B 2 A2 P.length (cellsC P)) (hN : A2 = none → c2 = 0) (hP : P.length ≤ 1000) (hbase : base ≤ w.heap.size)
    (h : ∀ v' w', w'.ownsRow base 25 2 v' P.length (cellsC P) → w.grownBy w' v.ownBlock → K (a.put o.dst v') w') : o.wp Tryz.prog a w K Q := by
  obtain ⟨i0, hi, hz0, hz1, hz2⟩ := info_parts infoCell
  cases A2 with
  | none =>
    have h0 : P.length = 0 := by
      rcases Nat.eq_zero_or_pos P.length with h | h
      · exact h
      · obtain ⟨_, _, h, _⟩ := hR.2 h; cases h
    have hnil : P = [] := List.eq_nil_of_length_eq_zero h0
    subst hnil
    rw [hN rfl] at hx
    exact wp_append_own_none' w s x _ ho base 25 i0 2 Tryz.underlying87 hi v 0 [] hs hown hx (h v w hown ⟨rfl, rfl, rfl, Nat.le_refl _, fun _ _ _ => rfl⟩)
  | some ad =>
    refine wp_append_at w s x _ ho base 25 i0 (.agg #[.int .i64 0, .int .i64 0]) 2 16 Tryz.underlying87 hi hz0 hz1 hz2 rfl (by decide) v 0 [] hs hown ad P.length c2 (cellsC P) hx (cellsC_len P) (row_cells hR) (fun u hu => ?_) (by unfold maxLen; omega) (by omega) hbase (fun v' w' h1 h2 _ => h v' w' (by simpa using h1) h2)
    simp only [cellsC, List.mem_flatMap] at hu
    obtain ⟨m, _, hm⟩ := hu
    simp [encC] at hm
    rcases hm with rfl | rfl <;> rfl

set_option maxRecDepth 100000 in
set_option maxHeartbeats 8000000 in
theorem clReg5 (l0 l1 : List Mk) (A0 A1 A2 AF AS : Option Addr) (c0 c1 c2 cF cS B : Nat) (slack : Int) (P : List (Int × Int)) (Fl Sl : List Int) {W : World} {z3 z5 : Nat}
    (HL0 : Hid (∀ w', Gr W w' → MkOk l0 A0 B w')) (HL1 : Hid (∀ w', Gr W w' → MkOk l1 A1 B w')) (HP : Hid (∀ w', Gr W w' → Row w' B 2 A2 P.length (cellsC P))) (HF : Hid (∀ w', Gr W w' → Row w' B 1 AF Fl.length (intsC Fl))) (HS : Hid (∀ w', Gr W w' → Row w' B 1 AS Sl.length (intsC Sl))) (hB : B ≤ W.heap.size) (hc0 : l0.length ≤ c0) (hc1 : l1.length ≤ c1) (hc2 : P.length ≤ c2) (hcF : Fl.length ≤ cF) (hcS : Sl.length ≤ cS) (HN0 : Hid (A0 = none → c0 = 0)) (HN1 : Hid (A1 = none → c1 = 0)) (HN2 : Hid (A2 = none → c2 = 0)) (HNF : Hid (AF = none → cF = 0)) (HNS : Hid (AS = none → cS = 0)) (hn0 : l0.length ≤ 1000) (hn1 : l1.length ≤ 1000) (hnP : P.length ≤ 1000) (hnF : Fl.length ≤ 1000) (hnS : Sl.length ≤ 1000)
    (b3 : Blk W z3 124 #[.slice A0 l0.length c0, .slice A1 l1.length c1]) (b5 : Blk W z5 128 #[.slice A2 P.length c2, .slice AF Fl.length cF, .slice AS Sl.length cS]) {t0 t2 t4 t6 t7 t8 t9 t10 t11 t12 t13 t14 t15 t16 t17 t18 t19 t20 t21 t22 t23 t24 t25 t26 t27 t28 t29 t30 t31 t32 t33 t34 t35 t36 t37 t38 t39 t40 t41 t42 t43 t44 t45 t46 t47 t48 t49 t50 t51 t52 t53 t54 t55 t56 t57 t58 t59 t60 t61 t62 t63 t64 t65 t66 t67 t68 t69 t70 t71 t72 t73 t74 t75 t76 t77 t78 t79 t80 t81 t82 t83 t84 t85 t86 t87 t88 t89 t90 t91 t92 t93 t94 t95 t96 t97 t98 t99 t100 t101 t102 t103 t104 t105 t106 t107 t108 t109 t110 t111 t112 t113 t114 t115 t116 t117 t118 t119 t120 t121 t122 t123 t124 t125 t126 t127 t128 t129 t130 t131 t132 t133 t134 t135 t136 t137 t138 t139 t140 t141 t142 t143 t144 t145 t146 t147 t148 t149 t150 t151 t152 t153 t154 t155 t156 t157 t158 t159 t160 t161 : Value} {ds : List Deferred} (Q : Exit → Act → World → Prop)
    (h : ∀ (t48 t49 t50 t51 t52 t53 t54 t55 t56 t57 t58 t59 t60 t61 t62 t63 : Value) (w' : World), Gr W w' → Q .normal ⟨#[t0, .int .i64 slack, t2, .pointer (some ⟨z3, 0, none⟩), t4, .pointer (some ⟨z5, 0, none⟩), t6, .int .i64 (cpN l0 l1 slack P), .int .i64 (cpE l0 l1 slack P), t9, t10, t11, t12, t13, t14, t15, t16, t17, t18, t19, t20, t21, t22, t23, t24, t25, t26, t27, t28, t29, t30, t31, t32, t33, t34, t35, t36, t37, t38, t39, t40, t41, t42, t43, t44, t45, t46, t47, t48, t49, t50, t51, t52, t53, t54, t55, t56, t57, t58, t59, t60, t61, t62, t63, t64, t65, t66, t67, t68, t69, t70, t71, t72, t73, t74, t75, t76, t77, t78, t79, t80, t81, t82, t83, t84, t85, t86, t87, t88, t89, t90, t91, t92, t93, t94, t95, t96, t97, t98, t99, t100, t101, t102, t103, t104, t105, t106, t107, t108, t109, t110, t111, t112, t113, t114, t115, t116, t117, t118, t119, t120, t121, t122, t123, t124, t125, t126, t127, t128, t129, t130, t131, t132, t133, t134, t135, t136, t137, t138, t139, t140, t141, t142, t143, t144, t145, t146, t147, t148, t149, t150, t151, t152, t153, t154, t155, t156, t157, t158, t159, t160, t161], ds⟩ w') :
    (regOf Tryz.f16 5).wp Tryz.prog Q ⟨#[t0, .int .i64 slack, t2, .pointer (some ⟨z3, 0, none⟩), t4, .pointer (some ⟨z5, 0, none⟩), t6, t7, t8, t9, t10, t11, t12, t13, t14, t15, t16, t17, t18, t19, t20, t21, t22, t23, t24, t25, t26, t27, t28, t29, t30, t31, t32, t33, t34, t35, t36, t37, t38, t39, t40, t41, t42, t43, t44, t45, t46, t47, t48, t49, t50, t51, t52, t53, t54, t55, t56, t57, t58, t59, t60, t61, t62, t63, t64, t65, t66, t67, t68, t69, t70, t71, t72, t73, t74, t75, t76, t77, t78, t79, t80, t81, t82, t83, t84, t85, t86, t87, t88, t89, t90, t91, t92, t93, t94, t95, t96, t97, t98, t99, t100, t101, t102, t103, t104, t105, t106, t107, t108, t109, t110, t111, t112, t113, t114, t115, t116, t117, t118, t119, t120, t121, t122, t123, t124, t125, t126, t127, t128, t129, t130, t131, t132, t133, t134, t135, t136, t137, t138, t139, t140, t141, t142, t143, t144, t145, t146, t147, t148, t149, t150, t151, t152, t153, t154, t155, t156, t157, t158, t159, t160, t161], ds⟩ W := by
  have H := Lib.hid h; clear h
  obtain ⟨i0, hi, hz0, hz1, hz2⟩ := info_parts infoCell
  obtain ⟨e0, e1, _⟩ := blk2c b3
  obtain ⟨g0, g1, g2, _⟩ := blk3c b5
  have l3 := b3.lt
  have l5 := b5.lt
  conv in (regOf _ _) => whnf
  refine wp_region_w (Gr _) (by kernel_rfl) (Below.refl _ _).drew ?_
  refine wpW_det (t' := ?ct0R6) 0 (by rfl) (by kernel_rfl) (NQ_free _) (by kernel_rfl) ?cw0R6 ?ch0R6 ?ca0R6 (Eq.refl _) ?cH0R6
  case cw0R6 => (go_simp; done)
  case ch0R6 =>
    intro ds w' hS K hK
    have hc := (bcell hS).1
    have hf := (bcell hS).2
    have hz := hS.size
    try simp at hz
    go_simp
    try go_bits
    first
      | exact hK _ hS (Gr.refl _)
      | exact hK _ (by repeat (first | (with_reducible exact Below.refl _ _) | (with_reducible assumption) | ((with_reducible refine Below.setCell ?_ ?_ _); rotate_left; · (first | exact Nat.le_refl _ | (simp; done) | (simp; omega) | omega)) | ((with_reducible refine Below.alloc ?_ ?_ _); rotate_left; · (first | exact Nat.le_refl _ | (simp; done) | (simp; omega) | omega)) | (with_reducible apply Below.drew) | (with_reducible apply below_drewN') | (refine Below.trans ?_ (Below.mono (by assumption) (by first | exact Nat.le_refl _ | (simp; done) | (simp; omega) | omega))) | exact Below.refl _ _ | assumption)) (by repeat (first | (with_reducible exact Below.refl _ _) | (with_reducible assumption) | ((with_reducible refine Below.setCell ?_ ?_ _); rotate_left; · (first | exact Nat.le_refl _ | (simp; done) | (simp; omega) | omega)) | ((with_reducible refine Below.alloc ?_ ?_ _); rotate_left; · (first | exact Nat.le_refl _ | (simp; done) | (simp; omega) | omega)) | (with_reducible apply Below.drew) | (with_reducible apply below_drewN') | (refine Below.trans ?_ (Below.mono (by assumption) (by first | exact Nat.le_refl _ | (simp; done) | (simp; omega) | omega))) | exact Below.refl _ _ | assumption))
  case ca0R6 => (first | (simp [Act.put]; done) | (simp [Act.put, *]; done))
  try dsimp only
  refine wpW_det (t' := ?ct1R6) 1 (by rfl) (by kernel_rfl) (NQ_free _) (by kernel_rfl) ?cw1R6 ?ch1R6 ?ca1R6 (Eq.refl _) ?cH1R6
  case cw1R6 => (go_simp; done)
  case ch1R6 =>
    intro ds w' hS K hK
    have hc := (bcell hS).1
    have hf := (bcell hS).2
    have hz := hS.size
    try simp at hz
    go_simp
    try go_bits
    first
      | exact hK _ hS (Gr.refl _)
      | exact hK _ (by repeat (first | (with_reducible exact Below.refl _ _) | (with_reducible assumption) | ((with_reducible refine Below.setCell ?_ ?_ _); rotate_left; · (first | exact Nat.le_refl _ | (simp; done) | (simp; omega) | omega)) | ((with_reducible refine Below.alloc ?_ ?_ _); rotate_left; · (first | exact Nat.le_refl _ | (simp; done) | (simp; omega) | omega)) | (with_reducible apply Below.drew) | (with_reducible apply below_drewN') | (refine Below.trans ?_ (Below.mono (by assumption) (by first | exact Nat.le_refl _ | (simp; done) | (simp; omega) | omega))) | exact Below.refl _ _ | assumption)) (by repeat (first | (with_reducible exact Below.refl _ _) | (with_reducible assumption) | ((with_reducible refine Below.setCell ?_ ?_ _); rotate_left; · (first | exact Nat.le_refl _ | (simp; done) | (simp; omega) | omega)) | ((with_reducible refine Below.alloc ?_ ?_ _); rotate_left; · (first | exact Nat.le_refl _ | (simp; done) | (simp; omega) | omega)) | (with_reducible apply Below.drew) | (with_reducible apply below_drewN') | (refine Below.trans ?_ (Below.mono (by assumption) (by first | exact Nat.le_refl _ | (simp; done) | (simp; omega) | omega))) | exact Below.refl _ _ | assumption))
  case ca1R6 => (first | (simp [Act.put]; done) | (simp [Act.put, *]; done))
  try dsimp only
  refine wpW_det (t' := ?ct3R6) 3 (by rfl) (by kernel_rfl) (NQ_free _) (by kernel_rfl) ?cw3R6 ?ch3R6 ?ca3R6 (Eq.refl _) ?cH3R6
  case cw3R6 => (go_simp; done)
  case ch3R6 =>
    intro ds w' hS K hK
    have hc := (bcell hS).1
    have hf := (bcell hS).2
    have hz := hS.size
    try simp at hz
    go_simp
    try go_bits
    first
      | exact hK _ hS (Gr.refl _)
      | exact hK _ (by repeat (first | (with_reducible exact Below.refl _ _) | (with_reducible assumption) | ((with_reducible refine Below.setCell ?_ ?_ _); rotate_left; · (first | exact Nat.le_refl _ | (simp; done) | (simp; omega) | omega)) | ((with_reducible refine Below.alloc ?_ ?_ _); rotate_left; · (first | exact Nat.le_refl _ | (simp; done) | (simp; omega) | omega)) | (with_reducible apply Below.drew) | (with_reducible apply below_drewN') | (refine Below.trans ?_ (Below.mono (by assumption) (by first | exact Nat.le_refl _ | (simp; done) | (simp; omega) | omega))) | exact Below.refl _ _ | assumption)) (by repeat (first | (with_reducible exact Below.refl _ _) | (with_reducible assumption) | ((with_reducible refine Below.setCell ?_ ?_ _); rotate_left; · (first | exact Nat.le_refl _ | (simp; done) | (simp; omega) | omega)) | ((with_reducible refine Below.alloc ?_ ?_ _); rotate_left; · (first | exact Nat.le_refl _ | (simp; done) | (simp; omega) | omega)) | (with_reducible apply Below.drew) | (with_reducible apply below_drewN') | (refine Below.trans ?_ (Below.mono (by assumption) (by first | exact Nat.le_refl _ | (simp; done) | (simp; omega) | omega))) | exact Below.refl _ _ | assumption))
  case ca3R6 => (first | (simp [Act.put]; done) | (simp [Act.put, *]; done))
  try dsimp only
  refine wpW_det (t' := ?ct4R6) 4 (by rfl) (by kernel_rfl) (NQ_free _) (by kernel_rfl) ?cw4R6 ?ch4R6 ?ca4R6 (Eq.refl _) ?cH4R6
  case cw4R6 => (go_simp; done)
  case ch4R6 =>
    intro ds w' hS K hK
    have hc := (bcell hS).1
    have hf := (bcell hS).2
    have hz := hS.size
    try simp at hz
    go_simp
    try go_bits
    first
      | exact hK _ hS (Gr.refl _)
      | exact hK _ (by repeat (first | (with_reducible exact Below.refl _ _) | (with_reducible assumption) | ((with_reducible refine Below.setCell ?_ ?_ _); rotate_left; · (first | exact Nat.le_refl _ | (simp; done) | (simp; omega) | omega)) | ((with_reducible refine Below.alloc ?_ ?_ _); rotate_left; · (first | exact Nat.le_refl _ | (simp; done) | (simp; omega) | omega)) | (with_reducible apply Below.drew) | (with_reducible apply below_drewN') | (refine Below.trans ?_ (Below.mono (by assumption) (by first | exact Nat.le_refl _ | (simp; done) | (simp; omega) | omega))) | exact Below.refl _ _ | assumption)) (by repeat (first | (with_reducible exact Below.refl _ _) | (with_reducible assumption) | ((with_reducible refine Below.setCell ?_ ?_ _); rotate_left; · (first | exact Nat.le_refl _ | (simp; done) | (simp; omega) | omega)) | ((with_reducible refine Below.alloc ?_ ?_ _); rotate_left; · (first | exact Nat.le_refl _ | (simp; done) | (simp; omega) | omega)) | (with_reducible apply Below.drew) | (with_reducible apply below_drewN') | (refine Below.trans ?_ (Below.mono (by assumption) (by first | exact Nat.le_refl _ | (simp; done) | (simp; omega) | omega))) | exact Below.refl _ _ | assumption))
  case ca4R6 => (first | (simp [Act.put]; done) | (simp [Act.put, *]; done))
  try dsimp only
  refine wpW_det (t' := ?ct7R6) 7 (by rfl) (by kernel_rfl) (NQ_free _) (by kernel_rfl) ?cw7R6 ?ch7R6 ?ca7R6 (Eq.refl _) ?cH7R6
  case cw7R6 => (go_simp; done)
  case ch7R6 =>
    intro ds w' hS K hK
    have hc := (bcell hS).1
    have hf := (bcell hS).2
    have hz := hS.size
    try simp at hz
    go_simp
    try go_bits
    first
      | exact hK _ hS (Gr.refl _)
      | exact hK _ (by repeat (first | (with_reducible exact Below.refl _ _) | (with_reducible assumption) | ((with_reducible refine Below.setCell ?_ ?_ _); rotate_left; · (first | exact Nat.le_refl _ | (simp; done) | (simp; omega) | omega)) | ((with_reducible refine Below.alloc ?_ ?_ _); rotate_left; · (first | exact Nat.le_refl _ | (simp; done) | (simp; omega) | omega)) | (with_reducible apply Below.drew) | (with_reducible apply below_drewN') | (refine Below.trans ?_ (Below.mono (by assumption) (by first | exact Nat.le_refl _ | (simp; done) | (simp; omega) | omega))) | exact Below.refl _ _ | assumption)) (by repeat (first | (with_reducible exact Below.refl _ _) | (with_reducible assumption) | ((with_reducible refine Below.setCell ?_ ?_ _); rotate_left; · (first | exact Nat.le_refl _ | (simp; done) | (simp; omega) | omega)) | ((with_reducible refine Below.alloc ?_ ?_ _); rotate_left; · (first | exact Nat.le_refl _ | (simp; done) | (simp; omega) | omega)) | (with_reducible apply Below.drew) | (with_reducible apply below_drewN') | (refine Below.trans ?_ (Below.mono (by assumption) (by first | exact Nat.le_refl _ | (simp; done) | (simp; omega) | omega))) | exact Below.refl _ _ | assumption))
  case ca7R6 => (first | (simp [Act.put]; done) | (simp [Act.put, *]; done))
  try dsimp only
  refine wpW_det (t' := ?ct9R6) 9 (by rfl) (by kernel_rfl) (NQ_free _) (by kernel_rfl) ?cw9R6 ?ch9R6 ?ca9R6 (Eq.refl _) ?cH9R6
  case cw9R6 => (go_simp; done)
  case ch9R6 =>
    intro ds w' hS K hK
    have hc := (bcell hS).1
    have hf := (bcell hS).2
    have hz := hS.size
    try simp at hz
    go_simp
    try go_bits
    first
      | exact hK _ hS (Gr.refl _)
      | exact hK _ (by repeat (first | (with_reducible exact Below.refl _ _) | (with_reducible assumption) | ((with_reducible refine Below.setCell ?_ ?_ _); rotate_left; · (first | exact Nat.le_refl _ | (simp; done) | (simp; omega) | omega)) | ((with_reducible refine Below.alloc ?_ ?_ _); rotate_left; · (first | exact Nat.le_refl _ | (simp; done) | (simp; omega) | omega)) | (with_reducible apply Below.drew) | (with_reducible apply below_drewN') | (refine Below.trans ?_ (Below.mono (by assumption) (by first | exact Nat.le_refl _ | (simp; done) | (simp; omega) | omega))) | exact Below.refl _ _ | assumption)) (by repeat (first | (with_reducible exact Below.refl _ _) | (with_reducible assumption) | ((with_reducible refine Below.setCell ?_ ?_ _); rotate_left; · (first | exact Nat.le_refl _ | (simp; done) | (simp; omega) | omega)) | ((with_reducible refine Below.alloc ?_ ?_ _); rotate_left; · (first | exact Nat.le_refl _ | (simp; done) | (simp; omega) | omega)) | (with_reducible apply Below.drew) | (with_reducible apply below_drewN') | (refine Below.trans ?_ (Below.mono (by assumption) (by first | exact Nat.le_refl _ | (simp; done) | (simp; omega) | omega))) | exact Below.refl _ _ | assumption))
  case ca9R6 => (first | (simp [Act.put]; done) | (simp [Act.put, *]; done))
  try dsimp only
  refine wpW_det (t' := ?ct10R6) 10 (by rfl) (by kernel_rfl) (NQ_free _) (by kernel_rfl) ?cw10R6 ?ch10R6 ?ca10R6 (Eq.refl _) ?cH10R6
  case cw10R6 => (go_simp; done)
  case ch10R6 =>
    intro ds w' hS K hK
    have hc := (bcell hS).1
    have hf := (bcell hS).2
    have hz := hS.size
    try simp at hz
    go_simp
    try go_bits
    first
      | exact hK _ hS (Gr.refl _)
      | exact hK _ (by repeat (first | (with_reducible exact Below.refl _ _) | (with_reducible assumption) | ((with_reducible refine Below.setCell ?_ ?_ _); rotate_left; · (first | exact Nat.le_refl _ | (simp; done) | (simp; omega) | omega)) | ((with_reducible refine Below.alloc ?_ ?_ _); rotate_left; · (first | exact Nat.le_refl _ | (simp; done) | (simp; omega) | omega)) | (with_reducible apply Below.drew) | (with_reducible apply below_drewN') | (refine Below.trans ?_ (Below.mono (by assumption) (by first | exact Nat.le_refl _ | (simp; done) | (simp; omega) | omega))) | exact Below.refl _ _ | assumption)) (by repeat (first | (with_reducible exact Below.refl _ _) | (with_reducible assumption) | ((with_reducible refine Below.setCell ?_ ?_ _); rotate_left; · (first | exact Nat.le_refl _ | (simp; done) | (simp; omega) | omega)) | ((with_reducible refine Below.alloc ?_ ?_ _); rotate_left; · (first | exact Nat.le_refl _ | (simp; done) | (simp; omega) | omega)) | (with_reducible apply Below.drew) | (with_reducible apply below_drewN') | (refine Below.trans ?_ (Below.mono (by assumption) (by first | exact Nat.le_refl _ | (simp; done) | (simp; omega) | omega))) | exact Below.refl _ _ | assumption))
  case ca10R6 => (first | (simp [Act.put]; done) | (simp [Act.put, *]; done))
  try dsimp only
  clear e0 e1 g0 g1 g2 l3 l5 b3 b5
  refine wpW_branch [2, 8] (by kernel_rfl) (by simp) ?_
  intro w1 hg1 hS1
  try have o0 := own_below o0 hg1
  try have o1 := own_below o1 hg1
  try have own8 := own_below own8 hg1
  try have rP := own_below rP hg1
  refine each_cons ?_ (each_cons ?_ (each_nil))
  · refine wpOp_go (by rfl) (Eq.refl _) (by go_simp; done) ?_
    intro K hK
    go_simp
    try simp only [Act.put]
    refine (copyMarks_any l0 A0 c0 B _ (HL0.out _ hS1) hc0 (Nat.le_trans hB (Below.size hS1)) HN0.out).mono ?_
    rintro e ws ⟨v, rfl, o0, hBs⟩
    obtain ⟨D0, d0, rfl, _, q0⟩ := copied o0 (by omega) (HL0.out _ (Gr.trans hS1 hBs)).size
    try have own8 := own_below own8 hBs
    refine hK _ _ (Gr.trans hS1 hBs) ?_
    clear hK K hBs
    refine wpW_branch [5, 8] (by kernel_rfl) (by simp) ?_
    intro w2 hg2 hS2
    try have o0 := own_below o0 hg2
    try have o1 := own_below o1 hg2
    try have own8 := own_below own8 hg2
    try have rP := own_below rP hg2
    refine each_cons ?_ (each_cons ?_ (each_nil))
    · refine wpOp_go (by rfl) (Eq.refl _) (by go_simp; done) ?_
      intro K hK
      go_simp
      try simp only [Act.put]
      refine (copyMarks_any l1 A1 c1 B _ (HL1.out _ hS2) hc1 (Nat.le_trans hB (Below.size hS2)) HN1.out).mono ?_
      rintro e ws ⟨v, rfl, o1, hBs⟩
      obtain ⟨D1, d1, rfl, _, q1⟩ := copied o1 (by omega) (HL1.out _ (Gr.trans hS2 hBs)).size
      have o0 := own_below o0 hBs
      try have own8 := own_below own8 hBs
      refine hK _ _ (Gr.trans hS2 hBs) ?_
      clear hK K hBs
      refine wpW_branch [6, 8] (by kernel_rfl) (by simp) ?_
      intro w3 hg3 hS3
      try have o0 := own_below o0 hg3
      try have o1 := own_below o1 hg3
      try have own8 := own_below own8 hg3
      try have rP := own_below rP hg3
      refine each_cons ?_ (each_cons ?_ (each_nil))
      · refine wpOp_go (by rfl) (Eq.refl _) (by go_simp; done) ?_
        intro K hK
        go_simp
        try simp only [Act.put]
        refine hK _ _ hS3 ?_
        clear hK K
        refine wpW_branch [8] (by kernel_rfl) (by simp) ?_
        intro w4 hg4 hS4
        try have o0 := own_below o0 hg4
        try have o1 := own_below o1 hg4
        try have own8 := own_below own8 hg4
        try have rP := own_below rP hg4
        refine each_cons ?_ (each_nil)
        · refine wpOp_go (by rfl) (Eq.refl _) (by go_simp; done) ?_
          intro K hK
          go_simp
          try simp only [Act.put]
          have own8 : (w4.alloc (.cells #[] 25)).ownsRow W.heap.size 25 2 (.slice (some ⟨w4.heap.size, 0, none⟩) 0 0) 0 [] := World.ownsRow_made w4 #[] 0 (Below.size hS4) (by simp [maxLen]) (by simp)
          have hgA : Gr w4 (w4.alloc (.cells #[] 25)) := (Below.refl _ _).alloc (Nat.le_refl _) _
          try have o0 := own_below o0 hgA
          try have o1 := own_below o1 hgA
          obtain ⟨N8, hN8⟩ : ∃ N, w4.heap.size = N := ⟨_, rfl⟩
          rw [hN8] at own8 ⊢
          refine hK _ _ (Gr.trans hS4 hgA) ?_
          clear hK K hgA hN8
          refine wpW_branch [11] (by kernel_rfl) (by simp) ?_
          intro w5 hg5 hS5
          try have o0 := own_below o0 hg5
          try have o1 := own_below o1 hg5
          try have own8 := own_below own8 hg5
          try have rP := own_below rP hg5
          refine each_cons ?_ (each_nil)
          · refine wpOp_go (by rfl) (Eq.refl _) (by go_simp; done) ?_
            intro K hK
            refine wp_append_row _ (.tmp 57) (.tmp 59) rfl W.heap.size _ P A2 c2 B rfl own8 rfl (HP.out _ hS5) HN2.out hnP (Below.size hS5) ?_
            intro v' wa ho hgrow
            try simp only [Act.put]
            try simp only [List.setIfInBounds_toArray]
            have o0 := o0.kept hgrow (own_two' o0 own8 (by decide))
            have o1 := o1.kept hgrow (own_two' o1 own8 (by decide))
            have hLT : ∀ q, (Value.slice (some ⟨N8, 0, none⟩) 0 0).ownBlock = some q → W.heap.size ≤ q := fun q e => (own8.lt q e).1
            obtain ⟨DP, dP, rfl, _, _, _⟩ := own_row2 ho
            refine hK _ _ (Below.grown hS5 hgrow (Below.size hS5) hLT) ?_
            clear hK K own8 hgrow hLT
            have rP := ho
            refine wpW_branch [12] (by kernel_rfl) (by simp) ?_
            intro w6 hg6 hS6
            try have o0 := own_below o0 hg6
            try have o1 := own_below o1 hg6
            try have own8 := own_below own8 hg6
            try have rP := own_below rP hg6
            refine each_cons ?_ (each_nil)
            · refine wpOp_go (by rfl) (Eq.refl _) (by go_simp; done) ?_
              intro K hK
              go_simp
              try simp only [Act.put]
              obtain ⟨DP', dP', hvp, hrp, _, _⟩ := own_row2 rP
              have hip := Value.slice.inj hvp
              refine (checkPairs_any l0 l1 D0 D1 DP d0 d1 dP _ slack P _ (own_mk o0 (by omega) (HL0.out _ hS6).size) (own_mk o1 (by omega) (HL1.out _ hS6).size) (by rw [hip.1]; exact hrp) q0 q1 (Nat.le_refl _) hn0 hn1 hnP).mono ?_
              rintro e ws ⟨rfl, hBs⟩
              refine hK _ _ (Gr.trans hS6 hBs) ?_
              clear hK K o0 o1 rP hBs hvp hrp hip
              refine wpW_det (t' := ?ct13R7) 13 (by rfl) (by kernel_rfl) (NQ_free _) (by kernel_rfl) ?cw13R7 ?ch13R7 ?ca13R7 (Eq.refl _) ?cH13R7
              case cw13R7 => (go_simp; done)
              case ch13R7 =>
                intro ds w' hS K hK
                have hc := (bcell hS).1
                have hf := (bcell hS).2
                have hz := hS.size
                try simp at hz
                go_simp
                try go_bits
                first
                  | exact hK _ hS (Gr.refl _)
                  | exact hK _ (by repeat (first | (with_reducible exact Below.refl _ _) | (with_reducible assumption) | ((with_reducible refine Below.setCell ?_ ?_ _); rotate_left; · (first | exact Nat.le_refl _ | (simp; done) | (simp; omega) | omega)) | ((with_reducible refine Below.alloc ?_ ?_ _); rotate_left; · (first | exact Nat.le_refl _ | (simp; done) | (simp; omega) | omega)) | (with_reducible apply Below.drew) | (with_reducible apply below_drewN') | (refine Below.trans ?_ (Below.mono (by assumption) (by first | exact Nat.le_refl _ | (simp; done) | (simp; omega) | omega))) | exact Below.refl _ _ | assumption)) (by repeat (first | (with_reducible exact Below.refl _ _) | (with_reducible assumption) | ((with_reducible refine Below.setCell ?_ ?_ _); rotate_left; · (first | exact Nat.le_refl _ | (simp; done) | (simp; omega) | omega)) | ((with_reducible refine Below.alloc ?_ ?_ _); rotate_left; · (first | exact Nat.le_refl _ | (simp; done) | (simp; omega) | omega)) | (with_reducible apply Below.drew) | (with_reducible apply below_drewN') | (refine Below.trans ?_ (Below.mono (by assumption) (by first | exact Nat.le_refl _ | (simp; done) | (simp; omega) | omega))) | exact Below.refl _ _ | assumption))
              case ca13R7 => (first | (simp [Act.put]; done) | (simp [Act.put, *]; done))
              try dsimp only
              refine wpW_det (t' := ?ct14R7) 14 (by rfl) (by kernel_rfl) (NQ_free _) (by kernel_rfl) ?cw14R7 ?ch14R7 ?ca14R7 (Eq.refl _) ?cH14R7
              case cw14R7 => (go_simp; done)
              case ch14R7 =>
                intro ds w' hS K hK
                have hc := (bcell hS).1
                have hf := (bcell hS).2
                have hz := hS.size
                try simp at hz
                go_simp
                try go_bits
                first
                  | exact hK _ hS (Gr.refl _)
                  | exact hK _ (by repeat (first | (with_reducible exact Below.refl _ _) | (with_reducible assumption) | ((with_reducible refine Below.setCell ?_ ?_ _); rotate_left; · (first | exact Nat.le_refl _ | (simp; done) | (simp; omega) | omega)) | ((with_reducible refine Below.alloc ?_ ?_ _); rotate_left; · (first | exact Nat.le_refl _ | (simp; done) | (simp; omega) | omega)) | (with_reducible apply Below.drew) | (with_reducible apply below_drewN') | (refine Below.trans ?_ (Below.mono (by assumption) (by first | exact Nat.le_refl _ | (simp; done) | (simp; omega) | omega))) | exact Below.refl _ _ | assumption)) (by repeat (first | (with_reducible exact Below.refl _ _) | (with_reducible assumption) | ((with_reducible refine Below.setCell ?_ ?_ _); rotate_left; · (first | exact Nat.le_refl _ | (simp; done) | (simp; omega) | omega)) | ((with_reducible refine Below.alloc ?_ ?_ _); rotate_left; · (first | exact Nat.le_refl _ | (simp; done) | (simp; omega) | omega)) | (with_reducible apply Below.drew) | (with_reducible apply below_drewN') | (refine Below.trans ?_ (Below.mono (by assumption) (by first | exact Nat.le_refl _ | (simp; done) | (simp; omega) | omega))) | exact Below.refl _ _ | assumption))
              case ca14R7 => (first | (simp [Act.put]; done) | (simp [Act.put, *]; done))
              try dsimp only
              refine wpW_det (t' := ?ct15R7) 15 (by rfl) (by kernel_rfl) (NQ_free _) (by kernel_rfl) ?cw15R7 ?ch15R7 ?ca15R7 (Eq.refl _) ?cH15R7
              case cw15R7 => (go_simp; done)
              case ch15R7 =>
                intro ds w' hS K hK
                have hc := (bcell hS).1
                have hf := (bcell hS).2
                have hz := hS.size
                try simp at hz
                go_simp
                try go_bits
                first
                  | exact hK _ hS (Gr.refl _)
                  | exact hK _ (by repeat (first | (with_reducible exact Below.refl _ _) | (with_reducible assumption) | ((with_reducible refine Below.setCell ?_ ?_ _); rotate_left; · (first | exact Nat.le_refl _ | (simp; done) | (simp; omega) | omega)) | ((with_reducible refine Below.alloc ?_ ?_ _); rotate_left; · (first | exact Nat.le_refl _ | (simp; done) | (simp; omega) | omega)) | (with_reducible apply Below.drew) | (with_reducible apply below_drewN') | (refine Below.trans ?_ (Below.mono (by assumption) (by first | exact Nat.le_refl _ | (simp; done) | (simp; omega) | omega))) | exact Below.refl _ _ | assumption)) (by repeat (first | (with_reducible exact Below.refl _ _) | (with_reducible assumption) | ((with_reducible refine Below.setCell ?_ ?_ _); rotate_left; · (first | exact Nat.le_refl _ | (simp; done) | (simp; omega) | omega)) | ((with_reducible refine Below.alloc ?_ ?_ _); rotate_left; · (first | exact Nat.le_refl _ | (simp; done) | (simp; omega) | omega)) | (with_reducible apply Below.drew) | (with_reducible apply below_drewN') | (refine Below.trans ?_ (Below.mono (by assumption) (by first | exact Nat.le_refl _ | (simp; done) | (simp; omega) | omega))) | exact Below.refl _ _ | assumption))
              case ca15R7 => (first | (simp [Act.put]; done) | (simp [Act.put, *]; done))
              try dsimp only
              refine wpW_det (t' := ?ct16R7) 16 (by rfl) (by kernel_rfl) (NQ_free _) (by kernel_rfl) ?cw16R7 ?ch16R7 ?ca16R7 (Eq.refl _) ?cH16R7
              case cw16R7 => (go_simp; done)
              case ch16R7 =>
                intro ds w' hS K hK
                have hc := (bcell hS).1
                have hf := (bcell hS).2
                have hz := hS.size
                try simp at hz
                go_simp
                try go_bits
                first
                  | exact hK _ hS (Gr.refl _)
                  | exact hK _ (by repeat (first | (with_reducible exact Below.refl _ _) | (with_reducible assumption) | ((with_reducible refine Below.setCell ?_ ?_ _); rotate_left; · (first | exact Nat.le_refl _ | (simp; done) | (simp; omega) | omega)) | ((with_reducible refine Below.alloc ?_ ?_ _); rotate_left; · (first | exact Nat.le_refl _ | (simp; done) | (simp; omega) | omega)) | (with_reducible apply Below.drew) | (with_reducible apply below_drewN') | (refine Below.trans ?_ (Below.mono (by assumption) (by first | exact Nat.le_refl _ | (simp; done) | (simp; omega) | omega))) | exact Below.refl _ _ | assumption)) (by repeat (first | (with_reducible exact Below.refl _ _) | (with_reducible assumption) | ((with_reducible refine Below.setCell ?_ ?_ _); rotate_left; · (first | exact Nat.le_refl _ | (simp; done) | (simp; omega) | omega)) | ((with_reducible refine Below.alloc ?_ ?_ _); rotate_left; · (first | exact Nat.le_refl _ | (simp; done) | (simp; omega) | omega)) | (with_reducible apply Below.drew) | (with_reducible apply below_drewN') | (refine Below.trans ?_ (Below.mono (by assumption) (by first | exact Nat.le_refl _ | (simp; done) | (simp; omega) | omega))) | exact Below.refl _ _ | assumption))
              case ca16R7 => (first | (simp [Act.put]; done) | (simp [Act.put, *]; done))
              try dsimp only
              refine wpW_det (t' := ?ct17R7) 17 (by rfl) (by kernel_rfl) (NQ_free _) (by kernel_rfl) ?cw17R7 ?ch17R7 ?ca17R7 (Eq.refl _) ?cH17R7
              case cw17R7 => (go_simp; done)
              case ch17R7 =>
                intro ds w' hS K hK
                have hc := (bcell hS).1
                have hf := (bcell hS).2
                have hz := hS.size
                try simp at hz
                go_simp
                try go_bits
                first
                  | exact hK _ hS (Gr.refl _)
                  | exact hK _ (by repeat (first | (with_reducible exact Below.refl _ _) | (with_reducible assumption) | ((with_reducible refine Below.setCell ?_ ?_ _); rotate_left; · (first | exact Nat.le_refl _ | (simp; done) | (simp; omega) | omega)) | ((with_reducible refine Below.alloc ?_ ?_ _); rotate_left; · (first | exact Nat.le_refl _ | (simp; done) | (simp; omega) | omega)) | (with_reducible apply Below.drew) | (with_reducible apply below_drewN') | (refine Below.trans ?_ (Below.mono (by assumption) (by first | exact Nat.le_refl _ | (simp; done) | (simp; omega) | omega))) | exact Below.refl _ _ | assumption)) (by repeat (first | (with_reducible exact Below.refl _ _) | (with_reducible assumption) | ((with_reducible refine Below.setCell ?_ ?_ _); rotate_left; · (first | exact Nat.le_refl _ | (simp; done) | (simp; omega) | omega)) | ((with_reducible refine Below.alloc ?_ ?_ _); rotate_left; · (first | exact Nat.le_refl _ | (simp; done) | (simp; omega) | omega)) | (with_reducible apply Below.drew) | (with_reducible apply below_drewN') | (refine Below.trans ?_ (Below.mono (by assumption) (by first | exact Nat.le_refl _ | (simp; done) | (simp; omega) | omega))) | exact Below.refl _ _ | assumption))
              case ca17R7 => (first | (simp [Act.put]; done) | (simp [Act.put, *]; done))
              try dsimp only
              refine wpW_end (by kernel_rfl) ?_
              intro we hg hS
              unfold NQ
              dsimp only
              exact H.out _ _ _ _ _ _ _ _ _ _ _ _ _ _ _ _ we hS
      · refine wpOp_go (by rfl) (Eq.refl _) (by go_simp; done) ?_
        intro K hK
        go_simp
        try simp only [Act.put]
        have own8 : (w3.alloc (.cells #[] 25)).ownsRow W.heap.size 25 2 (.slice (some ⟨w3.heap.size, 0, none⟩) 0 0) 0 [] := World.ownsRow_made w3 #[] 0 (Below.size hS3) (by simp [maxLen]) (by simp)
        have hgA : Gr w3 (w3.alloc (.cells #[] 25)) := (Below.refl _ _).alloc (Nat.le_refl _) _
        try have o0 := own_below o0 hgA
        try have o1 := own_below o1 hgA
        obtain ⟨N8, hN8⟩ : ∃ N, w3.heap.size = N := ⟨_, rfl⟩
        rw [hN8] at own8 ⊢
        refine hK _ _ (Gr.trans hS3 hgA) ?_
        clear hK K hgA hN8
        refine wpW_branch [6, 11] (by kernel_rfl) (by simp) ?_
        intro w4 hg4 hS4
        try have o0 := own_below o0 hg4
        try have o1 := own_below o1 hg4
        try have own8 := own_below own8 hg4
        try have rP := own_below rP hg4
        refine each_cons ?_ (each_cons ?_ (each_nil))
        · refine wpOp_go (by rfl) (Eq.refl _) (by go_simp; done) ?_
          intro K hK
          go_simp
          try simp only [Act.put]
          refine hK _ _ hS4 ?_
          clear hK K
          refine wpW_branch [11] (by kernel_rfl) (by simp) ?_
          intro w5 hg5 hS5
          try have o0 := own_below o0 hg5
          try have o1 := own_below o1 hg5
          try have own8 := own_below own8 hg5
          try have rP := own_below rP hg5
          refine each_cons ?_ (each_nil)
          · refine wpOp_go (by rfl) (Eq.refl _) (by go_simp; done) ?_
            intro K hK
            refine wp_append_row _ (.tmp 57) (.tmp 59) rfl W.heap.size _ P A2 c2 B rfl own8 rfl (HP.out _ hS5) HN2.out hnP (Below.size hS5) ?_
            intro v' wa ho hgrow
            try simp only [Act.put]
            try simp only [List.setIfInBounds_toArray]
            have o0 := o0.kept hgrow (own_two' o0 own8 (by decide))
            have o1 := o1.kept hgrow (own_two' o1 own8 (by decide))
            have hLT : ∀ q, (Value.slice (some ⟨N8, 0, none⟩) 0 0).ownBlock = some q → W.heap.size ≤ q := fun q e => (own8.lt q e).1
            obtain ⟨DP, dP, rfl, _, _, _⟩ := own_row2 ho
            refine hK _ _ (Below.grown hS5 hgrow (Below.size hS5) hLT) ?_
            clear hK K own8 hgrow hLT
            have rP := ho
            refine wpW_branch [12] (by kernel_rfl) (by simp) ?_
            intro w6 hg6 hS6
            try have o0 := own_below o0 hg6
            try have o1 := own_below o1 hg6
            try have own8 := own_below own8 hg6
            try have rP := own_below rP hg6
            refine each_cons ?_ (each_nil)
            · refine wpOp_go (by rfl) (Eq.refl _) (by go_simp; done) ?_
              intro K hK
              go_simp
              try simp only [Act.put]
              obtain ⟨DP', dP', hvp, hrp, _, _⟩ := own_row2 rP
              have hip := Value.slice.inj hvp
              refine (checkPairs_any l0 l1 D0 D1 DP d0 d1 dP _ slack P _ (own_mk o0 (by omega) (HL0.out _ hS6).size) (own_mk o1 (by omega) (HL1.out _ hS6).size) (by rw [hip.1]; exact hrp) q0 q1 (Nat.le_refl _) hn0 hn1 hnP).mono ?_
              rintro e ws ⟨rfl, hBs⟩
              refine hK _ _ (Gr.trans hS6 hBs) ?_
              clear hK K o0 o1 rP hBs hvp hrp hip
              refine wpW_det (t' := ?ct13R8) 13 (by rfl) (by kernel_rfl) (NQ_free _) (by kernel_rfl) ?cw13R8 ?ch13R8 ?ca13R8 (Eq.refl _) ?cH13R8
              case cw13R8 => (go_simp; done)
              case ch13R8 =>
                intro ds w' hS K hK
                have hc := (bcell hS).1
                have hf := (bcell hS).2
                have hz := hS.size
                try simp at hz
                go_simp
                try go_bits
                first
                  | exact hK _ hS (Gr.refl _)
                  | exact hK _ (by repeat (first | (with_reducible exact Below.refl _ _) | (with_reducible assumption) | ((with_reducible refine Below.setCell ?_ ?_ _); rotate_left; · (first | exact Nat.le_refl _ | (simp; done) | (simp; omega) | omega)) | ((with_reducible refine Below.alloc ?_ ?_ _); rotate_left; · (first | exact Nat.le_refl _ | (simp; done) | (simp; omega) | omega)) | (with_reducible apply Below.drew) | (with_reducible apply below_drewN') | (refine Below.trans ?_ (Below.mono (by assumption) (by first | exact Nat.le_refl _ | (simp; done) | (simp; omega) | omega))) | exact Below.refl _ _ | assumption)) (by repeat (first | (with_reducible exact Below.refl _ _) | (with_reducible assumption) | ((with_reducible refine Below.setCell ?_ ?_ _); rotate_left; · (first | exact Nat.le_refl _ | (simp; done) | (simp; omega) | omega)) | ((with_reducible refine Below.alloc ?_ ?_ _); rotate_left; · (first | exact Nat.le_refl _ | (simp; done) | (simp; omega) | omega)) | (with_reducible apply Below.drew) | (with_reducible apply below_drewN') | (refine Below.trans ?_ (Below.mono (by assumption) (by first | exact Nat.le_refl _ | (simp; done) | (simp; omega) | omega))) | exact Below.refl _ _ | assumption))
              case ca13R8 => (first | (simp [Act.put]; done) | (simp [Act.put, *]; done))
              try dsimp only
              refine wpW_det (t' := ?ct14R8) 14 (by rfl) (by kernel_rfl) (NQ_free _) (by kernel_rfl) ?cw14R8 ?ch14R8 ?ca14R8 (Eq.refl _) ?cH14R8
              case cw14R8 => (go_simp; done)
              case ch14R8 =>
                intro ds w' hS K hK
                have hc := (bcell hS).1
                have hf := (bcell hS).2
                have hz := hS.size
                try simp at hz
                go_simp
                try go_bits
                first
                  | exact hK _ hS (Gr.refl _)
                  | exact hK _ (by repeat (first | (with_reducible exact Below.refl _ _) | (with_reducible assumption) | ((with_reducible refine Below.setCell ?_ ?_ _); rotate_left; · (first | exact Nat.le_refl _ | (simp; done) | (simp; omega) | omega)) | ((with_reducible refine Below.alloc ?_ ?_ _); rotate_left; · (first | exact Nat.le_refl _ | (simp; done) | (simp; omega) | omega)) | (with_reducible apply Below.drew) | (with_reducible apply below_drewN') | (refine Below.trans ?_ (Below.mono (by assumption) (by first | exact Nat.le_refl _ | (simp; done) | (simp; omega) | omega))) | exact Below.refl _ _ | assumption)) (by repeat (first | (with_reducible exact Below.refl _ _) | (with_reducible assumption) | ((with_reducible refine Below.setCell ?_ ?_ _); rotate_left; · (first | exact Nat.le_refl _ | (simp; done) | (simp; omega) | omega)) | ((with_reducible refine Below.alloc ?_ ?_ _); rotate_left; · (first | exact Nat.le_refl _ | (simp; done) | (simp; omega) | omega)) | (with_reducible apply Below.drew) | (with_reducible apply below_drewN') | (refine Below.trans ?_ (Below.mono (by assumption) (by first | exact Nat.le_refl _ | (simp; done) | (simp; omega) | omega))) | exact Below.refl _ _ | assumption))
              case ca14R8 => (first | (simp [Act.put]; done) | (simp [Act.put, *]; done))
              try dsimp only
              refine wpW_det (t' := ?ct15R8) 15 (by rfl) (by kernel_rfl) (NQ_free _) (by kernel_rfl) ?cw15R8 ?ch15R8 ?ca15R8 (Eq.refl _) ?cH15R8
              case cw15R8 => (go_simp; done)
              case ch15R8 =>
                intro ds w' hS K hK
                have hc := (bcell hS).1
                have hf := (bcell hS).2
                have hz := hS.size
                try simp at hz
                go_simp
                try go_bits
                first
                  | exact hK _ hS (Gr.refl _)
                  | exact hK _ (by repeat (first | (with_reducible exact Below.refl _ _) | (with_reducible assumption) | ((with_reducible refine Below.setCell ?_ ?_ _); rotate_left; · (first | exact Nat.le_refl _ | (simp; done) | (simp; omega) | omega)) | ((with_reducible refine Below.alloc ?_ ?_ _); rotate_left; · (first | exact Nat.le_refl _ | (simp; done) | (simp; omega) | omega)) | (with_reducible apply Below.drew) | (with_reducible apply below_drewN') | (refine Below.trans ?_ (Below.mono (by assumption) (by first | exact Nat.le_refl _ | (simp; done) | (simp; omega) | omega))) | exact Below.refl _ _ | assumption)) (by repeat (first | (with_reducible exact Below.refl _ _) | (with_reducible assumption) | ((with_reducible refine Below.setCell ?_ ?_ _); rotate_left; · (first | exact Nat.le_refl _ | (simp; done) | (simp; omega) | omega)) | ((with_reducible refine Below.alloc ?_ ?_ _); rotate_left; · (first | exact Nat.le_refl _ | (simp; done) | (simp; omega) | omega)) | (with_reducible apply Below.drew) | (with_reducible apply below_drewN') | (refine Below.trans ?_ (Below.mono (by assumption) (by first | exact Nat.le_refl _ | (simp; done) | (simp; omega) | omega))) | exact Below.refl _ _ | assumption))
              case ca15R8 => (first | (simp [Act.put]; done) | (simp [Act.put, *]; done))
              try dsimp only
              refine wpW_det (t' := ?ct16R8) 16 (by rfl) (by kernel_rfl) (NQ_free _) (by kernel_rfl) ?cw16R8 ?ch16R8 ?ca16R8 (Eq.refl _) ?cH16R8
              case cw16R8 => (go_simp; done)
              case ch16R8 =>
                intro ds w' hS K hK
                have hc := (bcell hS).1
                have hf := (bcell hS).2
                have hz := hS.size
                try simp at hz
                go_simp
                try go_bits
                first
                  | exact hK _ hS (Gr.refl _)
                  | exact hK _ (by repeat (first | (with_reducible exact Below.refl _ _) | (with_reducible assumption) | ((with_reducible refine Below.setCell ?_ ?_ _); rotate_left; · (first | exact Nat.le_refl _ | (simp; done) | (simp; omega) | omega)) | ((with_reducible refine Below.alloc ?_ ?_ _); rotate_left; · (first | exact Nat.le_refl _ | (simp; done) | (simp; omega) | omega)) | (with_reducible apply Below.drew) | (with_reducible apply below_drewN') | (refine Below.trans ?_ (Below.mono (by assumption) (by first | exact Nat.le_refl _ | (simp; done) | (simp; omega) | omega))) | exact Below.refl _ _ | assumption)) (by repeat (first | (with_reducible exact Below.refl _ _) | (with_reducible assumption) | ((with_reducible refine Below.setCell ?_ ?_ _); rotate_left; · (first | exact Nat.le_refl _ | (simp; done) | (simp; omega) | omega)) | ((with_reducible refine Below.alloc ?_ ?_ _); rotate_left; · (first | exact Nat.le_refl _ | (simp; done) | (simp; omega) | omega)) | (with_reducible apply Below.drew) | (with_reducible apply below_drewN') | (refine Below.trans ?_ (Below.mono (by assumption) (by first | exact Nat.le_refl _ | (simp; done) | (simp; omega) | omega))) | exact Below.refl _ _ | assumption))
              case ca16R8 => (first | (simp [Act.put]; done) | (simp [Act.put, *]; done))
              try dsimp only
              refine wpW_det (t' := ?ct17R8) 17 (by rfl) (by kernel_rfl) (NQ_free _) (by kernel_rfl) ?cw17R8 ?ch17R8 ?ca17R8 (Eq.refl _) ?cH17R8
              case cw17R8 => (go_simp; done)
              case ch17R8 =>
                intro ds w' hS K hK
                have hc := (bcell hS).1
                have hf := (bcell hS).2
                have hz := hS.size
                try simp at hz
                go_simp
                try go_bits
                first
                  | exact hK _ hS (Gr.refl _)
                  | exact hK _ (by repeat (first | (with_reducible exact Below.refl _ _) | (with_reducible assumption) | ((with_reducible refine Below.setCell ?_ ?_ _); rotate_left; · (first | exact Nat.le_refl _ | (simp; done) | (simp; omega) | omega)) | ((with_reducible refine Below.alloc ?_ ?_ _); rotate_left; · (first | exact Nat.le_refl _ | (simp; done) | (simp; omega) | omega)) | (with_reducible apply Below.drew) | (with_reducible apply below_drewN') | (refine Below.trans ?_ (Below.mono (by assumption) (by first | exact Nat.le_refl _ | (simp; done) | (simp; omega) | omega))) | exact Below.refl _ _ | assumption)) (by repeat (first | (with_reducible exact Below.refl _ _) | (with_reducible assumption) | ((with_reducible refine Below.setCell ?_ ?_ _); rotate_left; · (first | exact Nat.le_refl _ | (simp; done) | (simp; omega) | omega)) | ((with_reducible refine Below.alloc ?_ ?_ _); rotate_left; · (first | exact Nat.le_refl _ | (simp; done) | (simp; omega) | omega)) | (with_reducible apply Below.drew) | (with_reducible apply below_drewN') | (refine Below.trans ?_ (Below.mono (by assumption) (by first | exact Nat.le_refl _ | (simp; done) | (simp; omega) | omega))) | exact Below.refl _ _ | assumption))
              case ca17R8 => (first | (simp [Act.put]; done) | (simp [Act.put, *]; done))
              try dsimp only
              refine wpW_end (by kernel_rfl) ?_
              intro we hg hS
              unfold NQ
              dsimp only
              exact H.out _ _ _ _ _ _ _ _ _ _ _ _ _ _ _ _ we hS
        · refine wpOp_go (by rfl) (Eq.refl _) (by go_simp; done) ?_
          intro K hK
          refine wp_append_row _ (.tmp 57) (.tmp 59) rfl W.heap.size _ P A2 c2 B rfl own8 rfl (HP.out _ hS4) HN2.out hnP (Below.size hS4) ?_
          intro v' wa ho hgrow
          try simp only [Act.put]
          try simp only [List.setIfInBounds_toArray]
          have o0 := o0.kept hgrow (own_two' o0 own8 (by decide))
          have o1 := o1.kept hgrow (own_two' o1 own8 (by decide))
          have hLT : ∀ q, (Value.slice (some ⟨N8, 0, none⟩) 0 0).ownBlock = some q → W.heap.size ≤ q := fun q e => (own8.lt q e).1
          obtain ⟨DP, dP, rfl, _, _, _⟩ := own_row2 ho
          refine hK _ _ (Below.grown hS4 hgrow (Below.size hS4) hLT) ?_
          clear hK K own8 hgrow hLT
          have rP := ho
          refine wpW_branch [6] (by kernel_rfl) (by simp) ?_
          intro w5 hg5 hS5
          try have o0 := own_below o0 hg5
          try have o1 := own_below o1 hg5
          try have own8 := own_below own8 hg5
          try have rP := own_below rP hg5
          refine each_cons ?_ (each_nil)
          · refine wpOp_go (by rfl) (Eq.refl _) (by go_simp; done) ?_
            intro K hK
            go_simp
            try simp only [Act.put]
            refine hK _ _ hS5 ?_
            clear hK K
            refine wpW_branch [12] (by kernel_rfl) (by simp) ?_
            intro w6 hg6 hS6
            try have o0 := own_below o0 hg6
            try have o1 := own_below o1 hg6
            try have own8 := own_below own8 hg6
            try have rP := own_below rP hg6
            refine each_cons ?_ (each_nil)
            · refine wpOp_go (by rfl) (Eq.refl _) (by go_simp; done) ?_
              intro K hK
              go_simp
              try simp only [Act.put]
              obtain ⟨DP', dP', hvp, hrp, _, _⟩ := own_row2 rP
              have hip := Value.slice.inj hvp
              refine (checkPairs_any l0 l1 D0 D1 DP d0 d1 dP _ slack P _ (own_mk o0 (by omega) (HL0.out _ hS6).size) (own_mk o1 (by omega) (HL1.out _ hS6).size) (by rw [hip.1]; exact hrp) q0 q1 (Nat.le_refl _) hn0 hn1 hnP).mono ?_
              rintro e ws ⟨rfl, hBs⟩
              refine hK _ _ (Gr.trans hS6 hBs) ?_
              clear hK K o0 o1 rP hBs hvp hrp hip
              refine wpW_det (t' := ?ct13R9) 13 (by rfl) (by kernel_rfl) (NQ_free _) (by kernel_rfl) ?cw13R9 ?ch13R9 ?ca13R9 (Eq.refl _) ?cH13R9
              case cw13R9 => (go_simp; done)
              case ch13R9 =>
                intro ds w' hS K hK
                have hc := (bcell hS).1
                have hf := (bcell hS).2
                have hz := hS.size
                try simp at hz
                go_simp
                try go_bits
                first
                  | exact hK _ hS (Gr.refl _)
                  | exact hK _ (by repeat (first | (with_reducible exact Below.refl _ _) | (with_reducible assumption) | ((with_reducible refine Below.setCell ?_ ?_ _); rotate_left; · (first | exact Nat.le_refl _ | (simp; done) | (simp; omega) | omega)) | ((with_reducible refine Below.alloc ?_ ?_ _); rotate_left; · (first | exact Nat.le_refl _ | (simp; done) | (simp; omega) | omega)) | (with_reducible apply Below.drew) | (with_reducible apply below_drewN') | (refine Below.trans ?_ (Below.mono (by assumption) (by first | exact Nat.le_refl _ | (simp; done) | (simp; omega) | omega))) | exact Below.refl _ _ | assumption)) (by repeat (first | (with_reducible exact Below.refl _ _) | (with_reducible assumption) | ((with_reducible refine Below.setCell ?_ ?_ _); rotate_left; · (first | exact Nat.le_refl _ | (simp; done) | (simp; omega) | omega)) | ((with_reducible refine Below.alloc ?_ ?_ _); rotate_left; · (first | exact Nat.le_refl _ | (simp; done) | (simp; omega) | omega)) | (with_reducible apply Below.drew) | (with_reducible apply below_drewN') | (refine Below.trans ?_ (Below.mono (by assumption) (by first | exact Nat.le_refl _ | (simp; done) | (simp; omega) | omega))) | exact Below.refl _ _ | assumption))
              case ca13R9 => (first | (simp [Act.put]; done) | (simp [Act.put, *]; done))
              try dsimp only
              refine wpW_det (t' := ?ct14R9) 14 (by rfl) (by kernel_rfl) (NQ_free _) (by kernel_rfl) ?cw14R9 ?ch14R9 ?ca14R9 (Eq.refl _) ?cH14R9
              case cw14R9 => (go_simp; done)
              case ch14R9 =>
                intro ds w' hS K hK
                have hc := (bcell hS).1
                have hf := (bcell hS).2
                have hz := hS.size
                try simp at hz
                go_simp
                try go_bits
                first
                  | exact hK _ hS (Gr.refl _)
                  | exact hK _ (by repeat (first | (with_reducible exact Below.refl _ _) | (with_reducible assumption) | ((with_reducible refine Below.setCell ?_ ?_ _); rotate_left; · (first | exact Nat.le_refl _ | (simp; done) | (simp; omega) | omega)) | ((with_reducible refine Below.alloc ?_ ?_ _); rotate_left; · (first | exact Nat.le_refl _ | (simp; done) | (simp; omega) | omega)) | (with_reducible apply Below.drew) | (with_reducible apply below_drewN') | (refine Below.trans ?_ (Below.mono (by assumption) (by first | exact Nat.le_refl _ | (simp; done) | (simp; omega) | omega))) | exact Below.refl _ _ | assumption)) (by repeat (first | (with_reducible exact Below.refl _ _) | (with_reducible assumption) | ((with_reducible refine Below.setCell ?_ ?_ _); rotate_left; · (first | exact Nat.le_refl _ | (simp; done) | (simp; omega) | omega)) | ((with_reducible refine Below.alloc ?_ ?_ _); rotate_left; · (first | exact Nat.le_refl _ | (simp; done) | (simp; omega) | omega)) | (with_reducible apply Below.drew) | (with_reducible apply below_drewN') | (refine Below.trans ?_ (Below.mono (by assumption) (by first | exact Nat.le_refl _ | (simp; done) | (simp; omega) | omega))) | exact Below.refl _ _ | assumption))
              case ca14R9 => (first | (simp [Act.put]; done) | (simp [Act.put, *]; done))
              try dsimp only
              refine wpW_det (t' := ?ct15R9) 15 (by rfl) (by kernel_rfl) (NQ_free _) (by kernel_rfl) ?cw15R9 ?ch15R9 ?ca15R9 (Eq.refl _) ?cH15R9
              case cw15R9 => (go_simp; done)
              case ch15R9 =>
                intro ds w' hS K hK
                have hc := (bcell hS).1
                have hf := (bcell hS).2
                have hz := hS.size
                try simp at hz
                go_simp
                try go_bits
                first
                  | exact hK _ hS (Gr.refl _)
                  | exact hK _ (by repeat (first | (with_reducible exact Below.refl _ _) | (with_reducible assumption) | ((with_reducible refine Below.setCell ?_ ?_ _); rotate_left; · (first | exact Nat.le_refl _ | (simp; done) | (simp; omega) | omega)) | ((with_reducible refine Below.alloc ?_ ?_ _); rotate_left; · (first | exact Nat.le_refl _ | (simp; done) | (simp; omega) | omega)) | (with_reducible apply Below.drew) | (with_reducible apply below_drewN') | (refine Below.trans ?_ (Below.mono (by assumption) (by first | exact Nat.le_refl _ | (simp; done) | (simp; omega) | omega))) | exact Below.refl _ _ | assumption)) (by repeat (first | (with_reducible exact Below.refl _ _) | (with_reducible assumption) | ((with_reducible refine Below.setCell ?_ ?_ _); rotate_left; · (first | exact Nat.le_refl _ | (simp; done) | (simp; omega) | omega)) | ((with_reducible refine Below.alloc ?_ ?_ _); rotate_left; · (first | exact Nat.le_refl _ | (simp; done) | (simp; omega) | omega)) | (with_reducible apply Below.drew) | (with_reducible apply below_drewN') | (refine Below.trans ?_ (Below.mono (by assumption) (by first | exact Nat.le_refl _ | (simp; done) | (simp; omega) | omega))) | exact Below.refl _ _ | assumption))
              case ca15R9 => (first | (simp [Act.put]; done) | (simp [Act.put, *]; done))
              try dsimp only
              refine wpW_det (t' := ?ct16R9) 16 (by rfl) (by kernel_rfl) (NQ_free _) (by kernel_rfl) ?cw16R9 ?ch16R9 ?ca16R9 (Eq.refl _) ?cH16R9
              case cw16R9 => (go_simp; done)
              case ch16R9 =>
                intro ds w' hS K hK
                have hc := (bcell hS).1
                have hf := (bcell hS).2
                have hz := hS.size
                try simp at hz
                go_simp
                try go_bits
                first
                  | exact hK _ hS (Gr.refl _)
                  | exact hK _ (by repeat (first | (with_reducible exact Below.refl _ _) | (with_reducible assumption) | ((with_reducible refine Below.setCell ?_ ?_ _); rotate_left; · (first | exact Nat.le_refl _ | (simp; done) | (simp; omega) | omega)) | ((with_reducible refine Below.alloc ?_ ?_ _); rotate_left; · (first | exact Nat.le_refl _ | (simp; done) | (simp; omega) | omega)) | (with_reducible apply Below.drew) | (with_reducible apply below_drewN') | (refine Below.trans ?_ (Below.mono (by assumption) (by first | exact Nat.le_refl _ | (simp; done) | (simp; omega) | omega))) | exact Below.refl _ _ | assumption)) (by repeat (first | (with_reducible exact Below.refl _ _) | (with_reducible assumption) | ((with_reducible refine Below.setCell ?_ ?_ _); rotate_left; · (first | exact Nat.le_refl _ | (simp; done) | (simp; omega) | omega)) | ((with_reducible refine Below.alloc ?_ ?_ _); rotate_left; · (first | exact Nat.le_refl _ | (simp; done) | (simp; omega) | omega)) | (with_reducible apply Below.drew) | (with_reducible apply below_drewN') | (refine Below.trans ?_ (Below.mono (by assumption) (by first | exact Nat.le_refl _ | (simp; done) | (simp; omega) | omega))) | exact Below.refl _ _ | assumption))
              case ca16R9 => (first | (simp [Act.put]; done) | (simp [Act.put, *]; done))
              try dsimp only
              refine wpW_det (t' := ?ct17R9) 17 (by rfl) (by kernel_rfl) (NQ_free _) (by kernel_rfl) ?cw17R9 ?ch17R9 ?ca17R9 (Eq.refl _) ?cH17R9
              case cw17R9 => (go_simp; done)
              case ch17R9 =>
                intro ds w' hS K hK
                have hc := (bcell hS).1
                have hf := (bcell hS).2
                have hz := hS.size
                try simp at hz
                go_simp
                try go_bits
                first
                  | exact hK _ hS (Gr.refl _)
                  | exact hK _ (by repeat (first | (with_reducible exact Below.refl _ _) | (with_reducible assumption) | ((with_reducible refine Below.setCell ?_ ?_ _); rotate_left; · (first | exact Nat.le_refl _ | (simp; done) | (simp; omega) | omega)) | ((with_reducible refine Below.alloc ?_ ?_ _); rotate_left; · (first | exact Nat.le_refl _ | (simp; done) | (simp; omega) | omega)) | (with_reducible apply Below.drew) | (with_reducible apply below_drewN') | (refine Below.trans ?_ (Below.mono (by assumption) (by first | exact Nat.le_refl _ | (simp; done) | (simp; omega) | omega))) | exact Below.refl _ _ | assumption)) (by repeat (first | (with_reducible exact Below.refl _ _) | (with_reducible assumption) | ((with_reducible refine Below.setCell ?_ ?_ _); rotate_left; · (first | exact Nat.le_refl _ | (simp; done) | (simp; omega) | omega)) | ((with_reducible refine Below.alloc ?_ ?_ _); rotate_left; · (first | exact Nat.le_refl _ | (simp; done) | (simp; omega) | omega)) | (with_reducible apply Below.drew) | (with_reducible apply below_drewN') | (refine Below.trans ?_ (Below.mono (by assumption) (by first | exact Nat.le_refl _ | (simp; done) | (simp; omega) | omega))) | exact Below.refl _ _ | assumption))
              case ca17R9 => (first | (simp [Act.put]; done) | (simp [Act.put, *]; done))
              try dsimp only
              refine wpW_end (by kernel_rfl) ?_
              intro we hg hS
              unfold NQ
              dsimp only
              exact H.out _ _ _ _ _ _ _ _ _ _ _ _ _ _ _ _ we hS
    · refine wpOp_go (by rfl) (Eq.refl _) (by go_simp; done) ?_
      intro K hK
      go_simp
      try simp only [Act.put]
      have own8 : (w2.alloc (.cells #[] 25)).ownsRow W.heap.size 25 2 (.slice (some ⟨w2.heap.size, 0, none⟩) 0 0) 0 [] := World.ownsRow_made w2 #[] 0 (Below.size hS2) (by simp [maxLen]) (by simp)
      have hgA : Gr w2 (w2.alloc (.cells #[] 25)) := (Below.refl _ _).alloc (Nat.le_refl _) _
      try have o0 := own_below o0 hgA
      try have o1 := own_below o1 hgA
      obtain ⟨N8, hN8⟩ : ∃ N, w2.heap.size = N := ⟨_, rfl⟩
      rw [hN8] at own8 ⊢
      refine hK _ _ (Gr.trans hS2 hgA) ?_
      clear hK K hgA hN8
      refine wpW_branch [5] (by kernel_rfl) (by simp) ?_
      intro w3 hg3 hS3
      try have o0 := own_below o0 hg3
      try have o1 := own_below o1 hg3
      try have own8 := own_below own8 hg3
      try have rP := own_below rP hg3
      refine each_cons ?_ (each_nil)
      · refine wpOp_go (by rfl) (Eq.refl _) (by go_simp; done) ?_
        intro K hK
        go_simp
        try simp only [Act.put]
        refine (copyMarks_any l1 A1 c1 B _ (HL1.out _ hS3) hc1 (Nat.le_trans hB (Below.size hS3)) HN1.out).mono ?_
        rintro e ws ⟨v, rfl, o1, hBs⟩
        obtain ⟨D1, d1, rfl, _, q1⟩ := copied o1 (by omega) (HL1.out _ (Gr.trans hS3 hBs)).size
        have o0 := own_below o0 hBs
        try have own8 := own_below own8 hBs
        refine hK _ _ (Gr.trans hS3 hBs) ?_
        clear hK K hBs
        refine wpW_branch [6, 11] (by kernel_rfl) (by simp) ?_
        intro w4 hg4 hS4
        try have o0 := own_below o0 hg4
        try have o1 := own_below o1 hg4
        try have own8 := own_below own8 hg4
        try have rP := own_below rP hg4
        refine each_cons ?_ (each_cons ?_ (each_nil))
        · refine wpOp_go (by rfl) (Eq.refl _) (by go_simp; done) ?_
          intro K hK
          go_simp
          try simp only [Act.put]
          refine hK _ _ hS4 ?_
          clear hK K
          refine wpW_branch [11] (by kernel_rfl) (by simp) ?_
          intro w5 hg5 hS5
          try have o0 := own_below o0 hg5
          try have o1 := own_below o1 hg5
          try have own8 := own_below own8 hg5
          try have rP := own_below rP hg5
          refine each_cons ?_ (each_nil)
          · refine wpOp_go (by rfl) (Eq.refl _) (by go_simp; done) ?_
            intro K hK
            refine wp_append_row _ (.tmp 57) (.tmp 59) rfl W.heap.size _ P A2 c2 B rfl own8 rfl (HP.out _ hS5) HN2.out hnP (Below.size hS5) ?_
            intro v' wa ho hgrow
            try simp only [Act.put]
            try simp only [List.setIfInBounds_toArray]
            have o0 := o0.kept hgrow (own_two' o0 own8 (by decide))
            have o1 := o1.kept hgrow (own_two' o1 own8 (by decide))
            have hLT : ∀ q, (Value.slice (some ⟨N8, 0, none⟩) 0 0).ownBlock = some q → W.heap.size ≤ q := fun q e => (own8.lt q e).1
            obtain ⟨DP, dP, rfl, _, _, _⟩ := own_row2 ho
            refine hK _ _ (Below.grown hS5 hgrow (Below.size hS5) hLT) ?_
            clear hK K own8 hgrow hLT
            have rP := ho
            refine wpW_branch [12] (by kernel_rfl) (by simp) ?_
            intro w6 hg6 hS6
            try have o0 := own_below o0 hg6
            try have o1 := own_below o1 hg6
            try have own8 := own_below own8 hg6
            try have rP := own_below rP hg6
            refine each_cons ?_ (each_nil)
            · refine wpOp_go (by rfl) (Eq.refl _) (by go_simp; done) ?_
              intro K hK
              go_simp
              try simp only [Act.put]
              obtain ⟨DP', dP', hvp, hrp, _, _⟩ := own_row2 rP
              have hip := Value.slice.inj hvp
              refine (checkPairs_any l0 l1 D0 D1 DP d0 d1 dP _ slack P _ (own_mk o0 (by omega) (HL0.out _ hS6).size) (own_mk o1 (by omega) (HL1.out _ hS6).size) (by rw [hip.1]; exact hrp) q0 q1 (Nat.le_refl _) hn0 hn1 hnP).mono ?_
              rintro e ws ⟨rfl, hBs⟩
              refine hK _ _ (Gr.trans hS6 hBs) ?_
              clear hK K o0 o1 rP hBs hvp hrp hip
              refine wpW_det (t' := ?ct13R10) 13 (by rfl) (by kernel_rfl) (NQ_free _) (by kernel_rfl) ?cw13R10 ?ch13R10 ?ca13R10 (Eq.refl _) ?cH13R10
              case cw13R10 => (go_simp; done)
              case ch13R10 =>
                intro ds w' hS K hK
                have hc := (bcell hS).1
                have hf := (bcell hS).2
                have hz := hS.size
                try simp at hz
                go_simp
                try go_bits
                first
                  | exact hK _ hS (Gr.refl _)
                  | exact hK _ (by repeat (first | (with_reducible exact Below.refl _ _) | (with_reducible assumption) | ((with_reducible refine Below.setCell ?_ ?_ _); rotate_left; · (first | exact Nat.le_refl _ | (simp; done) | (simp; omega) | omega)) | ((with_reducible refine Below.alloc ?_ ?_ _); rotate_left; · (first | exact Nat.le_refl _ | (simp; done) | (simp; omega) | omega)) | (with_reducible apply Below.drew) | (with_reducible apply below_drewN') | (refine Below.trans ?_ (Below.mono (by assumption) (by first | exact Nat.le_refl _ | (simp; done) | (simp; omega) | omega))) | exact Below.refl _ _ | assumption)) (by repeat (first | (with_reducible exact Below.refl _ _) | (with_reducible assumption) | ((with_reducible refine Below.setCell ?_ ?_ _); rotate_left; · (first | exact Nat.le_refl _ | (simp; done) | (simp; omega) | omega)) | ((with_reducible refine Below.alloc ?_ ?_ _); rotate_left; · (first | exact Nat.le_refl _ | (simp; done) | (simp; omega) | omega)) | (with_reducible apply Below.drew) | (with_reducible apply below_drewN') | (refine Below.trans ?_ (Below.mono (by assumption) (by first | exact Nat.le_refl _ | (simp; done) | (simp; omega) | omega))) | exact Below.refl _ _ | assumption))
              case ca13R10 => (first | (simp [Act.put]; done) | (simp [Act.put, *]; done))
              try dsimp only
              refine wpW_det (t' := ?ct14R10) 14 (by rfl) (by kernel_rfl) (NQ_free _) (by kernel_rfl) ?cw14R10 ?ch14R10 ?ca14R10 (Eq.refl _) ?cH14R10
              case cw14R10 => (go_simp; done)
              case ch14R10 =>
                intro ds w' hS K hK
                have hc := (bcell hS).1
                have hf := (bcell hS).2
                have hz := hS.size
                try simp at hz
                go_simp
                try go_bits
                first
                  | exact hK _ hS (Gr.refl _)
                  | exact hK _ (by repeat (first | (with_reducible exact Below.refl _ _) | (with_reducible assumption) | ((with_reducible refine Below.setCell ?_ ?_ _); rotate_left; · (first | exact Nat.le_refl _ | (simp; done) | (simp; omega) | omega)) | ((with_reducible refine Below.alloc ?_ ?_ _); rotate_left; · (first | exact Nat.le_refl _ | (simp; done) | (simp; omega) | omega)) | (with_reducible apply Below.drew) | (with_reducible apply below_drewN') | (refine Below.trans ?_ (Below.mono (by assumption) (by first | exact Nat.le_refl _ | (simp; done) | (simp; omega) | omega))) | exact Below.refl _ _ | assumption)) (by repeat (first | (with_reducible exact Below.refl _ _) | (with_reducible assumption) | ((with_reducible refine Below.setCell ?_ ?_ _); rotate_left; · (first | exact Nat.le_refl _ | (simp; done) | (simp; omega) | omega)) | ((with_reducible refine Below.alloc ?_ ?_ _); rotate_left; · (first | exact Nat.le_refl _ | (simp; done) | (simp; omega) | omega)) | (with_reducible apply Below.drew) | (with_reducible apply below_drewN') | (refine Below.trans ?_ (Below.mono (by assumption) (by first | exact Nat.le_refl _ | (simp; done) | (simp; omega) | omega))) | exact Below.refl _ _ | assumption))
              case ca14R10 => (first | (simp [Act.put]; done) | (simp [Act.put, *]; done))
              try dsimp only
              refine wpW_det (t' := ?ct15R10) 15 (by rfl) (by kernel_rfl) (NQ_free _) (by kernel_rfl) ?cw15R10 ?ch15R10 ?ca15R10 (Eq.refl _) ?cH15R10
              case cw15R10 => (go_simp; done)
              case ch15R10 =>
                intro ds w' hS K hK
                have hc := (bcell hS).1
                have hf := (bcell hS).2
                have hz := hS.size
                try simp at hz
                go_simp
                try go_bits
                first
                  | exact hK _ hS (Gr.refl _)
                  | exact hK _ (by repeat (first | (with_reducible exact Below.refl _ _) | (with_reducible assumption) | ((with_reducible refine Below.setCell ?_ ?_ _); rotate_left; · (first | exact Nat.le_refl _ | (simp; done) | (simp; omega) | omega)) | ((with_reducible refine Below.alloc ?_ ?_ _); rotate_left; · (first | exact Nat.le_refl _ | (simp; done) | (simp; omega) | omega)) | (with_reducible apply Below.drew) | (with_reducible apply below_drewN') | (refine Below.trans ?_ (Below.mono (by assumption) (by first | exact Nat.le_refl _ | (simp; done) | (simp; omega) | omega))) | exact Below.refl _ _ | assumption)) (by repeat (first | (with_reducible exact Below.refl _ _) | (with_reducible assumption) | ((with_reducible refine Below.setCell ?_ ?_ _); rotate_left; · (first | exact Nat.le_refl _ | (simp; done) | (simp; omega) | omega)) | ((with_reducible refine Below.alloc ?_ ?_ _); rotate_left; · (first | exact Nat.le_refl _ | (simp; done) | (simp; omega) | omega)) | (with_reducible apply Below.drew) | (with_reducible apply below_drewN') | (refine Below.trans ?_ (Below.mono (by assumption) (by first | exact Nat.le_refl _ | (simp; done) | (simp; omega) | omega))) | exact Below.refl _ _ | assumption))
              case ca15R10 => (first | (simp [Act.put]; done) | (simp [Act.put, *]; done))
              try dsimp only
              refine wpW_det (t' := ?ct16R10) 16 (by rfl) (by kernel_rfl) (NQ_free _) (by kernel_rfl) ?cw16R10 ?ch16R10 ?ca16R10 (Eq.refl _) ?cH16R10
              case cw16R10 => (go_simp; done)
              case ch16R10 =>
                intro ds w' hS K hK
                have hc := (bcell hS).1
                have hf := (bcell hS).2
                have hz := hS.size
                try simp at hz
                go_simp
                try go_bits
                first
                  | exact hK _ hS (Gr.refl _)
                  | exact hK _ (by repeat (first | (with_reducible exact Below.refl _ _) | (with_reducible assumption) | ((with_reducible refine Below.setCell ?_ ?_ _); rotate_left; · (first | exact Nat.le_refl _ | (simp; done) | (simp; omega) | omega)) | ((with_reducible refine Below.alloc ?_ ?_ _); rotate_left; · (first | exact Nat.le_refl _ | (simp; done) | (simp; omega) | omega)) | (with_reducible apply Below.drew) | (with_reducible apply below_drewN') | (refine Below.trans ?_ (Below.mono (by assumption) (by first | exact Nat.le_refl _ | (simp; done) | (simp; omega) | omega))) | exact Below.refl _ _ | assumption)) (by repeat (first | (with_reducible exact Below.refl _ _) | (with_reducible assumption) | ((with_reducible refine Below.setCell ?_ ?_ _); rotate_left; · (first | exact Nat.le_refl _ | (simp; done) | (simp; omega) | omega)) | ((with_reducible refine Below.alloc ?_ ?_ _); rotate_left; · (first | exact Nat.le_refl _ | (simp; done) | (simp; omega) | omega)) | (with_reducible apply Below.drew) | (with_reducible apply below_drewN') | (refine Below.trans ?_ (Below.mono (by assumption) (by first | exact Nat.le_refl _ | (simp; done) | (simp; omega) | omega))) | exact Below.refl _ _ | assumption))
              case ca16R10 => (first | (simp [Act.put]; done) | (simp [Act.put, *]; done))
              try dsimp only
              refine wpW_det (t' := ?ct17R10) 17 (by rfl) (by kernel_rfl) (NQ_free _) (by kernel_rfl) ?cw17R10 ?ch17R10 ?ca17R10 (Eq.refl _) ?cH17R10
              case cw17R10 => (go_simp; done)
              case ch17R10 =>
                intro ds w' hS K hK
                have hc := (bcell hS).1
                have hf := (bcell hS).2
                have hz := hS.size
                try simp at hz
                go_simp
                try go_bits
                first
                  | exact hK _ hS (Gr.refl _)
                  | exact hK _ (by repeat (first | (with_reducible exact Below.refl _ _) | (with_reducible assumption) | ((with_reducible refine Below.setCell ?_ ?_ _); rotate_left; · (first | exact Nat.le_refl _ | (simp; done) | (simp; omega) | omega)) | ((with_reducible refine Below.alloc ?_ ?_ _); rotate_left; · (first | exact Nat.le_refl _ | (simp; done) | (simp; omega) | omega)) | (with_reducible apply Below.drew) | (with_reducible apply below_drewN') | (refine Below.trans ?_ (Below.mono (by assumption) (by first | exact Nat.le_refl _ | (simp; done) | (simp; omega) | omega))) | exact Below.refl _ _ | assumption)) (by repeat (first | (with_reducible exact Below.refl _ _) | (with_reducible assumption) | ((with_reducible refine Below.setCell ?_ ?_ _); rotate_left; · (first | exact Nat.le_refl _ | (simp; done) | (simp; omega) | omega)) | ((with_reducible refine Below.alloc ?_ ?_ _); rotate_left; · (first | exact Nat.le_refl _ | (simp; done) | (simp; omega) | omega)) | (with_reducible apply Below.drew) | (with_reducible apply below_drewN') | (refine Below.trans ?_ (Below.mono (by assumption) (by first | exact Nat.le_refl _ | (simp; done) | (simp; omega) | omega))) | exact Below.refl _ _ | assumption))
              case ca17R10 => (first | (simp [Act.put]; done) | (simp [Act.put, *]; done))
              try dsimp only
              refine wpW_end (by kernel_rfl) ?_
              intro we hg hS
              unfold NQ
              dsimp only
              exact H.out _ _ _ _ _ _ _ _ _ _ _ _ _ _ _ _ we hS
        · refine wpOp_go (by rfl) (Eq.refl _) (by go_simp; done) ?_
          intro K hK
          refine wp_append_row _ (.tmp 57) (.tmp 59) rfl W.heap.size _ P A2 c2 B rfl own8 rfl (HP.out _ hS4) HN2.out hnP (Below.size hS4) ?_
          intro v' wa ho hgrow
          try simp only [Act.put]
          try simp only [List.setIfInBounds_toArray]
          have o0 := o0.kept hgrow (own_two' o0 own8 (by decide))
          have o1 := o1.kept hgrow (own_two' o1 own8 (by decide))
          have hLT : ∀ q, (Value.slice (some ⟨N8, 0, none⟩) 0 0).ownBlock = some q → W.heap.size ≤ q := fun q e => (own8.lt q e).1
          obtain ⟨DP, dP, rfl, _, _, _⟩ := own_row2 ho
          refine hK _ _ (Below.grown hS4 hgrow (Below.size hS4) hLT) ?_
          clear hK K own8 hgrow hLT
          have rP := ho
          refine wpW_branch [6] (by kernel_rfl) (by simp) ?_
          intro w5 hg5 hS5
          try have o0 := own_below o0 hg5
          try have o1 := own_below o1 hg5
          try have own8 := own_below own8 hg5
          try have rP := own_below rP hg5
          refine each_cons ?_ (each_nil)
          · refine wpOp_go (by rfl) (Eq.refl _) (by go_simp; done) ?_
            intro K hK
            go_simp
            try simp only [Act.put]
            refine hK _ _ hS5 ?_
            clear hK K
            refine wpW_branch [12] (by kernel_rfl) (by simp) ?_
            intro w6 hg6 hS6
            try have o0 := own_below o0 hg6
            try have o1 := own_below o1 hg6
            try have own8 := own_below own8 hg6
            try have rP := own_below rP hg6
            refine each_cons ?_ (each_nil)
            · refine wpOp_go (by rfl) (Eq.refl _) (by go_simp; done) ?_
              intro K hK
              go_simp
              try simp only [Act.put]
              obtain ⟨DP', dP', hvp, hrp, _, _⟩ := own_row2 rP
              have hip := Value.slice.inj hvp
              refine (checkPairs_any l0 l1 D0 D1 DP d0 d1 dP _ slack P _ (own_mk o0 (by omega) (HL0.out _ hS6).size) (own_mk o1 (by omega) (HL1.out _ hS6).size) (by rw [hip.1]; exact hrp) q0 q1 (Nat.le_refl _) hn0 hn1 hnP).mono ?_
              rintro e ws ⟨rfl, hBs⟩
              refine hK _ _ (Gr.trans hS6 hBs) ?_
              clear hK K o0 o1 rP hBs hvp hrp hip
              refine wpW_det (t' := ?ct13R11) 13 (by rfl) (by kernel_rfl) (NQ_free _) (by kernel_rfl) ?cw13R11 ?ch13R11 ?ca13R11 (Eq.refl _) ?cH13R11
              case cw13R11 => (go_simp; done)
              case ch13R11 =>
                intro ds w' hS K hK
                have hc := (bcell hS).1
                have hf := (bcell hS).2
                have hz := hS.size
                try simp at hz
                go_simp
                try go_bits
                first
                  | exact hK _ hS (Gr.refl _)
                  | exact hK _ (by repeat (first | (with_reducible exact Below.refl _ _) | (with_reducible assumption) | ((with_reducible refine Below.setCell ?_ ?_ _); rotate_left; · (first | exact Nat.le_refl _ | (simp; done) | (simp; omega) | omega)) | ((with_reducible refine Below.alloc ?_ ?_ _); rotate_left; · (first | exact Nat.le_refl _ | (simp; done) | (simp; omega) | omega)) | (with_reducible apply Below.drew) | (with_reducible apply below_drewN') | (refine Below.trans ?_ (Below.mono (by assumption) (by first | exact Nat.le_refl _ | (simp; done) | (simp; omega) | omega))) | exact Below.refl _ _ | assumption)) (by repeat (first | (with_reducible exact Below.refl _ _) | (with_reducible assumption) | ((with_reducible refine Below.setCell ?_ ?_ _); rotate_left; · (first | exact Nat.le_refl _ | (simp; done) | (simp; omega) | omega)) | ((with_reducible refine Below.alloc ?_ ?_ _); rotate_left; · (first | exact Nat.le_refl _ | (simp; done) | (simp; omega) | omega)) | (with_reducible apply Below.drew) | (with_reducible apply below_drewN') | (refine Below.trans ?_ (Below.mono (by assumption) (by first | exact Nat.le_refl _ | (simp; done) | (simp; omega) | omega))) | exact Below.refl _ _ | assumption))
              case ca13R11 => (first | (simp [Act.put]; done) | (simp [Act.put, *]; done))
              try dsimp only
              refine wpW_det (t' := ?ct14R11) 14 (by rfl) (by kernel_rfl) (NQ_free _) (by kernel_rfl) ?cw14R11 ?ch14R11 ?ca14R11 (Eq.refl _) ?cH14R11
              case cw14R11 => (go_simp; done)
              case ch14R11 =>
                intro ds w' hS K hK
                have hc := (bcell hS).1
                have hf := (bcell hS).2
                have hz := hS.size
                try simp at hz
                go_simp
                try go_bits
                first
                  | exact hK _ hS (Gr.refl _)
                  | exact hK _ (by repeat (first | (with_reducible exact Below.refl _ _) | (with_reducible assumption) | ((with_reducible refine Below.setCell ?_ ?_ _); rotate_left; · (first | exact Nat.le_refl _ | (simp; done) | (simp; omega) | omega)) | ((with_reducible refine Below.alloc ?_ ?_ _); rotate_left; · (first | exact Nat.le_refl _ | (simp; done) | (simp; omega) | omega)) | (with_reducible apply Below.drew) | (with_reducible apply below_drewN') | (refine Below.trans ?_ (Below.mono (by assumption) (by first | exact Nat.le_refl _ | (simp; done) | (simp; omega) | omega))) | exact Below.refl _ _ | assumption)) (by repeat (first | (with_reducible exact Below.refl _ _) | (with_reducible assumption) | ((with_reducible refine Below.setCell ?_ ?_ _); rotate_left; · (first | exact Nat.le_refl _ | (simp; done) | (simp; omega) | omega)) | ((with_reducible refine Below.alloc ?_ ?_ _); rotate_left; · (first | exact Nat.le_refl _ | (simp; done) | (simp; omega) | omega)) | (with_reducible apply Below.drew) | (with_reducible apply below_drewN') | (refine Below.trans ?_ (Below.mono (by assumption) (by first | exact Nat.le_refl _ | (simp; done) | (simp; omega) | omega))) | exact Below.refl _ _ | assumption))
              case ca14R11 => (first | (simp [Act.put]; done) | (simp [Act.put, *]; done))
              try dsimp only
              refine wpW_det (t' := ?ct15R11) 15 (by rfl) (by kernel_rfl) (NQ_free _) (by kernel_rfl) ?cw15R11 ?ch15R11 ?ca15R11 (Eq.refl _) ?cH15R11
              case cw15R11 => (go_simp; done)
              case ch15R11 =>
                intro ds w' hS K hK
                have hc := (bcell hS).1
                have hf := (bcell hS).2
                have hz := hS.size
                try simp at hz
                go_simp
                try go_bits
                first
                  | exact hK _ hS (Gr.refl _)
                  | exact hK _ (by repeat (first | (with_reducible exact Below.refl _ _) | (with_reducible assumption) | ((with_reducible refine Below.setCell ?_ ?_ _); rotate_left; · (first | exact Nat.le_refl _ | (simp; done) | (simp; omega) | omega)) | ((with_reducible refine Below.alloc ?_ ?_ _); rotate_left; · (first | exact Nat.le_refl _ | (simp; done) | (simp; omega) | omega)) | (with_reducible apply Below.drew) | (with_reducible apply below_drewN') | (refine Below.trans ?_ (Below.mono (by assumption) (by first | exact Nat.le_refl _ | (simp; done) | (simp; omega) | omega))) | exact Below.refl _ _ | assumption)) (by repeat (first | (with_reducible exact Below.refl _ _) | (with_reducible assumption) | ((with_reducible refine Below.setCell ?_ ?_ _); rotate_left; · (first | exact Nat.le_refl _ | (simp; done) | (simp; omega) | omega)) | ((with_reducible refine Below.alloc ?_ ?_ _); rotate_left; · (first | exact Nat.le_refl _ | (simp; done) | (simp; omega) | omega)) | (with_reducible apply Below.drew) | (with_reducible apply below_drewN') | (refine Below.trans ?_ (Below.mono (by assumption) (by first | exact Nat.le_refl _ | (simp; done) | (simp; omega) | omega))) | exact Below.refl _ _ | assumption))
              case ca15R11 => (first | (simp [Act.put]; done) | (simp [Act.put, *]; done))
              try dsimp only
              refine wpW_det (t' := ?ct16R11) 16 (by rfl) (by kernel_rfl) (NQ_free _) (by kernel_rfl) ?cw16R11 ?ch16R11 ?ca16R11 (Eq.refl _) ?cH16R11
              case cw16R11 => (go_simp; done)
              case ch16R11 =>
                intro ds w' hS K hK
                have hc := (bcell hS).1
                have hf := (bcell hS).2
                have hz := hS.size
                try simp at hz
                go_simp
                try go_bits
                first
                  | exact hK _ hS (Gr.refl _)
                  | exact hK _ (by repeat (first | (with_reducible exact Below.refl _ _) | (with_reducible assumption) | ((with_reducible refine Below.setCell ?_ ?_ _); rotate_left; · (first | exact Nat.le_refl _ | (simp; done) | (simp; omega) | omega)) | ((with_reducible refine Below.alloc ?_ ?_ _); rotate_left; · (first | exact Nat.le_refl _ | (simp; done) | (simp; omega) | omega)) | (with_reducible apply Below.drew) | (with_reducible apply below_drewN') | (refine Below.trans ?_ (Below.mono (by assumption) (by first | exact Nat.le_refl _ | (simp; done) | (simp; omega) | omega))) | exact Below.refl _ _ | assumption)) (by repeat (first | (with_reducible exact Below.refl _ _) | (with_reducible assumption) | ((with_reducible refine Below.setCell ?_ ?_ _); rotate_left; · (first | exact Nat.le_refl _ | (simp; done) | (simp; omega) | omega)) | ((with_reducible refine Below.alloc ?_ ?_ _); rotate_left; · (first | exact Nat.le_refl _ | (simp; done) | (simp; omega) | omega)) | (with_reducible apply Below.drew) | (with_reducible apply below_drewN') | (refine Below.trans ?_ (Below.mono (by assumption) (by first | exact Nat.le_refl _ | (simp; done) | (simp; omega) | omega))) | exact Below.refl _ _ | assumption))
              case ca16R11 => (first | (simp [Act.put]; done) | (simp [Act.put, *]; done))
              try dsimp only
              refine wpW_det (t' := ?ct17R11) 17 (by rfl) (by kernel_rfl) (NQ_free _) (by kernel_rfl) ?cw17R11 ?ch17R11 ?ca17R11 (Eq.refl _) ?cH17R11
              case cw17R11 => (go_simp; done)
              case ch17R11 =>
                intro ds w' hS K hK
                have hc := (bcell hS).1
                have hf := (bcell hS).2
                have hz := hS.size
                try simp at hz
                go_simp
                try go_bits
                first
                  | exact hK _ hS (Gr.refl _)
                  | exact hK _ (by repeat (first | (with_reducible exact Below.refl _ _) | (with_reducible assumption) | ((with_reducible refine Below.setCell ?_ ?_ _); rotate_left; · (first | exact Nat.le_refl _ | (simp; done) | (simp; omega) | omega)) | ((with_reducible refine Below.alloc ?_ ?_ _); rotate_left; · (first | exact Nat.le_refl _ | (simp; done) | (simp; omega) | omega)) | (with_reducible apply Below.drew) | (with_reducible apply below_drewN') | (refine Below.trans ?_ (Below.mono (by assumption) (by first | exact Nat.le_refl _ | (simp; done) | (simp; omega) | omega))) | exact Below.refl _ _ | assumption)) (by repeat (first | (with_reducible exact Below.refl _ _) | (with_reducible assumption) | ((with_reducible refine Below.setCell ?_ ?_ _); rotate_left; · (first | exact Nat.le_refl _ | (simp; done) | (simp; omega) | omega)) | ((with_reducible refine Below.alloc ?_ ?_ _); rotate_left; · (first | exact Nat.le_refl _ | (simp; done) | (simp; omega) | omega)) | (with_reducible apply Below.drew) | (with_reducible apply below_drewN') | (refine Below.trans ?_ (Below.mono (by assumption) (by first | exact Nat.le_refl _ | (simp; done) | (simp; omega) | omega))) | exact Below.refl _ _ | assumption))
              case ca17R11 => (first | (simp [Act.put]; done) | (simp [Act.put, *]; done))
              try dsimp only
              refine wpW_end (by kernel_rfl) ?_
              intro we hg hS
              unfold NQ
              dsimp only
              exact H.out _ _ _ _ _ _ _ _ _ _ _ _ _ _ _ _ we hS
  · refine wpOp_go (by rfl) (Eq.refl _) (by go_simp; done) ?_
    intro K hK
    go_simp
    try simp only [Act.put]
    have own8 : (w1.alloc (.cells #[] 25)).ownsRow W.heap.size 25 2 (.slice (some ⟨w1.heap.size, 0, none⟩) 0 0) 0 [] := World.ownsRow_made w1 #[] 0 (Below.size hS1) (by simp [maxLen]) (by simp)
    have hgA : Gr w1 (w1.alloc (.cells #[] 25)) := (Below.refl _ _).alloc (Nat.le_refl _) _
    try have o0 := own_below o0 hgA
    try have o1 := own_below o1 hgA
    obtain ⟨N8, hN8⟩ : ∃ N, w1.heap.size = N := ⟨_, rfl⟩
    rw [hN8] at own8 ⊢
    refine hK _ _ (Gr.trans hS1 hgA) ?_
    clear hK K hgA hN8
    refine wpW_branch [2] (by kernel_rfl) (by simp) ?_
    intro w2 hg2 hS2
    try have o0 := own_below o0 hg2
    try have o1 := own_below o1 hg2
    try have own8 := own_below own8 hg2
    try have rP := own_below rP hg2
    refine each_cons ?_ (each_nil)
    · refine wpOp_go (by rfl) (Eq.refl _) (by go_simp; done) ?_
      intro K hK
      go_simp
      try simp only [Act.put]
      refine (copyMarks_any l0 A0 c0 B _ (HL0.out _ hS2) hc0 (Nat.le_trans hB (Below.size hS2)) HN0.out).mono ?_
      rintro e ws ⟨v, rfl, o0, hBs⟩
      obtain ⟨D0, d0, rfl, _, q0⟩ := copied o0 (by omega) (HL0.out _ (Gr.trans hS2 hBs)).size
      try have own8 := own_below own8 hBs
      refine hK _ _ (Gr.trans hS2 hBs) ?_
      clear hK K hBs
      refine wpW_branch [5] (by kernel_rfl) (by simp) ?_
      intro w3 hg3 hS3
      try have o0 := own_below o0 hg3
      try have o1 := own_below o1 hg3
      try have own8 := own_below own8 hg3
      try have rP := own_below rP hg3
      refine each_cons ?_ (each_nil)
      · refine wpOp_go (by rfl) (Eq.refl _) (by go_simp; done) ?_
        intro K hK
        go_simp
        try simp only [Act.put]
        refine (copyMarks_any l1 A1 c1 B _ (HL1.out _ hS3) hc1 (Nat.le_trans hB (Below.size hS3)) HN1.out).mono ?_
        rintro e ws ⟨v, rfl, o1, hBs⟩
        obtain ⟨D1, d1, rfl, _, q1⟩ := copied o1 (by omega) (HL1.out _ (Gr.trans hS3 hBs)).size
        have o0 := own_below o0 hBs
        try have own8 := own_below own8 hBs
        refine hK _ _ (Gr.trans hS3 hBs) ?_
        clear hK K hBs
        refine wpW_branch [6, 11] (by kernel_rfl) (by simp) ?_
        intro w4 hg4 hS4
        try have o0 := own_below o0 hg4
        try have o1 := own_below o1 hg4
        try have own8 := own_below own8 hg4
        try have rP := own_below rP hg4
        refine each_cons ?_ (each_cons ?_ (each_nil))
        · refine wpOp_go (by rfl) (Eq.refl _) (by go_simp; done) ?_
          intro K hK
          go_simp
          try simp only [Act.put]
          refine hK _ _ hS4 ?_
          clear hK K
          refine wpW_branch [11] (by kernel_rfl) (by simp) ?_
          intro w5 hg5 hS5
          try have o0 := own_below o0 hg5
          try have o1 := own_below o1 hg5
          try have own8 := own_below own8 hg5
          try have rP := own_below rP hg5
          refine each_cons ?_ (each_nil)
          · refine wpOp_go (by rfl) (Eq.refl _) (by go_simp; done) ?_
            intro K hK
            refine wp_append_row _ (.tmp 57) (.tmp 59) rfl W.heap.size _ P A2 c2 B rfl own8 rfl (HP.out _ hS5) HN2.out hnP (Below.size hS5) ?_
            intro v' wa ho hgrow
            try simp only [Act.put]
            try simp only [List.setIfInBounds_toArray]
            have o0 := o0.kept hgrow (own_two' o0 own8 (by decide))
            have o1 := o1.kept hgrow (own_two' o1 own8 (by decide))
            have hLT : ∀ q, (Value.slice (some ⟨N8, 0, none⟩) 0 0).ownBlock = some q → W.heap.size ≤ q := fun q e => (own8.lt q e).1
            obtain ⟨DP, dP, rfl, _, _, _⟩ := own_row2 ho
            refine hK _ _ (Below.grown hS5 hgrow (Below.size hS5) hLT) ?_
            clear hK K own8 hgrow hLT
            have rP := ho
            refine wpW_branch [12] (by kernel_rfl) (by simp) ?_
            intro w6 hg6 hS6
            try have o0 := own_below o0 hg6
            try have o1 := own_below o1 hg6
            try have own8 := own_below own8 hg6
            try have rP := own_below rP hg6
            refine each_cons ?_ (each_nil)
            · refine wpOp_go (by rfl) (Eq.refl _) (by go_simp; done) ?_
              intro K hK
              go_simp
              try simp only [Act.put]
              obtain ⟨DP', dP', hvp, hrp, _, _⟩ := own_row2 rP
              have hip := Value.slice.inj hvp
              refine (checkPairs_any l0 l1 D0 D1 DP d0 d1 dP _ slack P _ (own_mk o0 (by omega) (HL0.out _ hS6).size) (own_mk o1 (by omega) (HL1.out _ hS6).size) (by rw [hip.1]; exact hrp) q0 q1 (Nat.le_refl _) hn0 hn1 hnP).mono ?_
              rintro e ws ⟨rfl, hBs⟩
              refine hK _ _ (Gr.trans hS6 hBs) ?_
              clear hK K o0 o1 rP hBs hvp hrp hip
              refine wpW_det (t' := ?ct13R12) 13 (by rfl) (by kernel_rfl) (NQ_free _) (by kernel_rfl) ?cw13R12 ?ch13R12 ?ca13R12 (Eq.refl _) ?cH13R12
              case cw13R12 => (go_simp; done)
              case ch13R12 =>
                intro ds w' hS K hK
                have hc := (bcell hS).1
                have hf := (bcell hS).2
                have hz := hS.size
                try simp at hz
                go_simp
                try go_bits
                first
                  | exact hK _ hS (Gr.refl _)
                  | exact hK _ (by repeat (first | (with_reducible exact Below.refl _ _) | (with_reducible assumption) | ((with_reducible refine Below.setCell ?_ ?_ _); rotate_left; · (first | exact Nat.le_refl _ | (simp; done) | (simp; omega) | omega)) | ((with_reducible refine Below.alloc ?_ ?_ _); rotate_left; · (first | exact Nat.le_refl _ | (simp; done) | (simp; omega) | omega)) | (with_reducible apply Below.drew) | (with_reducible apply below_drewN') | (refine Below.trans ?_ (Below.mono (by assumption) (by first | exact Nat.le_refl _ | (simp; done) | (simp; omega) | omega))) | exact Below.refl _ _ | assumption)) (by repeat (first | (with_reducible exact Below.refl _ _) | (with_reducible assumption) | ((with_reducible refine Below.setCell ?_ ?_ _); rotate_left; · (first | exact Nat.le_refl _ | (simp; done) | (simp; omega) | omega)) | ((with_reducible refine Below.alloc ?_ ?_ _); rotate_left; · (first | exact Nat.le_refl _ | (simp; done) | (simp; omega) | omega)) | (with_reducible apply Below.drew) | (with_reducible apply below_drewN') | (refine Below.trans ?_ (Below.mono (by assumption) (by first | exact Nat.le_refl _ | (simp; done) | (simp; omega) | omega))) | exact Below.refl _ _ | assumption))
              case ca13R12 => (first | (simp [Act.put]; done) | (simp [Act.put, *]; done))
              try dsimp only
              refine wpW_det (t' := ?ct14R12) 14 (by rfl) (by kernel_rfl) (NQ_free _) (by kernel_rfl) ?cw14R12 ?ch14R12 ?ca14R12 (Eq.refl _) ?cH14R12
              case cw14R12 => (go_simp; done)
              case ch14R12 =>
                intro ds w' hS K hK
                have hc := (bcell hS).1
                have hf := (bcell hS).2
                have hz := hS.size
                try simp at hz
                go_simp
                try go_bits
                first
                  | exact hK _ hS (Gr.refl _)
                  | exact hK _ (by repeat (first | (with_reducible exact Below.refl _ _) | (with_reducible assumption) | ((with_reducible refine Below.setCell ?_ ?_ _); rotate_left; · (first | exact Nat.le_refl _ | (simp; done) | (simp; omega) | omega)) | ((with_reducible refine Below.alloc ?_ ?_ _); rotate_left; · (first | exact Nat.le_refl _ | (simp; done) | (simp; omega) | omega)) | (with_reducible apply Below.drew) | (with_reducible apply below_drewN') | (refine Below.trans ?_ (Below.mono (by assumption) (by first | exact Nat.le_refl _ | (simp; done) | (simp; omega) | omega))) | exact Below.refl _ _ | assumption)) (by repeat (first | (with_reducible exact Below.refl _ _) | (with_reducible assumption) | ((with_reducible refine Below.setCell ?_ ?_ _); rotate_left; · (first | exact Nat.le_refl _ | (simp; done) | (simp; omega) | omega)) | ((with_reducible refine Below.alloc ?_ ?_ _); rotate_left; · (first | exact Nat.le_refl _ | (simp; done) | (simp; omega) | omega)) | (with_reducible apply Below.drew) | (with_reducible apply below_drewN') | (refine Below.trans ?_ (Below.mono (by assumption) (by first | exact Nat.le_refl _ | (simp; done) | (simp; omega) | omega))) | exact Below.refl _ _ | assumption))
              case ca14R12 => (first | (simp [Act.put]; done) | (simp [Act.put, *]; done))
              try dsimp only
              refine wpW_det (t' := ?ct15R12) 15 (by rfl) (by kernel_rfl) (NQ_free _) (by kernel_rfl) ?cw15R12 ?ch15R12 ?ca15R12 (Eq.refl _) ?cH15R12
              case cw15R12 => (go_simp; done)
              case ch15R12 =>
                intro ds w' hS K hK
                have hc := (bcell hS).1
                have hf := (bcell hS).2
                have hz := hS.size
                try simp at hz
                go_simp
                try go_bits
                first
                  | exact hK _ hS (Gr.refl _)
                  | exact hK _ (by repeat (first | (with_reducible exact Below.refl _ _) | (with_reducible assumption) | ((with_reducible refine Below.setCell ?_ ?_ _); rotate_left; · (first | exact Nat.le_refl _ | (simp; done) | (simp; omega) | omega)) | ((with_reducible refine Below.alloc ?_ ?_ _); rotate_left; · (first | exact Nat.le_refl _ | (simp; done) | (simp; omega) | omega)) | (with_reducible apply Below.drew) | (with_reducible apply below_drewN') | (refine Below.trans ?_ (Below.mono (by assumption) (by first | exact Nat.le_refl _ | (simp; done) | (simp; omega) | omega))) | exact Below.refl _ _ | assumption)) (by repeat (first | (with_reducible exact Below.refl _ _) | (with_reducible assumption) | ((with_reducible refine Below.setCell ?_ ?_ _); rotate_left; · (first | exact Nat.le_refl _ | (simp; done) | (simp; omega) | omega)) | ((with_reducible refine Below.alloc ?_ ?_ _); rotate_left; · (first | exact Nat.le_refl _ | (simp; done) | (simp; omega) | omega)) | (with_reducible apply Below.drew) | (with_reducible apply below_drewN') | (refine Below.trans ?_ (Below.mono (by assumption) (by first | exact Nat.le_refl _ | (simp; done) | (simp; omega) | omega))) | exact Below.refl _ _ | assumption))
              case ca15R12 => (first | (simp [Act.put]; done) | (simp [Act.put, *]; done))
              try dsimp only
              refine wpW_det (t' := ?ct16R12) 16 (by rfl) (by kernel_rfl) (NQ_free _) (by kernel_rfl) ?cw16R12 ?ch16R12 ?ca16R12 (Eq.refl _) ?cH16R12
              case cw16R12 => (go_simp; done)
              case ch16R12 =>
                intro ds w' hS K hK
                have hc := (bcell hS).1
                have hf := (bcell hS).2
                have hz := hS.size
                try simp at hz
                go_simp
                try go_bits
                first
                  | exact hK _ hS (Gr.refl _)
                  | exact hK _ (by repeat (first | (with_reducible exact Below.refl _ _) | (with_reducible assumption) | ((with_reducible refine Below.setCell ?_ ?_ _); rotate_left; · (first | exact Nat.le_refl _ | (simp; done) | (simp; omega) | omega)) | ((with_reducible refine Below.alloc ?_ ?_ _); rotate_left; · (first | exact Nat.le_refl _ | (simp; done) | (simp; omega) | omega)) | (with_reducible apply Below.drew) | (with_reducible apply below_drewN') | (refine Below.trans ?_ (Below.mono (by assumption) (by first | exact Nat.le_refl _ | (simp; done) | (simp; omega) | omega))) | exact Below.refl _ _ | assumption)) (by repeat (first | (with_reducible exact Below.refl _ _) | (with_reducible assumption) | ((with_reducible refine Below.setCell ?_ ?_ _); rotate_left; · (first | exact Nat.le_refl _ | (simp; done) | (simp; omega) | omega)) | ((with_reducible refine Below.alloc ?_ ?_ _); rotate_left; · (first | exact Nat.le_refl _ | (simp; done) | (simp; omega) | omega)) | (with_reducible apply Below.drew) | (with_reducible apply below_drewN') | (refine Below.trans ?_ (Below.mono (by assumption) (by first | exact Nat.le_refl _ | (simp; done) | (simp; omega) | omega))) | exact Below.refl _ _ | assumption))
              case ca16R12 => (first | (simp [Act.put]; done) | (simp [Act.put, *]; done))
              try dsimp only
              refine wpW_det (t' := ?ct17R12) 17 (by rfl) (by kernel_rfl) (NQ_free _) (by kernel_rfl) ?cw17R12 ?ch17R12 ?ca17R12 (Eq.refl _) ?cH17R12
              case cw17R12 => (go_simp; done)
              case ch17R12 =>
                intro ds w' hS K hK
                have hc := (bcell hS).1
                have hf := (bcell hS).2
                have hz := hS.size
                try simp at hz
                go_simp
                try go_bits
                first
                  | exact hK _ hS (Gr.refl _)
                  | exact hK _ (by repeat (first | (with_reducible exact Below.refl _ _) | (with_reducible assumption) | ((with_reducible refine Below.setCell ?_ ?_ _); rotate_left; · (first | exact Nat.le_refl _ | (simp; done) | (simp; omega) | omega)) | ((with_reducible refine Below.alloc ?_ ?_ _); rotate_left; · (first | exact Nat.le_refl _ | (simp; done) | (simp; omega) | omega)) | (with_reducible apply Below.drew) | (with_reducible apply below_drewN') | (refine Below.trans ?_ (Below.mono (by assumption) (by first | exact Nat.le_refl _ | (simp; done) | (simp; omega) | omega))) | exact Below.refl _ _ | assumption)) (by repeat (first | (with_reducible exact Below.refl _ _) | (with_reducible assumption) | ((with_reducible refine Below.setCell ?_ ?_ _); rotate_left; · (first | exact Nat.le_refl _ | (simp; done) | (simp; omega) | omega)) | ((with_reducible refine Below.alloc ?_ ?_ _); rotate_left; · (first | exact Nat.le_refl _ | (simp; done) | (simp; omega) | omega)) | (with_reducible apply Below.drew) | (with_reducible apply below_drewN') | (refine Below.trans ?_ (Below.mono (by assumption) (by first | exact Nat.le_refl _ | (simp; done) | (simp; omega) | omega))) | exact Below.refl _ _ | assumption))
              case ca17R12 => (first | (simp [Act.put]; done) | (simp [Act.put, *]; done))
              try dsimp only
              refine wpW_end (by kernel_rfl) ?_
              intro we hg hS
              unfold NQ
              dsimp only
              exact H.out _ _ _ _ _ _ _ _ _ _ _ _ _ _ _ _ we hS
        · refine wpOp_go (by rfl) (Eq.refl _) (by go_simp; done) ?_
          intro K hK
          refine wp_append_row _ (.tmp 57) (.tmp 59) rfl W.heap.size _ P A2 c2 B rfl own8 rfl (HP.out _ hS4) HN2.out hnP (Below.size hS4) ?_
          intro v' wa ho hgrow
          try simp only [Act.put]
          try simp only [List.setIfInBounds_toArray]
          have o0 := o0.kept hgrow (own_two' o0 own8 (by decide))
          have o1 := o1.kept hgrow (own_two' o1 own8 (by decide))
          have hLT : ∀ q, (Value.slice (some ⟨N8, 0, none⟩) 0 0).ownBlock = some q → W.heap.size ≤ q := fun q e => (own8.lt q e).1
          obtain ⟨DP, dP, rfl, _, _, _⟩ := own_row2 ho
          refine hK _ _ (Below.grown hS4 hgrow (Below.size hS4) hLT) ?_
          clear hK K own8 hgrow hLT
          have rP := ho
          refine wpW_branch [6] (by kernel_rfl) (by simp) ?_
          intro w5 hg5 hS5
          try have o0 := own_below o0 hg5
          try have o1 := own_below o1 hg5
          try have own8 := own_below own8 hg5
          try have rP := own_below rP hg5
          refine each_cons ?_ (each_nil)
          · refine wpOp_go (by rfl) (Eq.refl _) (by go_simp; done) ?_
            intro K hK
            go_simp
            try simp only [Act.put]
            refine hK _ _ hS5 ?_
            clear hK K
            refine wpW_branch [12] (by kernel_rfl) (by simp) ?_
            intro w6 hg6 hS6
            try have o0 := own_below o0 hg6
            try have o1 := own_below o1 hg6
            try have own8 := own_below own8 hg6
            try have rP := own_below rP hg6
            refine each_cons ?_ (each_nil)
            · refine wpOp_go (by rfl) (Eq.refl _) (by go_simp; done) ?_
              intro K hK
              go_simp
              try simp only [Act.put]
              obtain ⟨DP', dP', hvp, hrp, _, _⟩ := own_row2 rP
              have hip := Value.slice.inj hvp
              refine (checkPairs_any l0 l1 D0 D1 DP d0 d1 dP _ slack P _ (own_mk o0 (by omega) (HL0.out _ hS6).size) (own_mk o1 (by omega) (HL1.out _ hS6).size) (by rw [hip.1]; exact hrp) q0 q1 (Nat.le_refl _) hn0 hn1 hnP).mono ?_
              rintro e ws ⟨rfl, hBs⟩
              refine hK _ _ (Gr.trans hS6 hBs) ?_
              clear hK K o0 o1 rP hBs hvp hrp hip
              refine wpW_det (t' := ?ct13R13) 13 (by rfl) (by kernel_rfl) (NQ_free _) (by kernel_rfl) ?cw13R13 ?ch13R13 ?ca13R13 (Eq.refl _) ?cH13R13
              case cw13R13 => (go_simp; done)
              case ch13R13 =>
                intro ds w' hS K hK
                have hc := (bcell hS).1
                have hf := (bcell hS).2
                have hz := hS.size
                try simp at hz
                go_simp
                try go_bits
                first
                  | exact hK _ hS (Gr.refl _)
                  | exact hK _ (by repeat (first | (with_reducible exact Below.refl _ _) | (with_reducible assumption) | ((with_reducible refine Below.setCell ?_ ?_ _); rotate_left; · (first | exact Nat.le_refl _ | (simp; done) | (simp; omega) | omega)) | ((with_reducible refine Below.alloc ?_ ?_ _); rotate_left; · (first | exact Nat.le_refl _ | (simp; done) | (simp; omega) | omega)) | (with_reducible apply Below.drew) | (with_reducible apply below_drewN') | (refine Below.trans ?_ (Below.mono (by assumption) (by first | exact Nat.le_refl _ | (simp; done) | (simp; omega) | omega))) | exact Below.refl _ _ | assumption)) (by repeat (first | (with_reducible exact Below.refl _ _) | (with_reducible assumption) | ((with_reducible refine Below.setCell ?_ ?_ _); rotate_left; · (first | exact Nat.le_refl _ | (simp; done) | (simp; omega) | omega)) | ((with_reducible refine Below.alloc ?_ ?_ _); rotate_left; · (first | exact Nat.le_refl _ | (simp; done) | (simp; omega) | omega)) | (with_reducible apply Below.drew) | (with_reducible apply below_drewN') | (refine Below.trans ?_ (Below.mono (by assumption) (by first | exact Nat.le_refl _ | (simp; done) | (simp; omega) | omega))) | exact Below.refl _ _ | assumption))
              case ca13R13 => (first | (simp [Act.put]; done) | (simp [Act.put, *]; done))
              try dsimp only
              refine wpW_det (t' := ?ct14R13) 14 (by rfl) (by kernel_rfl) (NQ_free _) (by kernel_rfl) ?cw14R13 ?ch14R13 ?ca14R13 (Eq.refl _) ?cH14R13
              case cw14R13 => (go_simp; done)
              case ch14R13 =>
                intro ds w' hS K hK
                have hc := (bcell hS).1
                have hf := (bcell hS).2
                have hz := hS.size
                try simp at hz
                go_simp
                try go_bits
                first
                  | exact hK _ hS (Gr.refl _)
                  | exact hK _ (by repeat (first | (with_reducible exact Below.refl _ _) | (with_reducible assumption) | ((with_reducible refine Below.setCell ?_ ?_ _); rotate_left; · (first | exact Nat.le_refl _ | (simp; done) | (simp; omega) | omega)) | ((with_reducible refine Below.alloc ?_ ?_ _); rotate_left; · (first | exact Nat.le_refl _ | (simp; done) | (simp; omega) | omega)) | (with_reducible apply Below.drew) | (with_reducible apply below_drewN') | (refine Below.trans ?_ (Below.mono (by assumption) (by first | exact Nat.le_refl _ | (simp; done) | (simp; omega) | omega))) | exact Below.refl _ _ | assumption)) (by repeat (first | (with_reducible exact Below.refl _ _) | (with_reducible assumption) | ((with_reducible refine Below.setCell ?_ ?_ _); rotate_left; · (first | exact Nat.le_refl _ | (simp; done) | (simp; omega) | omega)) | ((with_reducible refine Below.alloc ?_ ?_ _); rotate_left; · (first | exact Nat.le_refl _ | (simp; done) | (simp; omega) | omega)) | (with_reducible apply Below.drew) | (with_reducible apply below_drewN') | (refine Below.trans ?_ (Below.mono (by assumption) (by first | exact Nat.le_refl _ | (simp; done) | (simp; omega) | omega))) | exact Below.refl _ _ | assumption))
              case ca14R13 => (first | (simp [Act.put]; done) | (simp [Act.put, *]; done))
              try dsimp only
              refine wpW_det (t' := ?ct15R13) 15 (by rfl) (by kernel_rfl) (NQ_free _) (by kernel_rfl) ?cw15R13 ?ch15R13 ?ca15R13 (Eq.refl _) ?cH15R13
              case cw15R13 => (go_simp; done)
              case ch15R13 =>
                intro ds w' hS K hK
                have hc := (bcell hS).1
                have hf := (bcell hS).2
                have hz := hS.size
                try simp at hz
                go_simp
                try go_bits
                first
                  | exact hK _ hS (Gr.refl _)
                  | exact hK _ (by repeat (first | (with_reducible exact Below.refl _ _) | (with_reducible assumption) | ((with_reducible refine Below.setCell ?_ ?_ _); rotate_left; · (first | exact Nat.le_refl _ | (simp; done) | (simp; omega) | omega)) | ((with_reducible refine Below.alloc ?_ ?_ _); rotate_left; · (first | exact Nat.le_refl _ | (simp; done) | (simp; omega) | omega)) | (with_reducible apply Below.drew) | (with_reducible apply below_drewN') | (refine Below.trans ?_ (Below.mono (by assumption) (by first | exact Nat.le_refl _ | (simp; done) | (simp; omega) | omega))) | exact Below.refl _ _ | assumption)) (by repeat (first | (with_reducible exact Below.refl _ _) | (with_reducible assumption) | ((with_reducible refine Below.setCell ?_ ?_ _); rotate_left; · (first | exact Nat.le_refl _ | (simp; done) | (simp; omega) | omega)) | ((with_reducible refine Below.alloc ?_ ?_ _); rotate_left; · (first | exact Nat.le_refl _ | (simp; done) | (simp; omega) | omega)) | (with_reducible apply Below.drew) | (with_reducible apply below_drewN') | (refine Below.trans ?_ (Below.mono (by assumption) (by first | exact Nat.le_refl _ | (simp; done) | (simp; omega) | omega))) | exact Below.refl _ _ | assumption))
              case ca15R13 => (first | (simp [Act.put]; done) | (simp [Act.put, *]; done))
              try dsimp only
              refine wpW_det (t' := ?ct16R13) 16 (by rfl) (by kernel_rfl) (NQ_free _) (by kernel_rfl) ?cw16R13 ?ch16R13 ?ca16R13 (Eq.refl _) ?cH16R13
              case cw16R13 => (go_simp; done)
              case ch16R13 =>
                intro ds w' hS K hK
                have hc := (bcell hS).1
                have hf := (bcell hS).2
                have hz := hS.size
                try simp at hz
                go_simp
                try go_bits
                first
                  | exact hK _ hS (Gr.refl _)
                  | exact hK _ (by repeat (first | (with_reducible exact Below.refl _ _) | (with_reducible assumption) | ((with_reducible refine Below.setCell ?_ ?_ _); rotate_left; · (first | exact Nat.le_refl _ | (simp; done) | (simp; omega) | omega)) | ((with_reducible refine Below.alloc ?_ ?_ _); rotate_left; · (first | exact Nat.le_refl _ | (simp; done) | (simp; omega) | omega)) | (with_reducible apply Below.drew) | (with_reducible apply below_drewN') | (refine Below.trans ?_ (Below.mono (by assumption) (by first | exact Nat.le_refl _ | (simp; done) | (simp; omega) | omega))) | exact Below.refl _ _ | assumption)) (by repeat (first | (with_reducible exact Below.refl _ _) | (with_reducible assumption) | ((with_reducible refine Below.setCell ?_ ?_ _); rotate_left; · (first | exact Nat.le_refl _ | (simp; done) | (simp; omega) | omega)) | ((with_reducible refine Below.alloc ?_ ?_ _); rotate_left; · (first | exact Nat.le_refl _ | (simp; done) | (simp; omega) | omega)) | (with_reducible apply Below.drew) | (with_reducible apply below_drewN') | (refine Below.trans ?_ (Below.mono (by assumption) (by first | exact Nat.le_refl _ | (simp; done) | (simp; omega) | omega))) | exact Below.refl _ _ | assumption))
              case ca16R13 => (first | (simp [Act.put]; done) | (simp [Act.put, *]; done))
              try dsimp only
              refine wpW_det (t' := ?ct17R13) 17 (by rfl) (by kernel_rfl) (NQ_free _) (by kernel_rfl) ?cw17R13 ?ch17R13 ?ca17R13 (Eq.refl _) ?cH17R13
              case cw17R13 => (go_simp; done)
              case ch17R13 =>
                intro ds w' hS K hK
                have hc := (bcell hS).1
                have hf := (bcell hS).2
                have hz := hS.size
                try simp at hz
                go_simp
                try go_bits
                first
                  | exact hK _ hS (Gr.refl _)
                  | exact hK _ (by repeat (first | (with_reducible exact Below.refl _ _) | (with_reducible assumption) | ((with_reducible refine Below.setCell ?_ ?_ _); rotate_left; · (first | exact Nat.le_refl _ | (simp; done) | (simp; omega) | omega)) | ((with_reducible refine Below.alloc ?_ ?_ _); rotate_left; · (first | exact Nat.le_refl _ | (simp; done) | (simp; omega) | omega)) | (with_reducible apply Below.drew) | (with_reducible apply below_drewN') | (refine Below.trans ?_ (Below.mono (by assumption) (by first | exact Nat.le_refl _ | (simp; done) | (simp; omega) | omega))) | exact Below.refl _ _ | assumption)) (by repeat (first | (with_reducible exact Below.refl _ _) | (with_reducible assumption) | ((with_reducible refine Below.setCell ?_ ?_ _); rotate_left; · (first | exact Nat.le_refl _ | (simp; done) | (simp; omega) | omega)) | ((with_reducible refine Below.alloc ?_ ?_ _); rotate_left; · (first | exact Nat.le_refl _ | (simp; done) | (simp; omega) | omega)) | (with_reducible apply Below.drew) | (with_reducible apply below_drewN') | (refine Below.trans ?_ (Below.mono (by assumption) (by first | exact Nat.le_refl _ | (simp; done) | (simp; omega) | omega))) | exact Below.refl _ _ | assumption))
              case ca17R13 => (first | (simp [Act.put]; done) | (simp [Act.put, *]; done))
              try dsimp only
              refine wpW_end (by kernel_rfl) ?_
              intro we hg hS
              unfold NQ
              dsimp only
              exact H.out _ _ _ _ _ _ _ _ _ _ _ _ _ _ _ _ we hS
end Go.Proofs.YtidgeagpgllkeaaGreat
