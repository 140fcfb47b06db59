/- CoverMirrors: the regions that store. -/
import Derived.Test.YtfbnpfhnffahdaaGreatDoorCxM1
namespace Go.Proofs.YtfbnpfhnffahdaaGreatDoor
open Go.RowKit

theorem Made.cells {w : World} {base : Nat} {j : Jo} {face : Int} {sn : ByteArray} {s : Su} {p q g c : Nat} {fs : List (ByteArray × Fc)} (h : Made w base j face sn s p q g c fs) {k : Nat} (hk : k < fs.length) :
    w.cell? ⟨g, k * 5 + 1, none⟩ = some (.int .i64 fs[k].2.fx) ∧ w.cell? ⟨g, k * 5 + 2, none⟩ = some (.int .i64 fs[k].2.fz) ∧ w.cell? ⟨g, k * 5 + 3, none⟩ = some (.int .i64 fs[k].2.tx) ∧ w.cell? ⟨g, k * 5 + 4, none⟩ = some (.int .i64 fs[k].2.tz) ∧ g < w.heap.size ∧ ∀ i, w.frozen? ⟨g, i, none⟩ = false := by
  obtain ⟨cs, h3, h4⟩ := h.faces
  obtain ⟨g0, g1, g2, g3, g4⟩ := fcsC_get fs k fs[k] (List.getElem?_eq_getElem hk)
  exact ⟨(h3.cell _).trans (h4 _ _ g1), (h3.cell _).trans (h4 _ _ g2), (h3.cell _).trans (h4 _ _ g3), (h3.cell _).trans (h4 _ _ g4), h3.lt, h3.frozen⟩
theorem Made.grown {w w' : World} {base : Nat} {j : Jo} {face : Int} {sn : ByteArray} {s : Su} {p q g c : Nat} {fs : List (ByteArray × Fc)} (h : Made w base j face sn s p q g c fs) {g' : Nat} {cs' : Array Value} (hg' : Blk w g' 57 cs') (hg : g ≠ g') (hb : w.grownBy w' (some g')) : Made w' base j face sn s p q g c fs := by
  obtain ⟨cs, h3, h4⟩ := h.faces
  have n1 : p ≠ g' := h.joint.ne_ hg' (by decide)
  have n2 : q ≠ g' := h.ask.ne_ hg' (by decide)
  exact ⟨h.joint.grown hb (by simpa using n1), h.ask.grown hb (by simpa using n2), ⟨_, h3.grown hb (by simpa using hg), h4⟩, h.p, h.q, h.g, h.len, h.cap, h.max⟩
/-- One number of a face is stored anew. -/
theorem Pre.set1 {cs : Array Value} {fs : List (ByteArray × Fc)} (h : Pre cs fs) {k : Nat} (hk : k < fs.length) (o : Nat) (x : Int) {f : Fc} (ho : (fcsC [(fs[k].1, f)]) = (fcsC [fs[k]]).set o (.int .i64 x) ∧ o < 5) :
    Pre (cs.setIfInBounds (k * 5 + o) (.int .i64 x)) (fs.set k (fs[k].1, f)) := by
  intro j u hu
  have hs := h.size
  have hkk : k * 5 + 5 ≤ cs.size := by
    have : (k + 1) * 5 ≤ fs.length * 5 := Nat.mul_le_mul_right _ hk
    omega
  rw [fcsC_set _ _ _ _ hk] at hu
  rw [cells_in _ _ _ _ (by omega)]
  have hold : fs.set k fs[k] = fs := List.set_getElem_self hk
  by_cases c : j / 5 = k
  · rw [if_pos c, ho.1, List.getElem?_set] at hu
    by_cases d : j = k * 5 + o
    · rw [if_pos d]
      rw [if_pos (by omega), if_pos (by show _ < 5; omega)] at hu
      exact hu
    · rw [if_neg d]
      rw [if_neg (by omega)] at hu
      refine h _ _ ?_
      rw [← hold, fcsC_set _ _ _ _ hk, if_pos c]
      exact hu
  · rw [if_neg c] at hu
    rw [if_neg (by omega)]
    exact h _ _ hu
theorem Made.storeF {w : World} {base : Nat} {j : Jo} {face : Int} {sn : ByteArray} {s : Su} {p q g c : Nat} {fs : List (ByteArray × Fc)} (h : Made w base j face sn s p q g c fs) {k : Nat} (hk : k < fs.length) (x : Int) :
    Made (w.setCell ⟨g, k * 5 + 1, none⟩ (.int .i64 x)) base j face sn s p q g c (fs.set k (fs[k].1, { fs[k].2 with fx := x })) := by
  obtain ⟨cs, h3, h4⟩ := h.faces
  have n1 : p ≠ g := h.joint.ne_ h3 (by decide)
  have n2 : q ≠ g := h.ask.ne_ h3 (by decide)
  exact ⟨h.joint.far (p := ⟨g, k * 5 + 1, none⟩) n1 _, h.ask.far (p := ⟨g, k * 5 + 1, none⟩) n2 _, ⟨_, h3.set_ _ _, h4.set1 hk 1 x ⟨rfl, by omega⟩⟩, h.p, h.q, h.g, by simpa using h.len, h.cap, h.max⟩
theorem Made.storeFz {w : World} {base : Nat} {j : Jo} {face : Int} {sn : ByteArray} {s : Su} {p q g c : Nat} {fs : List (ByteArray × Fc)} (h : Made w base j face sn s p q g c fs) {k : Nat} (hk : k < fs.length) (x : Int) :
    Made (w.setCell ⟨g, k * 5 + 2, none⟩ (.int .i64 x)) base j face sn s p q g c (fs.set k (fs[k].1, { fs[k].2 with fz := x })) := by
  obtain ⟨cs, h3, h4⟩ := h.faces
  have n1 : p ≠ g := h.joint.ne_ h3 (by decide)
  have n2 : q ≠ g := h.ask.ne_ h3 (by decide)
  exact ⟨h.joint.far (p := ⟨g, k * 5 + 2, none⟩) n1 _, h.ask.far (p := ⟨g, k * 5 + 2, none⟩) n2 _, ⟨_, h3.set_ _ _, h4.set1 hk 2 x ⟨rfl, by omega⟩⟩, h.p, h.q, h.g, by simpa using h.len, h.cap, h.max⟩
theorem Made.storeT {w : World} {base : Nat} {j : Jo} {face : Int} {sn : ByteArray} {s : Su} {p q g c : Nat} {fs : List (ByteArray × Fc)} (h : Made w base j face sn s p q g c fs) {k : Nat} (hk : k < fs.length) (x : Int) :
    Made (w.setCell ⟨g, k * 5 + 3, none⟩ (.int .i64 x)) base j face sn s p q g c (fs.set k (fs[k].1, { fs[k].2 with tx := x })) := by
  obtain ⟨cs, h3, h4⟩ := h.faces
  have n1 : p ≠ g := h.joint.ne_ h3 (by decide)
  have n2 : q ≠ g := h.ask.ne_ h3 (by decide)
  exact ⟨h.joint.far (p := ⟨g, k * 5 + 3, none⟩) n1 _, h.ask.far (p := ⟨g, k * 5 + 3, none⟩) n2 _, ⟨_, h3.set_ _ _, h4.set1 hk 3 x ⟨rfl, by omega⟩⟩, h.p, h.q, h.g, by simpa using h.len, h.cap, h.max⟩
theorem Made.storeTz {w : World} {base : Nat} {j : Jo} {face : Int} {sn : ByteArray} {s : Su} {p q g c : Nat} {fs : List (ByteArray × Fc)} (h : Made w base j face sn s p q g c fs) {k : Nat} (hk : k < fs.length) (x : Int) :
    Made (w.setCell ⟨g, k * 5 + 4, none⟩ (.int .i64 x)) base j face sn s p q g c (fs.set k (fs[k].1, { fs[k].2 with tz := x })) := by
  obtain ⟨cs, h3, h4⟩ := h.faces
  have n1 : p ≠ g := h.joint.ne_ h3 (by decide)
  have n2 : q ≠ g := h.ask.ne_ h3 (by decide)
  exact ⟨h.joint.far (p := ⟨g, k * 5 + 4, none⟩) n1 _, h.ask.far (p := ⟨g, k * 5 + 4, none⟩) n2 _, ⟨_, h3.set_ _ _, h4.set1 hk 4 x ⟨rfl, by omega⟩⟩, h.p, h.q, h.g, by simpa using h.len, h.cap, h.max⟩
theorem only_set' {a w : World} {g : Nat} {row : Option Nat} (hr : row = some g) (h : a.grownBy w row) (i : Nat) (u : Value) : a.grownBy (w.setCell ⟨g, i, none⟩ u) row := by subst hr; exact only_setCell (p := ⟨g, i, none⟩) h (.inl rfl) u
theorem Made.drew {w : World} {base : Nat} {j : Jo} {face : Int} {sn : ByteArray} {s : Su} {p q g c : Nat} {fs : List (ByteArray × Fc)} (h : Made w base j face sn s p q g c fs) : Made w.drew base j face sn s p q g c fs := ⟨h.joint, h.ask, h.faces, h.p, h.q, h.g, h.len, h.cap, h.max⟩
theorem grown_two {a b : World} {g i k : Nat} {u v : Value} (h : Below a.heap.size a b) : a.grownBy ((b.setCell ⟨g, i, none⟩ u).setCell ⟨g, k, none⟩ v) (some g) := only_setCell (p := ⟨g, k, none⟩) (only_setCell (p := ⟨g, i, none⟩) (only_of_below h _) (.inl rfl) _) (.inl rfl) _

set_option maxRecDepth 100000 in
set_option maxHeartbeats 4000000 in
/-- The ask is mirrored (region 7). -/
theorem askReg7 {w : World} {base : Nat} {j : Jo} {face : Int} {sn : ByteArray} {s : Su} {p q g c : Nat} {fs : List (ByteArray × Fc)} (M : Made w base j face sn s p q g c fs) (ha : -20000 ≤ s.at_ ∧ s.at_ ≤ 20000) (hs : -1 ≤ s.side ∧ s.side ≤ 1) (py : Nat) (y : Blk w py 46 (asC face sn s)) (hyq : py ≠ q) {t0 t1 t2 t3 t5 t6 t7 t8 t9 t11 t12 t13 t14 t15 t16 t17 t18 t19 t20 t21 t22 t23 t24 t25 t26 t27 t28 t29 t30 t31 t32 t33 t34 t35 t36 t37 t38 t39 t40 t41 t42 t43 t44 t45 t46 t47 t48 t49 t50 t51 t52 t53 t54 t55 t56 t57 t58 t59 t60 t61 t62 t63 t64 t65 t66 t67 t68 t69 t70 t71 t72 t73 t74 t75 t76 t77 t78 t79 t80 t81 t82 t83 t84 t85 t86 t87 t88 t89 t90 t91 t92 t93 t94 t95 t96 t97 t98 t99 t100 t101 t102 t103 t104 t105 t106 t107 t108 t109 t110 t111 t112 t113 t114 t115 t116 t117 t118 t119 t120 t121 t122 t123 t124 t125 t126 t127 t128 t129 t130 t131 t132 t133 t134 t135 t136 t137 t138 t139 t140 t141 t142 t143 t144 t145 t146 t147 t148 t149 t150 t151 t152 t153 t154 t155 t156 t157 t158 t159 t160 t161 t162 t163 t164 t165 t166 t167 t168 t169 t170 t171 t172 t173 t174 t175 t176 t177 t178 t179 t180 t181 t182 t183 t184 t185 t186 t187 t188 t189 t190 t191 t192 t193 t194 t195 t196 t197 t198 t199 t200 t201 t202 t203 t204 t205 t206 t207 t208 t209 t210 t211 t212 t213 t214 t215 t216 t217 t218 t219 t220 t221 t222 t223 t224 t225 t226 t227 t228 t229 t230 t231 t232 t233 t234 t235 t236 t237 t238 t239 t240 t241 t242 t243 : Value}
    {ds : List Deferred} (K' : Act → World → Prop) (Q' : Exit → Act → World → Prop)
    (h : ∀ (t54 t55 t56 t57 t58 t59 t60 t61 t62 t63 t64 t65 : Value) (w' : World), Made w' base j face sn s.mirror p q g c fs → w.grownBy w' (some q) → K' ⟨#[t0, t1, t2, t3, .pointer (some ⟨py, 0, none⟩), t5, t6, t7, t8, t9, .pointer (some ⟨q, 0, none⟩), t11, t12, t13, t14, t15, t16, t17, t18, t19, t20, t21, t22, t23, t24, t25, t26, t27, t28, t29, t30, t31, t32, t33, t34, t35, t36, t37, t38, t39, t40, t41, t42, t43, t44, t45, t46, t47, t48, t49, t50, t51, t52, t53, t54, t55, t56, t57, t58, t59, t60, t61, t62, t63, t64, t65, t66, t67, t68, t69, t70, t71, t72, t73, t74, t75, t76, t77, t78, t79, t80, t81, t82, t83, t84, t85, t86, t87, t88, t89, t90, t91, t92, t93, t94, t95, t96, t97, t98, t99, t100, t101, t102, t103, t104, t105, t106, t107, t108, t109, t110, t111, t112, t113, t114, t115, t116, t117, t118, t119, t120, t121, t122, t123, t124, t125, t126, t127, t128, t129, t130, t131, t132, t133, t134, t135, t136, t137, t138, t139, t140, t141, t142, t143, t144, t145, t146, t147, t148, t149, t150, t151, t152, t153, t154, t155, t156, t157, t158, t159, t160, t161, t162, t163, t164, t165, t166, t167, t168, t169, t170, t171, t172, t173, t174, t175, t176, t177, t178, t179, t180, t181, t182, t183, t184, t185, t186, t187, t188, t189, t190, t191, t192, t193, t194, t195, t196, t197, t198, t199, t200, t201, t202, t203, t204, t205, t206, t207, t208, t209, t210, t211, t212, t213, t214, t215, t216, t217, t218, t219, t220, t221, t222, t223, t224, t225, t226, t227, t228, t229, t230, t231, t232, t233, t234, t235, t236, t237, t238, t239, t240, t241, t242, t243], ds⟩ w') :
    (regOf Tryz.f4 7).wp Tryz.prog (Exit.then K' Q') ⟨#[t0, t1, t2, t3, .pointer (some ⟨py, 0, none⟩), t5, t6, t7, t8, t9, .pointer (some ⟨q, 0, none⟩), t11, t12, t13, t14, t15, t16, t17, t18, t19, t20, t21, t22, t23, t24, t25, t26, t27, t28, t29, t30, t31, t32, t33, t34, t35, t36, t37, t38, t39, t40, t41, t42, t43, t44, t45, t46, t47, t48, t49, t50, t51, t52, t53, t54, t55, t56, t57, t58, t59, t60, t61, t62, t63, t64, t65, t66, t67, t68, t69, t70, t71, t72, t73, t74, t75, t76, t77, t78, t79, t80, t81, t82, t83, t84, t85, t86, t87, t88, t89, t90, t91, t92, t93, t94, t95, t96, t97, t98, t99, t100, t101, t102, t103, t104, t105, t106, t107, t108, t109, t110, t111, t112, t113, t114, t115, t116, t117, t118, t119, t120, t121, t122, t123, t124, t125, t126, t127, t128, t129, t130, t131, t132, t133, t134, t135, t136, t137, t138, t139, t140, t141, t142, t143, t144, t145, t146, t147, t148, t149, t150, t151, t152, t153, t154, t155, t156, t157, t158, t159, t160, t161, t162, t163, t164, t165, t166, t167, t168, t169, t170, t171, t172, t173, t174, t175, t176, t177, t178, t179, t180, t181, t182, t183, t184, t185, t186, t187, t188, t189, t190, t191, t192, t193, t194, t195, t196, t197, t198, t199, t200, t201, t202, t203, t204, t205, t206, t207, t208, t209, t210, t211, t212, t213, t214, t215, t216, t217, t218, t219, t220, t221, t222, t223, t224, t225, t226, t227, t228, t229, t230, t231, t232, t233, t234, t235, t236, t237, t238, t239, t240, t241, t242, t243], ds⟩ w := by
  have H := Lib.hid h; clear h
  unfold asC at y
  obtain ⟨u0, u1, u2, u3, u4, u5, u6, u7, u8, u9, u10⟩ := as_cells y
  have ly := y.lt
  have lq := M.ask.lt
  conv in (regOf _ _) => whnf
  obtain ⟨row, hrow⟩ : ∃ r : Option Nat, r = some q := ⟨_, rfl⟩
  have m1 : some py ≠ row := by rw [hrow]; simpa using hyq
  have HRW := Lib.hid hrow; clear hrow
  refine wp_region_w (fun w' => World.grownBy _ w' row) (by kernel_rfl) (only_drew (World.grownBy.refl _ _)) ?_
  refine wpW_det (t' := ?ct0R3) 0 (by rfl) (by kernel_rfl) (NQ_free _) (by kernel_rfl) ?cw0R3 ?ch0R3 ?ca0R3 (Eq.refl _) ?cH0R3
  case cw0R3 => (go_simp; done)
  case ch0R3 =>
    intro ds w' hS K hK
    have hc := (ocell hS).1
    have hf := (ocell hS).2
    have hz := hS.size
    try simp at hz
    go_simp
    try go_bits
    first
      | exact hK _ hS (Gr.refl _)
      | fail
  case ca0R3 => (first | (simp [Act.put]; done) | (simp [Act.put, *]; done))
  try dsimp only
  refine wpW_det (t' := ?ct1R3) 1 (by rfl) (by kernel_rfl) (NQ_free _) (by kernel_rfl) ?cw1R3 ?ch1R3 ?ca1R3 (Eq.refl _) ?cH1R3
  case cw1R3 => (go_simp; done)
  case ch1R3 =>
    intro ds w' hS K hK
    have hc := (ocell hS).1
    have hf := (ocell hS).2
    have hz := hS.size
    try simp at hz
    go_simp
    try go_bits
    first
      | exact hK _ hS (Gr.refl _)
      | fail
  case ca1R3 => (first | (simp [Act.put]; done) | (simp [Act.put, *]; done))
  try dsimp only
  refine wpW_det (t' := ?ct2R3) 2 (by rfl) (by kernel_rfl) (NQ_free _) (by kernel_rfl) ?cw2R3 ?ch2R3 ?ca2R3 (Eq.refl _) ?cH2R3
  case cw2R3 => (go_simp; done)
  case ch2R3 =>
    intro ds w' hS K hK
    have hc := (ocell hS).1
    have hf := (ocell hS).2
    have hz := hS.size
    try simp at hz
    go_simp
    try go_bits
    first
      | exact hK _ hS (Gr.refl _)
      | fail
  case ca2R3 => (first | (simp [Act.put]; done) | (simp [Act.put, *]; done))
  try dsimp only
  refine wpW_det (t' := ?ct3R3) 3 (by rfl) (by kernel_rfl) (NQ_free _) (by kernel_rfl) ?cw3R3 ?ch3R3 ?ca3R3 (Eq.refl _) ?cH3R3
  case cw3R3 => (go_simp; done)
  case ch3R3 =>
    intro ds w' hS K hK
    have hc := (ocell hS).1
    have hf := (ocell hS).2
    have hz := hS.size
    try simp at hz
    go_simp
    try go_bits
    first
      | exact hK _ hS (Gr.refl _)
      | fail
  case ca3R3 => (first | (simp [Act.put]; done) | (simp [Act.put, *]; done))
  try dsimp only
  refine wpW_det (t' := ?ct4R3) 4 (by rfl) (by kernel_rfl) (NQ_free _) (by kernel_rfl) ?cw4R3 ?ch4R3 ?ca4R3 (Eq.refl _) ?cH4R3
  case cw4R3 => (go_simp; done)
  case ch4R3 =>
    intro ds w' hS K hK
    have hc := (ocell hS).1
    have hf := (ocell hS).2
    have hz := hS.size
    try simp at hz
    go_simp
    try go_bits
    first
      | exact hK _ hS (Gr.refl _)
      | fail
  case ca4R3 => (first | (simp [Act.put]; done) | (simp [Act.put, *]; done))
  try dsimp only
  refine wpW_det (t' := ?ct5R3) 5 (by rfl) (by kernel_rfl) (NQ_free _) (by kernel_rfl) ?cw5R3 ?ch5R3 ?ca5R3 (Eq.refl _) ?cH5R3
  case cw5R3 => (go_simp; done)
  case ch5R3 =>
    intro ds w' hS K hK
    have hc := (ocell hS).1
    have hf := (ocell hS).2
    have hz := hS.size
    try simp at hz
    go_simp
    try go_bits
    first
      | exact hK _ hS (Gr.refl _)
      | fail
  case ca5R3 => (first | (simp [Act.put]; done) | (simp [Act.put, *]; done))
  try dsimp only
  refine wpW_det (t' := ?ct6R3) 6 (by rfl) (by kernel_rfl) (NQ_free _) (by kernel_rfl) ?cw6R3 ?ch6R3 ?ca6R3 (Eq.refl _) ?cH6R3
  case cw6R3 => (go_simp; done)
  case ch6R3 =>
    intro ds w' hS K hK
    have hc := (ocell hS).1
    have hf := (ocell hS).2
    have hz := hS.size
    try simp at hz
    go_simp
    try go_bits
    first
      | exact hK _ hS (Gr.refl _)
      | fail
  case ca6R3 => (first | (simp [Act.put]; done) | (simp [Act.put, *]; done))
  try dsimp only
  refine wpW_det (t' := ?ct7R3) 7 (by rfl) (by kernel_rfl) (NQ_free _) (by kernel_rfl) ?cw7R3 ?ch7R3 ?ca7R3 (Eq.refl _) ?cH7R3
  case cw7R3 => (go_simp; done)
  case ch7R3 =>
    intro ds w' hS K hK
    have hc := (ocell hS).1
    have hf := (ocell hS).2
    have hz := hS.size
    try simp at hz
    go_simp
    try go_bits
    first
      | exact hK _ hS (Gr.refl _)
      | fail
  case ca7R3 => (first | (simp [Act.put]; done) | (simp [Act.put, *]; done))
  try dsimp only
  refine wpW_det (t' := ?ct8R3) 8 (by rfl) (by kernel_rfl) (NQ_free _) (by kernel_rfl) ?cw8R3 ?ch8R3 ?ca8R3 (Eq.refl _) ?cH8R3
  case cw8R3 => (go_simp; done)
  case ch8R3 =>
    intro ds w' hS K hK
    have hc := (ocell hS).1
    have hf := (ocell hS).2
    have hz := hS.size
    try simp at hz
    go_simp
    try go_bits
    first
      | exact hK _ hS (Gr.refl _)
      | fail
  case ca8R3 => (first | (simp [Act.put]; done) | (simp [Act.put, *]; done))
  try dsimp only
  refine wpW_det (t' := ?ct9R3) 9 (by rfl) (by kernel_rfl) (NQ_free _) (by kernel_rfl) ?cw9R3 ?ch9R3 ?ca9R3 (Eq.refl _) ?cH9R3
  case cw9R3 => (go_simp; done)
  case ch9R3 =>
    intro ds w' hS K hK
    have hc := (ocell hS).1
    have hf := (ocell hS).2
    have hz := hS.size
    try simp at hz
    go_simp
    try go_bits
    first
      | exact hK _ hS (Gr.refl _)
      | fail
  case ca9R3 => (first | (simp [Act.put]; done) | (simp [Act.put, *]; done))
  try dsimp only
  refine wpW_branch [10] (by kernel_rfl) (by simp) ?_
  intro w1 hg_w1 hS_w1
  have M1 := M.drew.gr hg_w1
  have mf := M1.ask.frozen
  have lq1 := M1.ask.lt
  have ma := M1.ask
  unfold asC at ma
  obtain ⟨_, _, v2, v3, _, _, _, _, _, _, _⟩ := as_cells ma
  clear ma
  refine each_cons ?_ each_nil
  refine wpOp_go (by rfl) (Eq.refl _) (by go_simp; done) ?_
  intro K hK
  go_simp
  try simp only [Act.put]
  refine hK _ _ (only_set' HRW.out hS_w1 _ _) ?_
  replace M1 := M1.setAt (-s.at_)
  clear hK K mf lq1 v2 v3
  refine wpW_det (t' := ?ct11R4) 11 (by rfl) (by kernel_rfl) (NQ_free _) (by kernel_rfl) ?cw11R4 ?ch11R4 ?ca11R4 (Eq.refl _) ?cH11R4
  case cw11R4 => (go_simp; done)
  case ch11R4 =>
    intro ds w' hS K hK
    have hc := (ocell hS).1
    have hf := (ocell hS).2
    have hz := hS.size
    try simp at hz
    go_simp
    try go_bits
    first
      | exact hK _ hS (Gr.refl _)
      | exact hK _ (by repeat (first | (with_reducible exact Below.refl _ _) | (with_reducible assumption) | ((with_reducible refine Below.setCell ?_ ?_ _); rotate_left; · (first | exact Nat.le_refl _ | (simp; done) | (simp; omega) | omega)) | ((with_reducible refine Below.alloc ?_ ?_ _); rotate_left; · (first | exact Nat.le_refl _ | (simp; done) | (simp; omega) | omega)) | (with_reducible apply Below.drew) | (with_reducible apply below_drewN') | (refine Below.trans ?_ (Below.mono (by assumption) (by first | exact Nat.le_refl _ | (simp; done) | (simp; omega) | omega))) | exact Below.refl _ _ | assumption)) (by repeat (first | (with_reducible exact Below.refl _ _) | (with_reducible assumption) | ((with_reducible refine Below.setCell ?_ ?_ _); rotate_left; · (first | exact Nat.le_refl _ | (simp; done) | (simp; omega) | omega)) | ((with_reducible refine Below.alloc ?_ ?_ _); rotate_left; · (first | exact Nat.le_refl _ | (simp; done) | (simp; omega) | omega)) | (with_reducible apply Below.drew) | (with_reducible apply below_drewN') | (refine Below.trans ?_ (Below.mono (by assumption) (by first | exact Nat.le_refl _ | (simp; done) | (simp; omega) | omega))) | exact Below.refl _ _ | assumption))
  case ca11R4 => (first | (simp [Act.put]; done) | (simp [Act.put, *]; done))
  try dsimp only
  refine wpW_det (t' := ?ct12R4) 12 (by rfl) (by kernel_rfl) (NQ_free _) (by kernel_rfl) ?cw12R4 ?ch12R4 ?ca12R4 (Eq.refl _) ?cH12R4
  case cw12R4 => (go_simp; done)
  case ch12R4 =>
    intro ds w' hS K hK
    have hc := (ocell hS).1
    have hf := (ocell hS).2
    have hz := hS.size
    try simp at hz
    go_simp
    try go_bits
    first
      | exact hK _ hS (Gr.refl _)
      | exact hK _ (by repeat (first | (with_reducible exact Below.refl _ _) | (with_reducible assumption) | ((with_reducible refine Below.setCell ?_ ?_ _); rotate_left; · (first | exact Nat.le_refl _ | (simp; done) | (simp; omega) | omega)) | ((with_reducible refine Below.alloc ?_ ?_ _); rotate_left; · (first | exact Nat.le_refl _ | (simp; done) | (simp; omega) | omega)) | (with_reducible apply Below.drew) | (with_reducible apply below_drewN') | (refine Below.trans ?_ (Below.mono (by assumption) (by first | exact Nat.le_refl _ | (simp; done) | (simp; omega) | omega))) | exact Below.refl _ _ | assumption)) (by repeat (first | (with_reducible exact Below.refl _ _) | (with_reducible assumption) | ((with_reducible refine Below.setCell ?_ ?_ _); rotate_left; · (first | exact Nat.le_refl _ | (simp; done) | (simp; omega) | omega)) | ((with_reducible refine Below.alloc ?_ ?_ _); rotate_left; · (first | exact Nat.le_refl _ | (simp; done) | (simp; omega) | omega)) | (with_reducible apply Below.drew) | (with_reducible apply below_drewN') | (refine Below.trans ?_ (Below.mono (by assumption) (by first | exact Nat.le_refl _ | (simp; done) | (simp; omega) | omega))) | exact Below.refl _ _ | assumption))
  case ca12R4 => (first | (simp [Act.put]; done) | (simp [Act.put, *]; done))
  try dsimp only
  refine wpW_branch [13] (by kernel_rfl) (by simp) ?_
  intro w2 hg_w2 hS_w2
  replace M1 := M1.gr hg_w2
  have mf := M1.ask.frozen
  have lq1 := M1.ask.lt
  have ma := M1.ask
  unfold asC at ma
  obtain ⟨_, _, v2, v3, _, _, _, _, _, _, _⟩ := as_cells ma
  clear ma
  refine each_cons ?_ each_nil
  refine wpOp_go (by rfl) (Eq.refl _) (by go_simp; done) ?_
  intro K hK
  go_simp
  try simp only [Act.put]
  refine hK _ _ (only_set' HRW.out hS_w2 _ _) ?_
  replace M1 := M1.setSide (-s.side)
  clear hK K mf lq1 v2 v3
  refine wpW_end (by kernel_rfl) ?_
  intro we hg hS
  unfold NQ
  dsimp only
  rw [HRW.out] at hS
  replace M1 := M1.gr hg
  exact H.out _ _ _ _ _ _ _ _ _ _ _ _ _ M1 hS

set_option maxRecDepth 100000 in
set_option maxHeartbeats 4000000 in
/-- A face is turned (region 13). -/
theorem storeReg13 {w : World} {base : Nat} {j : Jo} {face : Int} {sn : ByteArray} {s : Su} {p q g c : Nat} {fs : List (ByteArray × Fc)} (M : Made w base j face sn s p q g c fs) (kk : Nat) (hk : kk < fs.length) (hx : -20000 ≤ fs[kk].2.fx ∧ fs[kk].2.fx ≤ 20000) (hy : -20000 ≤ fs[kk].2.tx ∧ fs[kk].2.tx ≤ 20000) {t0 t1 t2 t3 t4 t5 t6 t7 t8 t10 t11 t12 t14 t15 t16 t17 t18 t19 t20 t21 t22 t23 t24 t25 t26 t27 t28 t29 t30 t31 t32 t33 t34 t35 t36 t37 t38 t39 t40 t41 t42 t43 t44 t45 t46 t47 t48 t49 t50 t51 t52 t53 t54 t55 t56 t57 t58 t59 t60 t61 t62 t63 t64 t65 t66 t67 t68 t69 t70 t71 t72 t73 t74 t75 t76 t77 t78 t79 t80 t81 t82 t83 t84 t85 t86 t87 t88 t89 t90 t91 t92 t93 t94 t95 t96 t97 t98 t99 t100 t101 t102 t103 t104 t105 t106 t107 t108 t109 t110 t111 t112 t113 t114 t115 t116 t117 t118 t119 t120 t121 t122 t123 t124 t125 t126 t127 t128 t129 t130 t131 t132 t133 t134 t135 t136 t137 t138 t139 t140 t141 t142 t143 t144 t145 t146 t147 t148 t149 t150 t151 t152 t153 t154 t155 t156 t157 t158 t159 t160 t161 t162 t163 t164 t165 t166 t167 t168 t169 t170 t171 t172 t173 t174 t175 t176 t177 t178 t179 t180 t181 t182 t183 t184 t185 t186 t187 t188 t189 t190 t191 t192 t193 t194 t195 t196 t197 t198 t199 t200 t201 t202 t203 t204 t205 t206 t207 t208 t209 t210 t211 t212 t213 t214 t215 t216 t217 t218 t219 t220 t221 t222 t223 t224 t225 t226 t227 t228 t229 t230 t231 t232 t233 t234 t235 t236 t237 t238 t239 t240 t241 t242 t243 : Value}
    {ds : List Deferred} (K' : Act → World → Prop) (Q' : Exit → Act → World → Prop)
    (h : ∀ (t83 t84 t85 t86 t87 t88 t89 t90 t91 t92 t93 t94 t95 t96 t97 t98 t99 t100 t101 t102 t103 t104 t105 t106 t107 t108 t109 t110 : Value) (w' : World), Made w' base j face sn s p q g c (fs.set kk (fs[kk].1, Fc.mirror fs[kk].2)) → w.grownBy w' (some g) → K' ⟨#[t0, t1, t2, t3, t4, t5, t6, t7, t8, .pointer (some ⟨p, 0, none⟩), t10, t11, t12, .int .i64 kk, t14, t15, t16, t17, t18, t19, t20, t21, t22, t23, t24, t25, t26, t27, t28, t29, t30, t31, t32, t33, t34, t35, t36, t37, t38, t39, t40, t41, t42, t43, t44, t45, t46, t47, t48, t49, t50, t51, t52, t53, t54, t55, t56, t57, t58, t59, t60, t61, t62, t63, t64, t65, t66, t67, t68, t69, t70, t71, t72, t73, t74, t75, t76, t77, t78, t79, t80, t81, t82, t83, t84, t85, t86, t87, t88, t89, t90, t91, t92, t93, t94, t95, t96, t97, t98, t99, t100, t101, t102, t103, t104, t105, t106, t107, t108, t109, t110, t111, t112, t113, t114, t115, t116, t117, t118, t119, t120, t121, t122, t123, t124, t125, t126, t127, t128, t129, t130, t131, t132, t133, t134, t135, t136, t137, t138, t139, t140, t141, t142, t143, t144, t145, t146, t147, t148, t149, t150, t151, t152, t153, t154, t155, t156, t157, t158, t159, t160, t161, t162, t163, t164, t165, t166, t167, t168, t169, t170, t171, t172, t173, t174, t175, t176, t177, t178, t179, t180, t181, t182, t183, t184, t185, t186, t187, t188, t189, t190, t191, t192, t193, t194, t195, t196, t197, t198, t199, t200, t201, t202, t203, t204, t205, t206, t207, t208, t209, t210, t211, t212, t213, t214, t215, t216, t217, t218, t219, t220, t221, t222, t223, t224, t225, t226, t227, t228, t229, t230, t231, t232, t233, t234, t235, t236, t237, t238, t239, t240, t241, t242, t243], ds⟩ w') :
    (regOf Tryz.f4 13).wp Tryz.prog (Exit.then K' Q') ⟨#[t0, t1, t2, t3, t4, t5, t6, t7, t8, .pointer (some ⟨p, 0, none⟩), t10, t11, t12, .int .i64 kk, t14, t15, t16, t17, t18, t19, t20, t21, t22, t23, t24, t25, t26, t27, t28, t29, t30, t31, t32, t33, t34, t35, t36, t37, t38, t39, t40, t41, t42, t43, t44, t45, t46, t47, t48, t49, t50, t51, t52, t53, t54, t55, t56, t57, t58, t59, t60, t61, t62, t63, t64, t65, t66, t67, t68, t69, t70, t71, t72, t73, t74, t75, t76, t77, t78, t79, t80, t81, t82, t83, t84, t85, t86, t87, t88, t89, t90, t91, t92, t93, t94, t95, t96, t97, t98, t99, t100, t101, t102, t103, t104, t105, t106, t107, t108, t109, t110, t111, t112, t113, t114, t115, t116, t117, t118, t119, t120, t121, t122, t123, t124, t125, t126, t127, t128, t129, t130, t131, t132, t133, t134, t135, t136, t137, t138, t139, t140, t141, t142, t143, t144, t145, t146, t147, t148, t149, t150, t151, t152, t153, t154, t155, t156, t157, t158, t159, t160, t161, t162, t163, t164, t165, t166, t167, t168, t169, t170, t171, t172, t173, t174, t175, t176, t177, t178, t179, t180, t181, t182, t183, t184, t185, t186, t187, t188, t189, t190, t191, t192, t193, t194, t195, t196, t197, t198, t199, t200, t201, t202, t203, t204, t205, t206, t207, t208, t209, t210, t211, t212, t213, t214, t215, t216, t217, t218, t219, t220, t221, t222, t223, t224, t225, t226, t227, t228, t229, t230, t231, t232, t233, t234, t235, t236, t237, t238, t239, t240, t241, t242, t243], ds⟩ w := by
  have H := Lib.hid h; clear h
  have hl := M.len
  obtain ⟨q1, q2, q3, q4, lg, gf⟩ := M.cells hk
  obtain ⟨t0, t1, t2, t3⟩ := blk4c M.joint
  have lp := M.joint.lt
  have hkc : (kk : Int) < (j.fs.length : Int) := by omega
  have hk0 : (0 : Int) ≤ (kk : Int) := by omega
  generalize hfx : fs[kk].2.fx = fx at *
  generalize htx : fs[kk].2.tx = tx at *
  conv in (regOf _ _) => whnf
  obtain ⟨row, hrow⟩ : ∃ r : Option Nat, r = some g := ⟨_, rfl⟩
  have m1 : some p ≠ row := by rw [hrow]; obtain ⟨cs, h3, _⟩ := M.faces; have := M.joint.ne_ h3 (by decide); simpa using this
  have HRW := Lib.hid hrow; clear hrow
  refine wp_region_w (fun w' => World.grownBy _ w' row) (by kernel_rfl) (only_drew (World.grownBy.refl _ _)) ?_
  refine wpW_det (t' := ?ct0R5) 0 (by rfl) (by kernel_rfl) (NQ_free _) (by kernel_rfl) ?cw0R5 ?ch0R5 ?ca0R5 (Eq.refl _) ?cH0R5
  case cw0R5 => (go_simp; done)
  case ch0R5 =>
    intro ds w' hS K hK
    have hc := (ocell hS).1
    have hf := (ocell hS).2
    have hz := hS.size
    try simp at hz
    go_simp
    try go_bits
    first
      | exact hK _ hS (Gr.refl _)
      | fail
  case ca0R5 => (first | (simp [Act.put]; done) | (simp [Act.put, *]; done))
  try dsimp only
  refine wpW_det (t' := ?ct1R5) 1 (by rfl) (by kernel_rfl) (NQ_free _) (by kernel_rfl) ?cw1R5 ?ch1R5 ?ca1R5 (Eq.refl _) ?cH1R5
  case cw1R5 => (go_simp; done)
  case ch1R5 =>
    intro ds w' hS K hK
    have hc := (ocell hS).1
    have hf := (ocell hS).2
    have hz := hS.size
    try simp at hz
    go_simp
    try go_bits
    first
      | exact hK _ hS (Gr.refl _)
      | fail
  case ca1R5 => (first | (simp [Act.put]; done) | (simp [Act.put, *]; done))
  try dsimp only
  refine wpW_det (t' := ?ct2R5) 2 (by rfl) (by kernel_rfl) (NQ_free _) (by kernel_rfl) ?cw2R5 ?ch2R5 ?ca2R5 (Eq.refl _) ?cH2R5
  case cw2R5 => (go_simp; done)
  case ch2R5 =>
    intro ds w' hS K hK
    have hc := (ocell hS).1
    have hf := (ocell hS).2
    have hz := hS.size
    try simp at hz
    go_simp
    try go_bits
    first
      | exact hK _ hS (Gr.refl _)
      | fail
  case ca2R5 => (first | (simp [Act.put]; done) | (simp [Act.put, *]; done))
  try dsimp only
  refine wpW_det (t' := ?ct3R5) 3 (by rfl) (by kernel_rfl) (NQ_free _) (by kernel_rfl) ?cw3R5 ?ch3R5 ?ca3R5 (Eq.refl _) ?cH3R5
  case cw3R5 => (go_simp; done)
  case ch3R5 =>
    intro ds w' hS K hK
    have hc := (ocell hS).1
    have hf := (ocell hS).2
    have hz := hS.size
    try simp at hz
    go_simp
    try go_bits
    first
      | exact hK _ hS (Gr.refl _)
      | fail
  case ca3R5 => (first | (simp [Act.put]; done) | (simp [Act.put, *]; done))
  try dsimp only
  refine wpW_det (t' := ?ct4R5) 4 (by rfl) (by kernel_rfl) (NQ_free _) (by kernel_rfl) ?cw4R5 ?ch4R5 ?ca4R5 (Eq.refl _) ?cH4R5
  case cw4R5 => (go_simp; done)
  case ch4R5 =>
    intro ds w' hS K hK
    have hc := (ocell hS).1
    have hf := (ocell hS).2
    have hz := hS.size
    try simp at hz
    go_simp
    try go_bits
    first
      | exact hK _ hS (Gr.refl _)
      | fail
  case ca4R5 => (first | (simp [Act.put]; done) | (simp [Act.put, *]; done))
  try dsimp only
  refine wpW_det (t' := ?ct5R5) 5 (by rfl) (by kernel_rfl) (NQ_free _) (by kernel_rfl) ?cw5R5 ?ch5R5 ?ca5R5 (Eq.refl _) ?cH5R5
  case cw5R5 => (go_simp; done)
  case ch5R5 =>
    intro ds w' hS K hK
    have hc := (ocell hS).1
    have hf := (ocell hS).2
    have hz := hS.size
    try simp at hz
    go_simp
    try go_bits
    first
      | exact hK _ hS (Gr.refl _)
      | fail
  case ca5R5 => (first | (simp [Act.put]; done) | (simp [Act.put, *]; done))
  try dsimp only
  refine wpW_det (t' := ?ct6R5) 6 (by rfl) (by kernel_rfl) (NQ_free _) (by kernel_rfl) ?cw6R5 ?ch6R5 ?ca6R5 (Eq.refl _) ?cH6R5
  case cw6R5 => (go_simp; done)
  case ch6R5 =>
    intro ds w' hS K hK
    have hc := (ocell hS).1
    have hf := (ocell hS).2
    have hz := hS.size
    try simp at hz
    go_simp
    try go_bits
    first
      | exact hK _ hS (Gr.refl _)
      | fail
  case ca6R5 => (first | (simp [Act.put]; done) | (simp [Act.put, *]; done))
  try dsimp only
  refine wpW_det (t' := ?ct7R5) 7 (by rfl) (by kernel_rfl) (NQ_free _) (by kernel_rfl) ?cw7R5 ?ch7R5 ?ca7R5 (Eq.refl _) ?cH7R5
  case cw7R5 => (go_simp; done)
  case ch7R5 =>
    intro ds w' hS K hK
    have hc := (ocell hS).1
    have hf := (ocell hS).2
    have hz := hS.size
    try simp at hz
    go_simp
    try go_bits
    first
      | exact hK _ hS (Gr.refl _)
      | fail
  case ca7R5 => (first | (simp [Act.put]; done) | (simp [Act.put, *]; done))
  try dsimp only
  refine wpW_det (t' := ?ct8R5) 8 (by rfl) (by kernel_rfl) (NQ_free _) (by kernel_rfl) ?cw8R5 ?ch8R5 ?ca8R5 (Eq.refl _) ?cH8R5
  case cw8R5 => (go_simp; done)
  case ch8R5 =>
    intro ds w' hS K hK
    have hc := (ocell hS).1
    have hf := (ocell hS).2
    have hz := hS.size
    try simp at hz
    go_simp
    try go_bits
    first
      | exact hK _ hS (Gr.refl _)
      | fail
  case ca8R5 => (first | (simp [Act.put]; done) | (simp [Act.put, *]; done))
  try dsimp only
  refine wpW_det (t' := ?ct9R5) 9 (by rfl) (by kernel_rfl) (NQ_free _) (by kernel_rfl) ?cw9R5 ?ch9R5 ?ca9R5 (Eq.refl _) ?cH9R5
  case cw9R5 => (go_simp; done)
  case ch9R5 =>
    intro ds w' hS K hK
    have hc := (ocell hS).1
    have hf := (ocell hS).2
    have hz := hS.size
    try simp at hz
    go_simp
    try go_bits
    first
      | exact hK _ hS (Gr.refl _)
      | fail
  case ca9R5 => (first | (simp [Act.put]; done) | (simp [Act.put, *]; done))
  try dsimp only
  refine wpW_det (t' := ?ct10R5) 10 (by rfl) (by kernel_rfl) (NQ_free _) (by kernel_rfl) ?cw10R5 ?ch10R5 ?ca10R5 (Eq.refl _) ?cH10R5
  case cw10R5 => (go_simp; done)
  case ch10R5 =>
    intro ds w' hS K hK
    have hc := (ocell hS).1
    have hf := (ocell hS).2
    have hz := hS.size
    try simp at hz
    go_simp
    try go_bits
    first
      | exact hK _ hS (Gr.refl _)
      | fail
  case ca10R5 => (first | (simp [Act.put]; done) | (simp [Act.put, *]; done))
  try dsimp only
  refine wpW_det (t' := ?ct11R5) 11 (by rfl) (by kernel_rfl) (NQ_free _) (by kernel_rfl) ?cw11R5 ?ch11R5 ?ca11R5 (Eq.refl _) ?cH11R5
  case cw11R5 => (go_simp; done)
  case ch11R5 =>
    intro ds w' hS K hK
    have hc := (ocell hS).1
    have hf := (ocell hS).2
    have hz := hS.size
    try simp at hz
    go_simp
    try go_bits
    first
      | exact hK _ hS (Gr.refl _)
      | fail
  case ca11R5 => (first | (simp [Act.put]; done) | (simp [Act.put, *]; done))
  try dsimp only
  refine wpW_det (t' := ?ct14R5) 14 (by rfl) (by kernel_rfl) (NQ_free _) (by kernel_rfl) ?cw14R5 ?ch14R5 ?ca14R5 (Eq.refl _) ?cH14R5
  case cw14R5 => (go_simp; done)
  case ch14R5 =>
    intro ds w' hS K hK
    have hc := (ocell hS).1
    have hf := (ocell hS).2
    have hz := hS.size
    try simp at hz
    go_simp
    try go_bits
    first
      | exact hK _ hS (Gr.refl _)
      | fail
  case ca14R5 => (first | (simp [Act.put]; done) | (simp [Act.put, *]; done))
  try dsimp only
  refine wpW_det (t' := ?ct15R5) 15 (by rfl) (by kernel_rfl) (NQ_free _) (by kernel_rfl) ?cw15R5 ?ch15R5 ?ca15R5 (Eq.refl _) ?cH15R5
  case cw15R5 => (go_simp; done)
  case ch15R5 =>
    intro ds w' hS K hK
    have hc := (ocell hS).1
    have hf := (ocell hS).2
    have hz := hS.size
    try simp at hz
    go_simp
    try go_bits
    first
      | exact hK _ hS (Gr.refl _)
      | fail
  case ca15R5 => (first | (simp [Act.put]; done) | (simp [Act.put, *]; done))
  try dsimp only
  refine wpW_det (t' := ?ct16R5) 16 (by rfl) (by kernel_rfl) (NQ_free _) (by kernel_rfl) ?cw16R5 ?ch16R5 ?ca16R5 (Eq.refl _) ?cH16R5
  case cw16R5 => (go_simp; done)
  case ch16R5 =>
    intro ds w' hS K hK
    have hc := (ocell hS).1
    have hf := (ocell hS).2
    have hz := hS.size
    try simp at hz
    go_simp
    try go_bits
    first
      | exact hK _ hS (Gr.refl _)
      | fail
  case ca16R5 => (first | (simp [Act.put]; done) | (simp [Act.put, *]; done))
  try dsimp only
  refine wpW_det (t' := ?ct17R5) 17 (by rfl) (by kernel_rfl) (NQ_free _) (by kernel_rfl) ?cw17R5 ?ch17R5 ?ca17R5 (Eq.refl _) ?cH17R5
  case cw17R5 => (go_simp; done)
  case ch17R5 =>
    intro ds w' hS K hK
    have hc := (ocell hS).1
    have hf := (ocell hS).2
    have hz := hS.size
    try simp at hz
    go_simp
    try go_bits
    first
      | exact hK _ hS (Gr.refl _)
      | fail
  case ca17R5 => (first | (simp [Act.put]; done) | (simp [Act.put, *]; done))
  try dsimp only
  refine wpW_det (t' := ?ct18R5) 18 (by rfl) (by kernel_rfl) (NQ_free _) (by kernel_rfl) ?cw18R5 ?ch18R5 ?ca18R5 (Eq.refl _) ?cH18R5
  case cw18R5 => (go_simp; done)
  case ch18R5 =>
    intro ds w' hS K hK
    have hc := (ocell hS).1
    have hf := (ocell hS).2
    have hz := hS.size
    try simp at hz
    go_simp
    try go_bits
    first
      | exact hK _ hS (Gr.refl _)
      | fail
  case ca18R5 => (first | (simp [Act.put]; done) | (simp [Act.put, *]; done))
  try dsimp only
  refine wpW_det (t' := ?ct19R5) 19 (by rfl) (by kernel_rfl) (NQ_free _) (by kernel_rfl) ?cw19R5 ?ch19R5 ?ca19R5 (Eq.refl _) ?cH19R5
  case cw19R5 => (go_simp; done)
  case ch19R5 =>
    intro ds w' hS K hK
    have hc := (ocell hS).1
    have hf := (ocell hS).2
    have hz := hS.size
    try simp at hz
    go_simp
    try go_bits
    first
      | exact hK _ hS (Gr.refl _)
      | fail
  case ca19R5 => (first | (simp [Act.put]; done) | (simp [Act.put, *]; done))
  try dsimp only
  refine wpW_branch [12, 20] (by kernel_rfl) (by simp) ?_
  intro w1 hg1 hS1
  have M1 := M.drew.gr hg1
  obtain ⟨v1, v2, v3, v4, lg1, gf1⟩ := M1.cells hk
  rw [hfx] at v1
  rw [htx] at v3
  refine each_cons ?_ (each_cons ?_ each_nil)
  · refine wpOp_go (by rfl) (Eq.refl _) (by go_simp; done) ?_
    intro K hK
    go_simp
    try simp only [Act.put]
    refine hK _ _ hS1 ?_
    clear hK K
    refine wpW_det (t' := ?ct13R6) 13 (by rfl) (by kernel_rfl) (NQ_free _) (by kernel_rfl) ?cw13R6 ?ch13R6 ?ca13R6 (Eq.refl _) ?cH13R6
    case cw13R6 => (go_simp; done)
    case ch13R6 =>
      intro ds w' hS K hK
      have hc := (ocell hS).1
      have hf := (ocell hS).2
      have hz := hS.size
      try simp at hz
      go_simp
      try go_bits
      first
        | exact hK _ hS (Gr.refl _)
        | exact hK _ (by repeat (first | (with_reducible exact Below.refl _ _) | (with_reducible assumption) | ((with_reducible refine Below.setCell ?_ ?_ _); rotate_left; · (first | exact Nat.le_refl _ | (simp; done) | (simp; omega) | omega)) | ((with_reducible refine Below.alloc ?_ ?_ _); rotate_left; · (first | exact Nat.le_refl _ | (simp; done) | (simp; omega) | omega)) | (with_reducible apply Below.drew) | (with_reducible apply below_drewN') | (refine Below.trans ?_ (Below.mono (by assumption) (by first | exact Nat.le_refl _ | (simp; done) | (simp; omega) | omega))) | exact Below.refl _ _ | assumption)) (by repeat (first | (with_reducible exact Below.refl _ _) | (with_reducible assumption) | ((with_reducible refine Below.setCell ?_ ?_ _); rotate_left; · (first | exact Nat.le_refl _ | (simp; done) | (simp; omega) | omega)) | ((with_reducible refine Below.alloc ?_ ?_ _); rotate_left; · (first | exact Nat.le_refl _ | (simp; done) | (simp; omega) | omega)) | (with_reducible apply Below.drew) | (with_reducible apply below_drewN') | (refine Below.trans ?_ (Below.mono (by assumption) (by first | exact Nat.le_refl _ | (simp; done) | (simp; omega) | omega))) | exact Below.refl _ _ | assumption))
    case ca13R6 => (first | (simp [Act.put]; done) | (simp [Act.put, *]; done))
    try dsimp only
    refine wpW_branch [20] (by kernel_rfl) (by simp) ?_
    intro w2 hg_w2 hS_w2
    replace M1 := M1.gr hg_w2
    clear v1 v2 v3 v4 lg1 gf1
    obtain ⟨v1, v2, v3, v4, lg1, gf1⟩ := M1.cells hk
    rw [hfx] at v1
    rw [htx] at v3
    refine each_cons ?_ each_nil
    refine wpOp_go (by rfl) (Eq.refl _) (by go_simp; done) ?_
    intro K hK
    go_simp
    try simp only [Act.put]
    refine hK _ _ hS_w2 ?_
    clear hK K
    refine wpW_det (t' := ?ct21R7) 21 (by rfl) (by kernel_rfl) (NQ_free _) (by kernel_rfl) ?cw21R7 ?ch21R7 ?ca21R7 (Eq.refl _) ?cH21R7
    case cw21R7 => (go_simp; done)
    case ch21R7 =>
      intro ds w' hS K hK
      have hc := (ocell hS).1
      have hf := (ocell hS).2
      have hz := hS.size
      try simp at hz
      go_simp
      try go_bits
      first
        | exact hK _ hS (Gr.refl _)
        | exact hK _ (by repeat (first | (with_reducible exact Below.refl _ _) | (with_reducible assumption) | ((with_reducible refine Below.setCell ?_ ?_ _); rotate_left; · (first | exact Nat.le_refl _ | (simp; done) | (simp; omega) | omega)) | ((with_reducible refine Below.alloc ?_ ?_ _); rotate_left; · (first | exact Nat.le_refl _ | (simp; done) | (simp; omega) | omega)) | (with_reducible apply Below.drew) | (with_reducible apply below_drewN') | (refine Below.trans ?_ (Below.mono (by assumption) (by first | exact Nat.le_refl _ | (simp; done) | (simp; omega) | omega))) | exact Below.refl _ _ | assumption)) (by repeat (first | (with_reducible exact Below.refl _ _) | (with_reducible assumption) | ((with_reducible refine Below.setCell ?_ ?_ _); rotate_left; · (first | exact Nat.le_refl _ | (simp; done) | (simp; omega) | omega)) | ((with_reducible refine Below.alloc ?_ ?_ _); rotate_left; · (first | exact Nat.le_refl _ | (simp; done) | (simp; omega) | omega)) | (with_reducible apply Below.drew) | (with_reducible apply below_drewN') | (refine Below.trans ?_ (Below.mono (by assumption) (by first | exact Nat.le_refl _ | (simp; done) | (simp; omega) | omega))) | exact Below.refl _ _ | assumption))
    case ca21R7 => (first | (simp [Act.put]; done) | (simp [Act.put, *]; done))
    try dsimp only
    refine wpW_det (t' := ?ct22R7) 22 (by rfl) (by kernel_rfl) (NQ_free _) (by kernel_rfl) ?cw22R7 ?ch22R7 ?ca22R7 (Eq.refl _) ?cH22R7
    case cw22R7 => (go_simp; done)
    case ch22R7 =>
      intro ds w' hS K hK
      have hc := (ocell hS).1
      have hf := (ocell hS).2
      have hz := hS.size
      try simp at hz
      go_simp
      try go_bits
      first
        | exact hK _ hS (Gr.refl _)
        | exact hK _ (by repeat (first | (with_reducible exact Below.refl _ _) | (with_reducible assumption) | ((with_reducible refine Below.setCell ?_ ?_ _); rotate_left; · (first | exact Nat.le_refl _ | (simp; done) | (simp; omega) | omega)) | ((with_reducible refine Below.alloc ?_ ?_ _); rotate_left; · (first | exact Nat.le_refl _ | (simp; done) | (simp; omega) | omega)) | (with_reducible apply Below.drew) | (with_reducible apply below_drewN') | (refine Below.trans ?_ (Below.mono (by assumption) (by first | exact Nat.le_refl _ | (simp; done) | (simp; omega) | omega))) | exact Below.refl _ _ | assumption)) (by repeat (first | (with_reducible exact Below.refl _ _) | (with_reducible assumption) | ((with_reducible refine Below.setCell ?_ ?_ _); rotate_left; · (first | exact Nat.le_refl _ | (simp; done) | (simp; omega) | omega)) | ((with_reducible refine Below.alloc ?_ ?_ _); rotate_left; · (first | exact Nat.le_refl _ | (simp; done) | (simp; omega) | omega)) | (with_reducible apply Below.drew) | (with_reducible apply below_drewN') | (refine Below.trans ?_ (Below.mono (by assumption) (by first | exact Nat.le_refl _ | (simp; done) | (simp; omega) | omega))) | exact Below.refl _ _ | assumption))
    case ca22R7 => (first | (simp [Act.put]; done) | (simp [Act.put, *]; done))
    try dsimp only
    refine wpW_det (t' := ?ct23R7) 23 (by rfl) (by kernel_rfl) (NQ_free _) (by kernel_rfl) ?cw23R7 ?ch23R7 ?ca23R7 (Eq.refl _) ?cH23R7
    case cw23R7 => (go_simp; done)
    case ch23R7 =>
      intro ds w' hS K hK
      have hc := (ocell hS).1
      have hf := (ocell hS).2
      have hz := hS.size
      try simp at hz
      go_simp
      try go_bits
      first
        | exact hK _ hS (Gr.refl _)
        | exact hK _ (by repeat (first | (with_reducible exact Below.refl _ _) | (with_reducible assumption) | ((with_reducible refine Below.setCell ?_ ?_ _); rotate_left; · (first | exact Nat.le_refl _ | (simp; done) | (simp; omega) | omega)) | ((with_reducible refine Below.alloc ?_ ?_ _); rotate_left; · (first | exact Nat.le_refl _ | (simp; done) | (simp; omega) | omega)) | (with_reducible apply Below.drew) | (with_reducible apply below_drewN') | (refine Below.trans ?_ (Below.mono (by assumption) (by first | exact Nat.le_refl _ | (simp; done) | (simp; omega) | omega))) | exact Below.refl _ _ | assumption)) (by repeat (first | (with_reducible exact Below.refl _ _) | (with_reducible assumption) | ((with_reducible refine Below.setCell ?_ ?_ _); rotate_left; · (first | exact Nat.le_refl _ | (simp; done) | (simp; omega) | omega)) | ((with_reducible refine Below.alloc ?_ ?_ _); rotate_left; · (first | exact Nat.le_refl _ | (simp; done) | (simp; omega) | omega)) | (with_reducible apply Below.drew) | (with_reducible apply below_drewN') | (refine Below.trans ?_ (Below.mono (by assumption) (by first | exact Nat.le_refl _ | (simp; done) | (simp; omega) | omega))) | exact Below.refl _ _ | assumption))
    case ca23R7 => (first | (simp [Act.put]; done) | (simp [Act.put, *]; done))
    try dsimp only
    refine wpW_det (t' := ?ct24R7) 24 (by rfl) (by kernel_rfl) (NQ_free _) (by kernel_rfl) ?cw24R7 ?ch24R7 ?ca24R7 (Eq.refl _) ?cH24R7
    case cw24R7 => (go_simp; done)
    case ch24R7 =>
      intro ds w' hS K hK
      have hc := (ocell hS).1
      have hf := (ocell hS).2
      have hz := hS.size
      try simp at hz
      go_simp
      try go_bits
      first
        | exact hK _ hS (Gr.refl _)
        | exact hK _ (by repeat (first | (with_reducible exact Below.refl _ _) | (with_reducible assumption) | ((with_reducible refine Below.setCell ?_ ?_ _); rotate_left; · (first | exact Nat.le_refl _ | (simp; done) | (simp; omega) | omega)) | ((with_reducible refine Below.alloc ?_ ?_ _); rotate_left; · (first | exact Nat.le_refl _ | (simp; done) | (simp; omega) | omega)) | (with_reducible apply Below.drew) | (with_reducible apply below_drewN') | (refine Below.trans ?_ (Below.mono (by assumption) (by first | exact Nat.le_refl _ | (simp; done) | (simp; omega) | omega))) | exact Below.refl _ _ | assumption)) (by repeat (first | (with_reducible exact Below.refl _ _) | (with_reducible assumption) | ((with_reducible refine Below.setCell ?_ ?_ _); rotate_left; · (first | exact Nat.le_refl _ | (simp; done) | (simp; omega) | omega)) | ((with_reducible refine Below.alloc ?_ ?_ _); rotate_left; · (first | exact Nat.le_refl _ | (simp; done) | (simp; omega) | omega)) | (with_reducible apply Below.drew) | (with_reducible apply below_drewN') | (refine Below.trans ?_ (Below.mono (by assumption) (by first | exact Nat.le_refl _ | (simp; done) | (simp; omega) | omega))) | exact Below.refl _ _ | assumption))
    case ca24R7 => (first | (simp [Act.put]; done) | (simp [Act.put, *]; done))
    try dsimp only
    refine wpW_branch [25] (by kernel_rfl) (by simp) ?_
    intro w3 hg_w3 hS_w3
    replace M1 := M1.gr hg_w3
    clear v1 v2 v3 v4 lg1 gf1
    obtain ⟨v1, v2, v3, v4, lg1, gf1⟩ := M1.cells hk
    refine each_cons ?_ each_nil
    refine wpOp_go (by rfl) (Eq.refl _) (by go_simp; done) ?_
    intro K hK
    go_simp
    try simp only [Act.put]
    refine hK _ _ (only_set' HRW.out hS_w3 _ _) ?_
    replace M1 := M1.storeF hk (-fx)
    clear hK K v1 v2 v3 v4 lg1 gf1
    refine wpW_det (t' := ?ct26R8) 26 (by rfl) (by kernel_rfl) (NQ_free _) (by kernel_rfl) ?cw26R8 ?ch26R8 ?ca26R8 (Eq.refl _) ?cH26R8
    case cw26R8 => (go_simp; done)
    case ch26R8 =>
      intro ds w' hS K hK
      have hc := (ocell hS).1
      have hf := (ocell hS).2
      have hz := hS.size
      try simp at hz
      go_simp
      try go_bits
      first
        | exact hK _ hS (Gr.refl _)
        | exact hK _ (by repeat (first | (with_reducible exact Below.refl _ _) | (with_reducible assumption) | ((with_reducible refine Below.setCell ?_ ?_ _); rotate_left; · (first | exact Nat.le_refl _ | (simp; done) | (simp; omega) | omega)) | ((with_reducible refine Below.alloc ?_ ?_ _); rotate_left; · (first | exact Nat.le_refl _ | (simp; done) | (simp; omega) | omega)) | (with_reducible apply Below.drew) | (with_reducible apply below_drewN') | (refine Below.trans ?_ (Below.mono (by assumption) (by first | exact Nat.le_refl _ | (simp; done) | (simp; omega) | omega))) | exact Below.refl _ _ | assumption)) (by repeat (first | (with_reducible exact Below.refl _ _) | (with_reducible assumption) | ((with_reducible refine Below.setCell ?_ ?_ _); rotate_left; · (first | exact Nat.le_refl _ | (simp; done) | (simp; omega) | omega)) | ((with_reducible refine Below.alloc ?_ ?_ _); rotate_left; · (first | exact Nat.le_refl _ | (simp; done) | (simp; omega) | omega)) | (with_reducible apply Below.drew) | (with_reducible apply below_drewN') | (refine Below.trans ?_ (Below.mono (by assumption) (by first | exact Nat.le_refl _ | (simp; done) | (simp; omega) | omega))) | exact Below.refl _ _ | assumption))
    case ca26R8 => (first | (simp [Act.put]; done) | (simp [Act.put, *]; done))
    try dsimp only
    refine wpW_det (t' := ?ct27R8) 27 (by rfl) (by kernel_rfl) (NQ_free _) (by kernel_rfl) ?cw27R8 ?ch27R8 ?ca27R8 (Eq.refl _) ?cH27R8
    case cw27R8 => (go_simp; done)
    case ch27R8 =>
      intro ds w' hS K hK
      have hc := (ocell hS).1
      have hf := (ocell hS).2
      have hz := hS.size
      try simp at hz
      go_simp
      try go_bits
      first
        | exact hK _ hS (Gr.refl _)
        | exact hK _ (by repeat (first | (with_reducible exact Below.refl _ _) | (with_reducible assumption) | ((with_reducible refine Below.setCell ?_ ?_ _); rotate_left; · (first | exact Nat.le_refl _ | (simp; done) | (simp; omega) | omega)) | ((with_reducible refine Below.alloc ?_ ?_ _); rotate_left; · (first | exact Nat.le_refl _ | (simp; done) | (simp; omega) | omega)) | (with_reducible apply Below.drew) | (with_reducible apply below_drewN') | (refine Below.trans ?_ (Below.mono (by assumption) (by first | exact Nat.le_refl _ | (simp; done) | (simp; omega) | omega))) | exact Below.refl _ _ | assumption)) (by repeat (first | (with_reducible exact Below.refl _ _) | (with_reducible assumption) | ((with_reducible refine Below.setCell ?_ ?_ _); rotate_left; · (first | exact Nat.le_refl _ | (simp; done) | (simp; omega) | omega)) | ((with_reducible refine Below.alloc ?_ ?_ _); rotate_left; · (first | exact Nat.le_refl _ | (simp; done) | (simp; omega) | omega)) | (with_reducible apply Below.drew) | (with_reducible apply below_drewN') | (refine Below.trans ?_ (Below.mono (by assumption) (by first | exact Nat.le_refl _ | (simp; done) | (simp; omega) | omega))) | exact Below.refl _ _ | assumption))
    case ca27R8 => (first | (simp [Act.put]; done) | (simp [Act.put, *]; done))
    try dsimp only
    refine wpW_det (t' := ?ct28R8) 28 (by rfl) (by kernel_rfl) (NQ_free _) (by kernel_rfl) ?cw28R8 ?ch28R8 ?ca28R8 (Eq.refl _) ?cH28R8
    case cw28R8 => (go_simp; done)
    case ch28R8 =>
      intro ds w' hS K hK
      have hc := (ocell hS).1
      have hf := (ocell hS).2
      have hz := hS.size
      try simp at hz
      go_simp
      try go_bits
      first
        | exact hK _ hS (Gr.refl _)
        | exact hK _ (by repeat (first | (with_reducible exact Below.refl _ _) | (with_reducible assumption) | ((with_reducible refine Below.setCell ?_ ?_ _); rotate_left; · (first | exact Nat.le_refl _ | (simp; done) | (simp; omega) | omega)) | ((with_reducible refine Below.alloc ?_ ?_ _); rotate_left; · (first | exact Nat.le_refl _ | (simp; done) | (simp; omega) | omega)) | (with_reducible apply Below.drew) | (with_reducible apply below_drewN') | (refine Below.trans ?_ (Below.mono (by assumption) (by first | exact Nat.le_refl _ | (simp; done) | (simp; omega) | omega))) | exact Below.refl _ _ | assumption)) (by repeat (first | (with_reducible exact Below.refl _ _) | (with_reducible assumption) | ((with_reducible refine Below.setCell ?_ ?_ _); rotate_left; · (first | exact Nat.le_refl _ | (simp; done) | (simp; omega) | omega)) | ((with_reducible refine Below.alloc ?_ ?_ _); rotate_left; · (first | exact Nat.le_refl _ | (simp; done) | (simp; omega) | omega)) | (with_reducible apply Below.drew) | (with_reducible apply below_drewN') | (refine Below.trans ?_ (Below.mono (by assumption) (by first | exact Nat.le_refl _ | (simp; done) | (simp; omega) | omega))) | exact Below.refl _ _ | assumption))
    case ca28R8 => (first | (simp [Act.put]; done) | (simp [Act.put, *]; done))
    try dsimp only
    refine wpW_branch [29] (by kernel_rfl) (by simp) ?_
    intro w4 hg_w4 hS_w4
    replace M1 := M1.gr hg_w4
    obtain ⟨v1, v2, v3, v4, lg1, gf1⟩ := M1.cells (k := kk) (by simpa using hk)
    refine each_cons ?_ each_nil
    refine wpOp_go (by rfl) (Eq.refl _) (by go_simp; done) ?_
    intro K hK
    go_simp
    try simp only [Act.put]
    refine hK _ _ (only_set' HRW.out hS_w4 _ _) ?_
    replace M1 := M1.storeT (k := kk) (by simpa using hk) (-tx)
    clear hK K v1 v2 v3 v4 lg1 gf1
    refine wpW_end (by kernel_rfl) ?_
    intro we hg hS
    unfold NQ
    dsimp only
    rw [HRW.out] at hS
    replace M1 := M1.gr hg
    simp only [List.getElem_set_self, List.set_set] at M1
    have hm : (⟨-fx, fs[kk].2.fz, -tx, fs[kk].2.tz⟩ : Fc) = fs[kk].2.mirror := by rw [← hfx, ← htx]; rfl
    rw [hm] at M1
    exact H.out _ _ _ _ _ _ _ _ _ _ _ _ _ _ _ _ _ _ _ _ _ _ _ _ _ _ _ _ _ M1 hS
  · refine wpOp_go (by rfl) (Eq.refl _) (by go_simp; done) ?_
    intro K hK
    go_simp
    try simp only [Act.put]
    refine hK _ _ hS1 ?_
    clear hK K
    refine wpW_det (t' := ?ct21R9) 21 (by rfl) (by kernel_rfl) (NQ_free _) (by kernel_rfl) ?cw21R9 ?ch21R9 ?ca21R9 (Eq.refl _) ?cH21R9
    case cw21R9 => (go_simp; done)
    case ch21R9 =>
      intro ds w' hS K hK
      have hc := (ocell hS).1
      have hf := (ocell hS).2
      have hz := hS.size
      try simp at hz
      go_simp
      try go_bits
      first
        | exact hK _ hS (Gr.refl _)
        | exact hK _ (by repeat (first | (with_reducible exact Below.refl _ _) | (with_reducible assumption) | ((with_reducible refine Below.setCell ?_ ?_ _); rotate_left; · (first | exact Nat.le_refl _ | (simp; done) | (simp; omega) | omega)) | ((with_reducible refine Below.alloc ?_ ?_ _); rotate_left; · (first | exact Nat.le_refl _ | (simp; done) | (simp; omega) | omega)) | (with_reducible apply Below.drew) | (with_reducible apply below_drewN') | (refine Below.trans ?_ (Below.mono (by assumption) (by first | exact Nat.le_refl _ | (simp; done) | (simp; omega) | omega))) | exact Below.refl _ _ | assumption)) (by repeat (first | (with_reducible exact Below.refl _ _) | (with_reducible assumption) | ((with_reducible refine Below.setCell ?_ ?_ _); rotate_left; · (first | exact Nat.le_refl _ | (simp; done) | (simp; omega) | omega)) | ((with_reducible refine Below.alloc ?_ ?_ _); rotate_left; · (first | exact Nat.le_refl _ | (simp; done) | (simp; omega) | omega)) | (with_reducible apply Below.drew) | (with_reducible apply below_drewN') | (refine Below.trans ?_ (Below.mono (by assumption) (by first | exact Nat.le_refl _ | (simp; done) | (simp; omega) | omega))) | exact Below.refl _ _ | assumption))
    case ca21R9 => (first | (simp [Act.put]; done) | (simp [Act.put, *]; done))
    try dsimp only
    refine wpW_branch [12] (by kernel_rfl) (by simp) ?_
    intro w2 hg_w2 hS_w2
    replace M1 := M1.gr hg_w2
    clear v1 v2 v3 v4 lg1 gf1
    obtain ⟨v1, v2, v3, v4, lg1, gf1⟩ := M1.cells hk
    rw [hfx] at v1
    rw [htx] at v3
    refine each_cons ?_ each_nil
    refine wpOp_go (by rfl) (Eq.refl _) (by go_simp; done) ?_
    intro K hK
    go_simp
    try simp only [Act.put]
    refine hK _ _ hS_w2 ?_
    clear hK K
    refine wpW_det (t' := ?ct13R10) 13 (by rfl) (by kernel_rfl) (NQ_free _) (by kernel_rfl) ?cw13R10 ?ch13R10 ?ca13R10 (Eq.refl _) ?cH13R10
    case cw13R10 => (go_simp; done)
    case ch13R10 =>
      intro ds w' hS K hK
      have hc := (ocell hS).1
      have hf := (ocell hS).2
      have hz := hS.size
      try simp at hz
      go_simp
      try go_bits
      first
        | exact hK _ hS (Gr.refl _)
        | exact hK _ (by repeat (first | (with_reducible exact Below.refl _ _) | (with_reducible assumption) | ((with_reducible refine Below.setCell ?_ ?_ _); rotate_left; · (first | exact Nat.le_refl _ | (simp; done) | (simp; omega) | omega)) | ((with_reducible refine Below.alloc ?_ ?_ _); rotate_left; · (first | exact Nat.le_refl _ | (simp; done) | (simp; omega) | omega)) | (with_reducible apply Below.drew) | (with_reducible apply below_drewN') | (refine Below.trans ?_ (Below.mono (by assumption) (by first | exact Nat.le_refl _ | (simp; done) | (simp; omega) | omega))) | exact Below.refl _ _ | assumption)) (by repeat (first | (with_reducible exact Below.refl _ _) | (with_reducible assumption) | ((with_reducible refine Below.setCell ?_ ?_ _); rotate_left; · (first | exact Nat.le_refl _ | (simp; done) | (simp; omega) | omega)) | ((with_reducible refine Below.alloc ?_ ?_ _); rotate_left; · (first | exact Nat.le_refl _ | (simp; done) | (simp; omega) | omega)) | (with_reducible apply Below.drew) | (with_reducible apply below_drewN') | (refine Below.trans ?_ (Below.mono (by assumption) (by first | exact Nat.le_refl _ | (simp; done) | (simp; omega) | omega))) | exact Below.refl _ _ | assumption))
    case ca13R10 => (first | (simp [Act.put]; done) | (simp [Act.put, *]; done))
    try dsimp only
    refine wpW_det (t' := ?ct22R10) 22 (by rfl) (by kernel_rfl) (NQ_free _) (by kernel_rfl) ?cw22R10 ?ch22R10 ?ca22R10 (Eq.refl _) ?cH22R10
    case cw22R10 => (go_simp; done)
    case ch22R10 =>
      intro ds w' hS K hK
      have hc := (ocell hS).1
      have hf := (ocell hS).2
      have hz := hS.size
      try simp at hz
      go_simp
      try go_bits
      first
        | exact hK _ hS (Gr.refl _)
        | exact hK _ (by repeat (first | (with_reducible exact Below.refl _ _) | (with_reducible assumption) | ((with_reducible refine Below.setCell ?_ ?_ _); rotate_left; · (first | exact Nat.le_refl _ | (simp; done) | (simp; omega) | omega)) | ((with_reducible refine Below.alloc ?_ ?_ _); rotate_left; · (first | exact Nat.le_refl _ | (simp; done) | (simp; omega) | omega)) | (with_reducible apply Below.drew) | (with_reducible apply below_drewN') | (refine Below.trans ?_ (Below.mono (by assumption) (by first | exact Nat.le_refl _ | (simp; done) | (simp; omega) | omega))) | exact Below.refl _ _ | assumption)) (by repeat (first | (with_reducible exact Below.refl _ _) | (with_reducible assumption) | ((with_reducible refine Below.setCell ?_ ?_ _); rotate_left; · (first | exact Nat.le_refl _ | (simp; done) | (simp; omega) | omega)) | ((with_reducible refine Below.alloc ?_ ?_ _); rotate_left; · (first | exact Nat.le_refl _ | (simp; done) | (simp; omega) | omega)) | (with_reducible apply Below.drew) | (with_reducible apply below_drewN') | (refine Below.trans ?_ (Below.mono (by assumption) (by first | exact Nat.le_refl _ | (simp; done) | (simp; omega) | omega))) | exact Below.refl _ _ | assumption))
    case ca22R10 => (first | (simp [Act.put]; done) | (simp [Act.put, *]; done))
    try dsimp only
    refine wpW_det (t' := ?ct23R10) 23 (by rfl) (by kernel_rfl) (NQ_free _) (by kernel_rfl) ?cw23R10 ?ch23R10 ?ca23R10 (Eq.refl _) ?cH23R10
    case cw23R10 => (go_simp; done)
    case ch23R10 =>
      intro ds w' hS K hK
      have hc := (ocell hS).1
      have hf := (ocell hS).2
      have hz := hS.size
      try simp at hz
      go_simp
      try go_bits
      first
        | exact hK _ hS (Gr.refl _)
        | exact hK _ (by repeat (first | (with_reducible exact Below.refl _ _) | (with_reducible assumption) | ((with_reducible refine Below.setCell ?_ ?_ _); rotate_left; · (first | exact Nat.le_refl _ | (simp; done) | (simp; omega) | omega)) | ((with_reducible refine Below.alloc ?_ ?_ _); rotate_left; · (first | exact Nat.le_refl _ | (simp; done) | (simp; omega) | omega)) | (with_reducible apply Below.drew) | (with_reducible apply below_drewN') | (refine Below.trans ?_ (Below.mono (by assumption) (by first | exact Nat.le_refl _ | (simp; done) | (simp; omega) | omega))) | exact Below.refl _ _ | assumption)) (by repeat (first | (with_reducible exact Below.refl _ _) | (with_reducible assumption) | ((with_reducible refine Below.setCell ?_ ?_ _); rotate_left; · (first | exact Nat.le_refl _ | (simp; done) | (simp; omega) | omega)) | ((with_reducible refine Below.alloc ?_ ?_ _); rotate_left; · (first | exact Nat.le_refl _ | (simp; done) | (simp; omega) | omega)) | (with_reducible apply Below.drew) | (with_reducible apply below_drewN') | (refine Below.trans ?_ (Below.mono (by assumption) (by first | exact Nat.le_refl _ | (simp; done) | (simp; omega) | omega))) | exact Below.refl _ _ | assumption))
    case ca23R10 => (first | (simp [Act.put]; done) | (simp [Act.put, *]; done))
    try dsimp only
    refine wpW_det (t' := ?ct24R10) 24 (by rfl) (by kernel_rfl) (NQ_free _) (by kernel_rfl) ?cw24R10 ?ch24R10 ?ca24R10 (Eq.refl _) ?cH24R10
    case cw24R10 => (go_simp; done)
    case ch24R10 =>
      intro ds w' hS K hK
      have hc := (ocell hS).1
      have hf := (ocell hS).2
      have hz := hS.size
      try simp at hz
      go_simp
      try go_bits
      first
        | exact hK _ hS (Gr.refl _)
        | exact hK _ (by repeat (first | (with_reducible exact Below.refl _ _) | (with_reducible assumption) | ((with_reducible refine Below.setCell ?_ ?_ _); rotate_left; · (first | exact Nat.le_refl _ | (simp; done) | (simp; omega) | omega)) | ((with_reducible refine Below.alloc ?_ ?_ _); rotate_left; · (first | exact Nat.le_refl _ | (simp; done) | (simp; omega) | omega)) | (with_reducible apply Below.drew) | (with_reducible apply below_drewN') | (refine Below.trans ?_ (Below.mono (by assumption) (by first | exact Nat.le_refl _ | (simp; done) | (simp; omega) | omega))) | exact Below.refl _ _ | assumption)) (by repeat (first | (with_reducible exact Below.refl _ _) | (with_reducible assumption) | ((with_reducible refine Below.setCell ?_ ?_ _); rotate_left; · (first | exact Nat.le_refl _ | (simp; done) | (simp; omega) | omega)) | ((with_reducible refine Below.alloc ?_ ?_ _); rotate_left; · (first | exact Nat.le_refl _ | (simp; done) | (simp; omega) | omega)) | (with_reducible apply Below.drew) | (with_reducible apply below_drewN') | (refine Below.trans ?_ (Below.mono (by assumption) (by first | exact Nat.le_refl _ | (simp; done) | (simp; omega) | omega))) | exact Below.refl _ _ | assumption))
    case ca24R10 => (first | (simp [Act.put]; done) | (simp [Act.put, *]; done))
    try dsimp only
    refine wpW_branch [25] (by kernel_rfl) (by simp) ?_
    intro w3 hg_w3 hS_w3
    replace M1 := M1.gr hg_w3
    clear v1 v2 v3 v4 lg1 gf1
    obtain ⟨v1, v2, v3, v4, lg1, gf1⟩ := M1.cells hk
    refine each_cons ?_ each_nil
    refine wpOp_go (by rfl) (Eq.refl _) (by go_simp; done) ?_
    intro K hK
    go_simp
    try simp only [Act.put]
    refine hK _ _ (only_set' HRW.out hS_w3 _ _) ?_
    replace M1 := M1.storeF hk (-fx)
    clear hK K v1 v2 v3 v4 lg1 gf1
    refine wpW_det (t' := ?ct26R11) 26 (by rfl) (by kernel_rfl) (NQ_free _) (by kernel_rfl) ?cw26R11 ?ch26R11 ?ca26R11 (Eq.refl _) ?cH26R11
    case cw26R11 => (go_simp; done)
    case ch26R11 =>
      intro ds w' hS K hK
      have hc := (ocell hS).1
      have hf := (ocell hS).2
      have hz := hS.size
      try simp at hz
      go_simp
      try go_bits
      first
        | exact hK _ hS (Gr.refl _)
        | exact hK _ (by repeat (first | (with_reducible exact Below.refl _ _) | (with_reducible assumption) | ((with_reducible refine Below.setCell ?_ ?_ _); rotate_left; · (first | exact Nat.le_refl _ | (simp; done) | (simp; omega) | omega)) | ((with_reducible refine Below.alloc ?_ ?_ _); rotate_left; · (first | exact Nat.le_refl _ | (simp; done) | (simp; omega) | omega)) | (with_reducible apply Below.drew) | (with_reducible apply below_drewN') | (refine Below.trans ?_ (Below.mono (by assumption) (by first | exact Nat.le_refl _ | (simp; done) | (simp; omega) | omega))) | exact Below.refl _ _ | assumption)) (by repeat (first | (with_reducible exact Below.refl _ _) | (with_reducible assumption) | ((with_reducible refine Below.setCell ?_ ?_ _); rotate_left; · (first | exact Nat.le_refl _ | (simp; done) | (simp; omega) | omega)) | ((with_reducible refine Below.alloc ?_ ?_ _); rotate_left; · (first | exact Nat.le_refl _ | (simp; done) | (simp; omega) | omega)) | (with_reducible apply Below.drew) | (with_reducible apply below_drewN') | (refine Below.trans ?_ (Below.mono (by assumption) (by first | exact Nat.le_refl _ | (simp; done) | (simp; omega) | omega))) | exact Below.refl _ _ | assumption))
    case ca26R11 => (first | (simp [Act.put]; done) | (simp [Act.put, *]; done))
    try dsimp only
    refine wpW_det (t' := ?ct27R11) 27 (by rfl) (by kernel_rfl) (NQ_free _) (by kernel_rfl) ?cw27R11 ?ch27R11 ?ca27R11 (Eq.refl _) ?cH27R11
    case cw27R11 => (go_simp; done)
    case ch27R11 =>
      intro ds w' hS K hK
      have hc := (ocell hS).1
      have hf := (ocell hS).2
      have hz := hS.size
      try simp at hz
      go_simp
      try go_bits
      first
        | exact hK _ hS (Gr.refl _)
        | exact hK _ (by repeat (first | (with_reducible exact Below.refl _ _) | (with_reducible assumption) | ((with_reducible refine Below.setCell ?_ ?_ _); rotate_left; · (first | exact Nat.le_refl _ | (simp; done) | (simp; omega) | omega)) | ((with_reducible refine Below.alloc ?_ ?_ _); rotate_left; · (first | exact Nat.le_refl _ | (simp; done) | (simp; omega) | omega)) | (with_reducible apply Below.drew) | (with_reducible apply below_drewN') | (refine Below.trans ?_ (Below.mono (by assumption) (by first | exact Nat.le_refl _ | (simp; done) | (simp; omega) | omega))) | exact Below.refl _ _ | assumption)) (by repeat (first | (with_reducible exact Below.refl _ _) | (with_reducible assumption) | ((with_reducible refine Below.setCell ?_ ?_ _); rotate_left; · (first | exact Nat.le_refl _ | (simp; done) | (simp; omega) | omega)) | ((with_reducible refine Below.alloc ?_ ?_ _); rotate_left; · (first | exact Nat.le_refl _ | (simp; done) | (simp; omega) | omega)) | (with_reducible apply Below.drew) | (with_reducible apply below_drewN') | (refine Below.trans ?_ (Below.mono (by assumption) (by first | exact Nat.le_refl _ | (simp; done) | (simp; omega) | omega))) | exact Below.refl _ _ | assumption))
    case ca27R11 => (first | (simp [Act.put]; done) | (simp [Act.put, *]; done))
    try dsimp only
    refine wpW_det (t' := ?ct28R11) 28 (by rfl) (by kernel_rfl) (NQ_free _) (by kernel_rfl) ?cw28R11 ?ch28R11 ?ca28R11 (Eq.refl _) ?cH28R11
    case cw28R11 => (go_simp; done)
    case ch28R11 =>
      intro ds w' hS K hK
      have hc := (ocell hS).1
      have hf := (ocell hS).2
      have hz := hS.size
      try simp at hz
      go_simp
      try go_bits
      first
        | exact hK _ hS (Gr.refl _)
        | exact hK _ (by repeat (first | (with_reducible exact Below.refl _ _) | (with_reducible assumption) | ((with_reducible refine Below.setCell ?_ ?_ _); rotate_left; · (first | exact Nat.le_refl _ | (simp; done) | (simp; omega) | omega)) | ((with_reducible refine Below.alloc ?_ ?_ _); rotate_left; · (first | exact Nat.le_refl _ | (simp; done) | (simp; omega) | omega)) | (with_reducible apply Below.drew) | (with_reducible apply below_drewN') | (refine Below.trans ?_ (Below.mono (by assumption) (by first | exact Nat.le_refl _ | (simp; done) | (simp; omega) | omega))) | exact Below.refl _ _ | assumption)) (by repeat (first | (with_reducible exact Below.refl _ _) | (with_reducible assumption) | ((with_reducible refine Below.setCell ?_ ?_ _); rotate_left; · (first | exact Nat.le_refl _ | (simp; done) | (simp; omega) | omega)) | ((with_reducible refine Below.alloc ?_ ?_ _); rotate_left; · (first | exact Nat.le_refl _ | (simp; done) | (simp; omega) | omega)) | (with_reducible apply Below.drew) | (with_reducible apply below_drewN') | (refine Below.trans ?_ (Below.mono (by assumption) (by first | exact Nat.le_refl _ | (simp; done) | (simp; omega) | omega))) | exact Below.refl _ _ | assumption))
    case ca28R11 => (first | (simp [Act.put]; done) | (simp [Act.put, *]; done))
    try dsimp only
    refine wpW_branch [29] (by kernel_rfl) (by simp) ?_
    intro w4 hg_w4 hS_w4
    replace M1 := M1.gr hg_w4
    obtain ⟨v1, v2, v3, v4, lg1, gf1⟩ := M1.cells (k := kk) (by simpa using hk)
    refine each_cons ?_ each_nil
    refine wpOp_go (by rfl) (Eq.refl _) (by go_simp; done) ?_
    intro K hK
    go_simp
    try simp only [Act.put]
    refine hK _ _ (only_set' HRW.out hS_w4 _ _) ?_
    replace M1 := M1.storeT (k := kk) (by simpa using hk) (-tx)
    clear hK K v1 v2 v3 v4 lg1 gf1
    refine wpW_end (by kernel_rfl) ?_
    intro we hg hS
    unfold NQ
    dsimp only
    rw [HRW.out] at hS
    replace M1 := M1.gr hg
    simp only [List.getElem_set_self, List.set_set] at M1
    have hm : (⟨-fx, fs[kk].2.fz, -tx, fs[kk].2.tz⟩ : Fc) = fs[kk].2.mirror := by rw [← hfx, ← htx]; rfl
    rw [hm] at M1
    exact H.out _ _ _ _ _ _ _ _ _ _ _ _ _ _ _ _ _ _ _ _ _ _ _ _ _ _ _ _ _ M1 hS

set_option maxRecDepth 100000 in
set_option maxHeartbeats 4000000 in
/-- A face is turned (region 14). -/
theorem storeReg14 {w : World} {base : Nat} {j : Jo} {face : Int} {sn : ByteArray} {s : Su} {p q g c : Nat} {fs : List (ByteArray × Fc)} (M : Made w base j face sn s p q g c fs) (kk : Nat) (hk : kk < fs.length) (hx : -20000 ≤ fs[kk].2.fx ∧ fs[kk].2.fx ≤ 20000) (hy : -20000 ≤ fs[kk].2.tx ∧ fs[kk].2.tx ≤ 20000) (by_ : Int) (hby : -1000 ≤ by_ ∧ by_ ≤ 1000) {t0 t1 t3 t4 t5 t6 t7 t8 t9 t10 t12 t14 t15 t16 t17 t18 t19 t20 t21 t22 t23 t24 t25 t26 t27 t28 t29 t30 t31 t32 t33 t34 t35 t36 t37 t38 t39 t40 t41 t42 t43 t44 t45 t46 t47 t48 t49 t50 t51 t52 t53 t54 t55 t56 t57 t58 t59 t60 t61 t62 t63 t64 t65 t66 t67 t68 t69 t70 t71 t72 t73 t74 t75 t76 t77 t78 t79 t80 t81 t82 t83 t84 t85 t86 t87 t88 t89 t90 t91 t92 t93 t94 t95 t96 t97 t98 t99 t100 t101 t102 t103 t104 t105 t106 t107 t108 t109 t110 t111 t112 t113 t114 t115 t116 t117 t118 t119 t120 t121 t122 t123 t124 t125 t126 t127 t128 t129 t130 t131 t132 t133 t134 t135 t136 t137 t138 t139 t140 t141 t142 t143 t144 t145 t146 t147 t148 t149 t150 t151 t152 t153 t154 t155 t156 t157 t158 t159 t160 t161 t162 t163 t164 t165 t166 t167 t168 t169 t170 t171 t172 t173 t174 t175 t176 t177 t178 t179 t180 t181 t182 t183 t184 t185 t186 t187 t188 t189 t190 t191 t192 t193 t194 t195 t196 t197 t198 t199 t200 t201 t202 t203 t204 t205 t206 t207 t208 t209 t210 t211 t212 t213 t214 t215 t216 t217 t218 t219 t220 t221 t222 t223 t224 t225 t226 t227 t228 t229 t230 t231 t232 t233 t234 t235 t236 t237 t238 t239 t240 t241 t242 t243 : Value}
    {ds : List Deferred} (Q : Exit → Act → World → Prop)
    (h : ∀ (t111 t112 t113 t114 t115 t116 t117 t118 t119 t120 t121 t122 t123 t124 t125 t126 t127 t128 t129 t130 t131 t132 t133 t134 t135 t136 t137 t138 t139 t140 : Value) (w' : World), Made w' base j face sn s p q g c (fs.set kk (fs[kk].1, Fc.move fs[kk].2 by_)) → w.grownBy w' (some g) → Q .normal ⟨#[t0, t1, .int .i64 by_, t3, t4, t5, t6, t7, t8, t9, t10, .pointer (some ⟨p, 0, none⟩), t12, .int .i64 kk, t14, t15, t16, t17, t18, t19, t20, t21, t22, t23, t24, t25, t26, t27, t28, t29, t30, t31, t32, t33, t34, t35, t36, t37, t38, t39, t40, t41, t42, t43, t44, t45, t46, t47, t48, t49, t50, t51, t52, t53, t54, t55, t56, t57, t58, t59, t60, t61, t62, t63, t64, t65, t66, t67, t68, t69, t70, t71, t72, t73, t74, t75, t76, t77, t78, t79, t80, t81, t82, t83, t84, t85, t86, t87, t88, t89, t90, t91, t92, t93, t94, t95, t96, t97, t98, t99, t100, t101, t102, t103, t104, t105, t106, t107, t108, t109, t110, t111, t112, t113, t114, t115, t116, t117, t118, t119, t120, t121, t122, t123, t124, t125, t126, t127, t128, t129, t130, t131, t132, t133, t134, t135, t136, t137, t138, t139, t140, t141, t142, t143, t144, t145, t146, t147, t148, t149, t150, t151, t152, t153, t154, t155, t156, t157, t158, t159, t160, t161, t162, t163, t164, t165, t166, t167, t168, t169, t170, t171, t172, t173, t174, t175, t176, t177, t178, t179, t180, t181, t182, t183, t184, t185, t186, t187, t188, t189, t190, t191, t192, t193, t194, t195, t196, t197, t198, t199, t200, t201, t202, t203, t204, t205, t206, t207, t208, t209, t210, t211, t212, t213, t214, t215, t216, t217, t218, t219, t220, t221, t222, t223, t224, t225, t226, t227, t228, t229, t230, t231, t232, t233, t234, t235, t236, t237, t238, t239, t240, t241, t242, t243], ds⟩ w') :
    (regOf Tryz.f4 14).wp Tryz.prog Q ⟨#[t0, t1, .int .i64 by_, t3, t4, t5, t6, t7, t8, t9, t10, .pointer (some ⟨p, 0, none⟩), t12, .int .i64 kk, t14, t15, t16, t17, t18, t19, t20, t21, t22, t23, t24, t25, t26, t27, t28, t29, t30, t31, t32, t33, t34, t35, t36, t37, t38, t39, t40, t41, t42, t43, t44, t45, t46, t47, t48, t49, t50, t51, t52, t53, t54, t55, t56, t57, t58, t59, t60, t61, t62, t63, t64, t65, t66, t67, t68, t69, t70, t71, t72, t73, t74, t75, t76, t77, t78, t79, t80, t81, t82, t83, t84, t85, t86, t87, t88, t89, t90, t91, t92, t93, t94, t95, t96, t97, t98, t99, t100, t101, t102, t103, t104, t105, t106, t107, t108, t109, t110, t111, t112, t113, t114, t115, t116, t117, t118, t119, t120, t121, t122, t123, t124, t125, t126, t127, t128, t129, t130, t131, t132, t133, t134, t135, t136, t137, t138, t139, t140, t141, t142, t143, t144, t145, t146, t147, t148, t149, t150, t151, t152, t153, t154, t155, t156, t157, t158, t159, t160, t161, t162, t163, t164, t165, t166, t167, t168, t169, t170, t171, t172, t173, t174, t175, t176, t177, t178, t179, t180, t181, t182, t183, t184, t185, t186, t187, t188, t189, t190, t191, t192, t193, t194, t195, t196, t197, t198, t199, t200, t201, t202, t203, t204, t205, t206, t207, t208, t209, t210, t211, t212, t213, t214, t215, t216, t217, t218, t219, t220, t221, t222, t223, t224, t225, t226, t227, t228, t229, t230, t231, t232, t233, t234, t235, t236, t237, t238, t239, t240, t241, t242, t243], ds⟩ w := by
  have H := Lib.hid h; clear h
  have hl := M.len
  obtain ⟨q1, q2, q3, q4, lg, gf⟩ := M.cells hk
  obtain ⟨t0, t1, t2, t3⟩ := blk4c M.joint
  have lp := M.joint.lt
  have hkc : (kk : Int) < (j.fs.length : Int) := by omega
  have hk0 : (0 : Int) ≤ (kk : Int) := by omega
  generalize hfx : fs[kk].2.fx = fx at *
  generalize htx : fs[kk].2.tx = tx at *
  conv in (regOf _ _) => whnf
  obtain ⟨row, hrow⟩ : ∃ r : Option Nat, r = some g := ⟨_, rfl⟩
  have m1 : some p ≠ row := by rw [hrow]; obtain ⟨cs, h3, _⟩ := M.faces; have := M.joint.ne_ h3 (by decide); simpa using this
  have HRW := Lib.hid hrow; clear hrow
  refine wp_region_w (fun w' => World.grownBy _ w' row) (by kernel_rfl) (only_drew (World.grownBy.refl _ _)) ?_
  refine wpW_det (t' := ?ct0R12) 0 (by rfl) (by kernel_rfl) (NQ_free _) (by kernel_rfl) ?cw0R12 ?ch0R12 ?ca0R12 (Eq.refl _) ?cH0R12
  case cw0R12 => (go_simp; done)
  case ch0R12 =>
    intro ds w' hS K hK
    have hc := (ocell hS).1
    have hf := (ocell hS).2
    have hz := hS.size
    try simp at hz
    go_simp
    try go_bits
    first
      | exact hK _ hS (Gr.refl _)
      | fail
  case ca0R12 => (first | (simp [Act.put]; done) | (simp [Act.put, *]; done))
  try dsimp only
  refine wpW_det (t' := ?ct1R12) 1 (by rfl) (by kernel_rfl) (NQ_free _) (by kernel_rfl) ?cw1R12 ?ch1R12 ?ca1R12 (Eq.refl _) ?cH1R12
  case cw1R12 => (go_simp; done)
  case ch1R12 =>
    intro ds w' hS K hK
    have hc := (ocell hS).1
    have hf := (ocell hS).2
    have hz := hS.size
    try simp at hz
    go_simp
    try go_bits
    first
      | exact hK _ hS (Gr.refl _)
      | fail
  case ca1R12 => (first | (simp [Act.put]; done) | (simp [Act.put, *]; done))
  try dsimp only
  refine wpW_det (t' := ?ct2R12) 2 (by rfl) (by kernel_rfl) (NQ_free _) (by kernel_rfl) ?cw2R12 ?ch2R12 ?ca2R12 (Eq.refl _) ?cH2R12
  case cw2R12 => (go_simp; done)
  case ch2R12 =>
    intro ds w' hS K hK
    have hc := (ocell hS).1
    have hf := (ocell hS).2
    have hz := hS.size
    try simp at hz
    go_simp
    try go_bits
    first
      | exact hK _ hS (Gr.refl _)
      | fail
  case ca2R12 => (first | (simp [Act.put]; done) | (simp [Act.put, *]; done))
  try dsimp only
  refine wpW_det (t' := ?ct3R12) 3 (by rfl) (by kernel_rfl) (NQ_free _) (by kernel_rfl) ?cw3R12 ?ch3R12 ?ca3R12 (Eq.refl _) ?cH3R12
  case cw3R12 => (go_simp; done)
  case ch3R12 =>
    intro ds w' hS K hK
    have hc := (ocell hS).1
    have hf := (ocell hS).2
    have hz := hS.size
    try simp at hz
    go_simp
    try go_bits
    first
      | exact hK _ hS (Gr.refl _)
      | fail
  case ca3R12 => (first | (simp [Act.put]; done) | (simp [Act.put, *]; done))
  try dsimp only
  refine wpW_det (t' := ?ct4R12) 4 (by rfl) (by kernel_rfl) (NQ_free _) (by kernel_rfl) ?cw4R12 ?ch4R12 ?ca4R12 (Eq.refl _) ?cH4R12
  case cw4R12 => (go_simp; done)
  case ch4R12 =>
    intro ds w' hS K hK
    have hc := (ocell hS).1
    have hf := (ocell hS).2
    have hz := hS.size
    try simp at hz
    go_simp
    try go_bits
    first
      | exact hK _ hS (Gr.refl _)
      | fail
  case ca4R12 => (first | (simp [Act.put]; done) | (simp [Act.put, *]; done))
  try dsimp only
  refine wpW_det (t' := ?ct5R12) 5 (by rfl) (by kernel_rfl) (NQ_free _) (by kernel_rfl) ?cw5R12 ?ch5R12 ?ca5R12 (Eq.refl _) ?cH5R12
  case cw5R12 => (go_simp; done)
  case ch5R12 =>
    intro ds w' hS K hK
    have hc := (ocell hS).1
    have hf := (ocell hS).2
    have hz := hS.size
    try simp at hz
    go_simp
    try go_bits
    first
      | exact hK _ hS (Gr.refl _)
      | fail
  case ca5R12 => (first | (simp [Act.put]; done) | (simp [Act.put, *]; done))
  try dsimp only
  refine wpW_det (t' := ?ct6R12) 6 (by rfl) (by kernel_rfl) (NQ_free _) (by kernel_rfl) ?cw6R12 ?ch6R12 ?ca6R12 (Eq.refl _) ?cH6R12
  case cw6R12 => (go_simp; done)
  case ch6R12 =>
    intro ds w' hS K hK
    have hc := (ocell hS).1
    have hf := (ocell hS).2
    have hz := hS.size
    try simp at hz
    go_simp
    try go_bits
    first
      | exact hK _ hS (Gr.refl _)
      | fail
  case ca6R12 => (first | (simp [Act.put]; done) | (simp [Act.put, *]; done))
  try dsimp only
  refine wpW_det (t' := ?ct7R12) 7 (by rfl) (by kernel_rfl) (NQ_free _) (by kernel_rfl) ?cw7R12 ?ch7R12 ?ca7R12 (Eq.refl _) ?cH7R12
  case cw7R12 => (go_simp; done)
  case ch7R12 =>
    intro ds w' hS K hK
    have hc := (ocell hS).1
    have hf := (ocell hS).2
    have hz := hS.size
    try simp at hz
    go_simp
    try go_bits
    first
      | exact hK _ hS (Gr.refl _)
      | fail
  case ca7R12 => (first | (simp [Act.put]; done) | (simp [Act.put, *]; done))
  try dsimp only
  refine wpW_det (t' := ?ct8R12) 8 (by rfl) (by kernel_rfl) (NQ_free _) (by kernel_rfl) ?cw8R12 ?ch8R12 ?ca8R12 (Eq.refl _) ?cH8R12
  case cw8R12 => (go_simp; done)
  case ch8R12 =>
    intro ds w' hS K hK
    have hc := (ocell hS).1
    have hf := (ocell hS).2
    have hz := hS.size
    try simp at hz
    go_simp
    try go_bits
    first
      | exact hK _ hS (Gr.refl _)
      | fail
  case ca8R12 => (first | (simp [Act.put]; done) | (simp [Act.put, *]; done))
  try dsimp only
  refine wpW_det (t' := ?ct9R12) 9 (by rfl) (by kernel_rfl) (NQ_free _) (by kernel_rfl) ?cw9R12 ?ch9R12 ?ca9R12 (Eq.refl _) ?cH9R12
  case cw9R12 => (go_simp; done)
  case ch9R12 =>
    intro ds w' hS K hK
    have hc := (ocell hS).1
    have hf := (ocell hS).2
    have hz := hS.size
    try simp at hz
    go_simp
    try go_bits
    first
      | exact hK _ hS (Gr.refl _)
      | fail
  case ca9R12 => (first | (simp [Act.put]; done) | (simp [Act.put, *]; done))
  try dsimp only
  refine wpW_det (t' := ?ct10R12) 10 (by rfl) (by kernel_rfl) (NQ_free _) (by kernel_rfl) ?cw10R12 ?ch10R12 ?ca10R12 (Eq.refl _) ?cH10R12
  case cw10R12 => (go_simp; done)
  case ch10R12 =>
    intro ds w' hS K hK
    have hc := (ocell hS).1
    have hf := (ocell hS).2
    have hz := hS.size
    try simp at hz
    go_simp
    try go_bits
    first
      | exact hK _ hS (Gr.refl _)
      | fail
  case ca10R12 => (first | (simp [Act.put]; done) | (simp [Act.put, *]; done))
  try dsimp only
  refine wpW_det (t' := ?ct11R12) 11 (by rfl) (by kernel_rfl) (NQ_free _) (by kernel_rfl) ?cw11R12 ?ch11R12 ?ca11R12 (Eq.refl _) ?cH11R12
  case cw11R12 => (go_simp; done)
  case ch11R12 =>
    intro ds w' hS K hK
    have hc := (ocell hS).1
    have hf := (ocell hS).2
    have hz := hS.size
    try simp at hz
    go_simp
    try go_bits
    first
      | exact hK _ hS (Gr.refl _)
      | fail
  case ca11R12 => (first | (simp [Act.put]; done) | (simp [Act.put, *]; done))
  try dsimp only
  refine wpW_det (t' := ?ct13R12) 13 (by rfl) (by kernel_rfl) (NQ_free _) (by kernel_rfl) ?cw13R12 ?ch13R12 ?ca13R12 (Eq.refl _) ?cH13R12
  case cw13R12 => (go_simp; done)
  case ch13R12 =>
    intro ds w' hS K hK
    have hc := (ocell hS).1
    have hf := (ocell hS).2
    have hz := hS.size
    try simp at hz
    go_simp
    try go_bits
    first
      | exact hK _ hS (Gr.refl _)
      | fail
  case ca13R12 => (first | (simp [Act.put]; done) | (simp [Act.put, *]; done))
  try dsimp only
  refine wpW_det (t' := ?ct15R12) 15 (by rfl) (by kernel_rfl) (NQ_free _) (by kernel_rfl) ?cw15R12 ?ch15R12 ?ca15R12 (Eq.refl _) ?cH15R12
  case cw15R12 => (go_simp; done)
  case ch15R12 =>
    intro ds w' hS K hK
    have hc := (ocell hS).1
    have hf := (ocell hS).2
    have hz := hS.size
    try simp at hz
    go_simp
    try go_bits
    first
      | exact hK _ hS (Gr.refl _)
      | fail
  case ca15R12 => (first | (simp [Act.put]; done) | (simp [Act.put, *]; done))
  try dsimp only
  refine wpW_det (t' := ?ct16R12) 16 (by rfl) (by kernel_rfl) (NQ_free _) (by kernel_rfl) ?cw16R12 ?ch16R12 ?ca16R12 (Eq.refl _) ?cH16R12
  case cw16R12 => (go_simp; done)
  case ch16R12 =>
    intro ds w' hS K hK
    have hc := (ocell hS).1
    have hf := (ocell hS).2
    have hz := hS.size
    try simp at hz
    go_simp
    try go_bits
    first
      | exact hK _ hS (Gr.refl _)
      | fail
  case ca16R12 => (first | (simp [Act.put]; done) | (simp [Act.put, *]; done))
  try dsimp only
  refine wpW_det (t' := ?ct17R12) 17 (by rfl) (by kernel_rfl) (NQ_free _) (by kernel_rfl) ?cw17R12 ?ch17R12 ?ca17R12 (Eq.refl _) ?cH17R12
  case cw17R12 => (go_simp; done)
  case ch17R12 =>
    intro ds w' hS K hK
    have hc := (ocell hS).1
    have hf := (ocell hS).2
    have hz := hS.size
    try simp at hz
    go_simp
    try go_bits
    first
      | exact hK _ hS (Gr.refl _)
      | fail
  case ca17R12 => (first | (simp [Act.put]; done) | (simp [Act.put, *]; done))
  try dsimp only
  refine wpW_det (t' := ?ct18R12) 18 (by rfl) (by kernel_rfl) (NQ_free _) (by kernel_rfl) ?cw18R12 ?ch18R12 ?ca18R12 (Eq.refl _) ?cH18R12
  case cw18R12 => (go_simp; done)
  case ch18R12 =>
    intro ds w' hS K hK
    have hc := (ocell hS).1
    have hf := (ocell hS).2
    have hz := hS.size
    try simp at hz
    go_simp
    try go_bits
    first
      | exact hK _ hS (Gr.refl _)
      | fail
  case ca18R12 => (first | (simp [Act.put]; done) | (simp [Act.put, *]; done))
  try dsimp only
  refine wpW_det (t' := ?ct19R12) 19 (by rfl) (by kernel_rfl) (NQ_free _) (by kernel_rfl) ?cw19R12 ?ch19R12 ?ca19R12 (Eq.refl _) ?cH19R12
  case cw19R12 => (go_simp; done)
  case ch19R12 =>
    intro ds w' hS K hK
    have hc := (ocell hS).1
    have hf := (ocell hS).2
    have hz := hS.size
    try simp at hz
    go_simp
    try go_bits
    first
      | exact hK _ hS (Gr.refl _)
      | fail
  case ca19R12 => (first | (simp [Act.put]; done) | (simp [Act.put, *]; done))
  try dsimp only
  refine wpW_det (t' := ?ct20R12) 20 (by rfl) (by kernel_rfl) (NQ_free _) (by kernel_rfl) ?cw20R12 ?ch20R12 ?ca20R12 (Eq.refl _) ?cH20R12
  case cw20R12 => (go_simp; done)
  case ch20R12 =>
    intro ds w' hS K hK
    have hc := (ocell hS).1
    have hf := (ocell hS).2
    have hz := hS.size
    try simp at hz
    go_simp
    try go_bits
    first
      | exact hK _ hS (Gr.refl _)
      | fail
  case ca20R12 => (first | (simp [Act.put]; done) | (simp [Act.put, *]; done))
  try dsimp only
  refine wpW_det (t' := ?ct22R12) 22 (by rfl) (by kernel_rfl) (NQ_free _) (by kernel_rfl) ?cw22R12 ?ch22R12 ?ca22R12 (Eq.refl _) ?cH22R12
  case cw22R12 => (go_simp; done)
  case ch22R12 =>
    intro ds w' hS K hK
    have hc := (ocell hS).1
    have hf := (ocell hS).2
    have hz := hS.size
    try simp at hz
    go_simp
    try go_bits
    first
      | exact hK _ hS (Gr.refl _)
      | fail
  case ca22R12 => (first | (simp [Act.put]; done) | (simp [Act.put, *]; done))
  try dsimp only
  refine wpW_branch [12, 21] (by kernel_rfl) (by simp) ?_
  intro w1 hg1 hS1
  have M1 := M.drew.gr hg1
  obtain ⟨v1, v2, v3, v4, lg1, gf1⟩ := M1.cells hk
  rw [hfx] at v1
  rw [htx] at v3
  refine each_cons ?_ (each_cons ?_ each_nil)
  · refine wpOp_go (by rfl) (Eq.refl _) (by go_simp; done) ?_
    intro K hK
    go_simp
    try simp only [Act.put]
    refine hK _ _ hS1 ?_
    clear hK K
    refine wpW_det (t' := ?ct14R13) 14 (by rfl) (by kernel_rfl) (NQ_free _) (by kernel_rfl) ?cw14R13 ?ch14R13 ?ca14R13 (Eq.refl _) ?cH14R13
    case cw14R13 => (go_simp; done)
    case ch14R13 =>
      intro ds w' hS K hK
      have hc := (ocell hS).1
      have hf := (ocell hS).2
      have hz := hS.size
      try simp at hz
      go_simp
      try go_bits
      first
        | exact hK _ hS (Gr.refl _)
        | exact hK _ (by repeat (first | (with_reducible exact Below.refl _ _) | (with_reducible assumption) | ((with_reducible refine Below.setCell ?_ ?_ _); rotate_left; · (first | exact Nat.le_refl _ | (simp; done) | (simp; omega) | omega)) | ((with_reducible refine Below.alloc ?_ ?_ _); rotate_left; · (first | exact Nat.le_refl _ | (simp; done) | (simp; omega) | omega)) | (with_reducible apply Below.drew) | (with_reducible apply below_drewN') | (refine Below.trans ?_ (Below.mono (by assumption) (by first | exact Nat.le_refl _ | (simp; done) | (simp; omega) | omega))) | exact Below.refl _ _ | assumption)) (by repeat (first | (with_reducible exact Below.refl _ _) | (with_reducible assumption) | ((with_reducible refine Below.setCell ?_ ?_ _); rotate_left; · (first | exact Nat.le_refl _ | (simp; done) | (simp; omega) | omega)) | ((with_reducible refine Below.alloc ?_ ?_ _); rotate_left; · (first | exact Nat.le_refl _ | (simp; done) | (simp; omega) | omega)) | (with_reducible apply Below.drew) | (with_reducible apply below_drewN') | (refine Below.trans ?_ (Below.mono (by assumption) (by first | exact Nat.le_refl _ | (simp; done) | (simp; omega) | omega))) | exact Below.refl _ _ | assumption))
    case ca14R13 => (first | (simp [Act.put]; done) | (simp [Act.put, *]; done))
    try dsimp only
    refine wpW_branch [21] (by kernel_rfl) (by simp) ?_
    intro w2 hg_w2 hS_w2
    replace M1 := M1.gr hg_w2
    clear v1 v2 v3 v4 lg1 gf1
    obtain ⟨v1, v2, v3, v4, lg1, gf1⟩ := M1.cells hk
    rw [hfx] at v1
    rw [htx] at v3
    refine each_cons ?_ each_nil
    refine wpOp_go (by rfl) (Eq.refl _) (by go_simp; done) ?_
    intro K hK
    go_simp
    try simp only [Act.put]
    refine hK _ _ hS_w2 ?_
    clear hK K
    refine wpW_det (t' := ?ct23R14) 23 (by rfl) (by kernel_rfl) (NQ_free _) (by kernel_rfl) ?cw23R14 ?ch23R14 ?ca23R14 (Eq.refl _) ?cH23R14
    case cw23R14 => (go_simp; done)
    case ch23R14 =>
      intro ds w' hS K hK
      have hc := (ocell hS).1
      have hf := (ocell hS).2
      have hz := hS.size
      try simp at hz
      go_simp
      try go_bits
      first
        | exact hK _ hS (Gr.refl _)
        | exact hK _ (by repeat (first | (with_reducible exact Below.refl _ _) | (with_reducible assumption) | ((with_reducible refine Below.setCell ?_ ?_ _); rotate_left; · (first | exact Nat.le_refl _ | (simp; done) | (simp; omega) | omega)) | ((with_reducible refine Below.alloc ?_ ?_ _); rotate_left; · (first | exact Nat.le_refl _ | (simp; done) | (simp; omega) | omega)) | (with_reducible apply Below.drew) | (with_reducible apply below_drewN') | (refine Below.trans ?_ (Below.mono (by assumption) (by first | exact Nat.le_refl _ | (simp; done) | (simp; omega) | omega))) | exact Below.refl _ _ | assumption)) (by repeat (first | (with_reducible exact Below.refl _ _) | (with_reducible assumption) | ((with_reducible refine Below.setCell ?_ ?_ _); rotate_left; · (first | exact Nat.le_refl _ | (simp; done) | (simp; omega) | omega)) | ((with_reducible refine Below.alloc ?_ ?_ _); rotate_left; · (first | exact Nat.le_refl _ | (simp; done) | (simp; omega) | omega)) | (with_reducible apply Below.drew) | (with_reducible apply below_drewN') | (refine Below.trans ?_ (Below.mono (by assumption) (by first | exact Nat.le_refl _ | (simp; done) | (simp; omega) | omega))) | exact Below.refl _ _ | assumption))
    case ca23R14 => (first | (simp [Act.put]; done) | (simp [Act.put, *]; done))
    try dsimp only
    refine wpW_det (t' := ?ct24R14) 24 (by rfl) (by kernel_rfl) (NQ_free _) (by kernel_rfl) ?cw24R14 ?ch24R14 ?ca24R14 (Eq.refl _) ?cH24R14
    case cw24R14 => (go_simp; done)
    case ch24R14 =>
      intro ds w' hS K hK
      have hc := (ocell hS).1
      have hf := (ocell hS).2
      have hz := hS.size
      try simp at hz
      go_simp
      try go_bits
      first
        | exact hK _ hS (Gr.refl _)
        | exact hK _ (by repeat (first | (with_reducible exact Below.refl _ _) | (with_reducible assumption) | ((with_reducible refine Below.setCell ?_ ?_ _); rotate_left; · (first | exact Nat.le_refl _ | (simp; done) | (simp; omega) | omega)) | ((with_reducible refine Below.alloc ?_ ?_ _); rotate_left; · (first | exact Nat.le_refl _ | (simp; done) | (simp; omega) | omega)) | (with_reducible apply Below.drew) | (with_reducible apply below_drewN') | (refine Below.trans ?_ (Below.mono (by assumption) (by first | exact Nat.le_refl _ | (simp; done) | (simp; omega) | omega))) | exact Below.refl _ _ | assumption)) (by repeat (first | (with_reducible exact Below.refl _ _) | (with_reducible assumption) | ((with_reducible refine Below.setCell ?_ ?_ _); rotate_left; · (first | exact Nat.le_refl _ | (simp; done) | (simp; omega) | omega)) | ((with_reducible refine Below.alloc ?_ ?_ _); rotate_left; · (first | exact Nat.le_refl _ | (simp; done) | (simp; omega) | omega)) | (with_reducible apply Below.drew) | (with_reducible apply below_drewN') | (refine Below.trans ?_ (Below.mono (by assumption) (by first | exact Nat.le_refl _ | (simp; done) | (simp; omega) | omega))) | exact Below.refl _ _ | assumption))
    case ca24R14 => (first | (simp [Act.put]; done) | (simp [Act.put, *]; done))
    try dsimp only
    refine wpW_det (t' := ?ct25R14) 25 (by rfl) (by kernel_rfl) (NQ_free _) (by kernel_rfl) ?cw25R14 ?ch25R14 ?ca25R14 (Eq.refl _) ?cH25R14
    case cw25R14 => (go_simp; done)
    case ch25R14 =>
      intro ds w' hS K hK
      have hc := (ocell hS).1
      have hf := (ocell hS).2
      have hz := hS.size
      try simp at hz
      go_simp
      try go_bits
      first
        | exact hK _ hS (Gr.refl _)
        | exact hK _ (by repeat (first | (with_reducible exact Below.refl _ _) | (with_reducible assumption) | ((with_reducible refine Below.setCell ?_ ?_ _); rotate_left; · (first | exact Nat.le_refl _ | (simp; done) | (simp; omega) | omega)) | ((with_reducible refine Below.alloc ?_ ?_ _); rotate_left; · (first | exact Nat.le_refl _ | (simp; done) | (simp; omega) | omega)) | (with_reducible apply Below.drew) | (with_reducible apply below_drewN') | (refine Below.trans ?_ (Below.mono (by assumption) (by first | exact Nat.le_refl _ | (simp; done) | (simp; omega) | omega))) | exact Below.refl _ _ | assumption)) (by repeat (first | (with_reducible exact Below.refl _ _) | (with_reducible assumption) | ((with_reducible refine Below.setCell ?_ ?_ _); rotate_left; · (first | exact Nat.le_refl _ | (simp; done) | (simp; omega) | omega)) | ((with_reducible refine Below.alloc ?_ ?_ _); rotate_left; · (first | exact Nat.le_refl _ | (simp; done) | (simp; omega) | omega)) | (with_reducible apply Below.drew) | (with_reducible apply below_drewN') | (refine Below.trans ?_ (Below.mono (by assumption) (by first | exact Nat.le_refl _ | (simp; done) | (simp; omega) | omega))) | exact Below.refl _ _ | assumption))
    case ca25R14 => (first | (simp [Act.put]; done) | (simp [Act.put, *]; done))
    try dsimp only
    refine wpW_det (t' := ?ct26R14) 26 (by rfl) (by kernel_rfl) (NQ_free _) (by kernel_rfl) ?cw26R14 ?ch26R14 ?ca26R14 (Eq.refl _) ?cH26R14
    case cw26R14 => (go_simp; done)
    case ch26R14 =>
      intro ds w' hS K hK
      have hc := (ocell hS).1
      have hf := (ocell hS).2
      have hz := hS.size
      try simp at hz
      go_simp
      try go_bits
      first
        | exact hK _ hS (Gr.refl _)
        | exact hK _ (by repeat (first | (with_reducible exact Below.refl _ _) | (with_reducible assumption) | ((with_reducible refine Below.setCell ?_ ?_ _); rotate_left; · (first | exact Nat.le_refl _ | (simp; done) | (simp; omega) | omega)) | ((with_reducible refine Below.alloc ?_ ?_ _); rotate_left; · (first | exact Nat.le_refl _ | (simp; done) | (simp; omega) | omega)) | (with_reducible apply Below.drew) | (with_reducible apply below_drewN') | (refine Below.trans ?_ (Below.mono (by assumption) (by first | exact Nat.le_refl _ | (simp; done) | (simp; omega) | omega))) | exact Below.refl _ _ | assumption)) (by repeat (first | (with_reducible exact Below.refl _ _) | (with_reducible assumption) | ((with_reducible refine Below.setCell ?_ ?_ _); rotate_left; · (first | exact Nat.le_refl _ | (simp; done) | (simp; omega) | omega)) | ((with_reducible refine Below.alloc ?_ ?_ _); rotate_left; · (first | exact Nat.le_refl _ | (simp; done) | (simp; omega) | omega)) | (with_reducible apply Below.drew) | (with_reducible apply below_drewN') | (refine Below.trans ?_ (Below.mono (by assumption) (by first | exact Nat.le_refl _ | (simp; done) | (simp; omega) | omega))) | exact Below.refl _ _ | assumption))
    case ca26R14 => (first | (simp [Act.put]; done) | (simp [Act.put, *]; done))
    try dsimp only
    refine wpW_branch [27] (by kernel_rfl) (by simp) ?_
    intro w3 hg_w3 hS_w3
    replace M1 := M1.gr hg_w3
    clear v1 v2 v3 v4 lg1 gf1
    obtain ⟨v1, v2, v3, v4, lg1, gf1⟩ := M1.cells hk
    refine each_cons ?_ each_nil
    refine wpOp_go (by rfl) (Eq.refl _) (by go_simp; done) ?_
    intro K hK
    go_simp
    try simp only [Act.put]
    refine hK _ _ (only_set' HRW.out hS_w3 _ _) ?_
    replace M1 := M1.storeF hk (fx + by_)
    clear hK K v1 v2 v3 v4 lg1 gf1
    refine wpW_det (t' := ?ct28R15) 28 (by rfl) (by kernel_rfl) (NQ_free _) (by kernel_rfl) ?cw28R15 ?ch28R15 ?ca28R15 (Eq.refl _) ?cH28R15
    case cw28R15 => (go_simp; done)
    case ch28R15 =>
      intro ds w' hS K hK
      have hc := (ocell hS).1
      have hf := (ocell hS).2
      have hz := hS.size
      try simp at hz
      go_simp
      try go_bits
      first
        | exact hK _ hS (Gr.refl _)
        | exact hK _ (by repeat (first | (with_reducible exact Below.refl _ _) | (with_reducible assumption) | ((with_reducible refine Below.setCell ?_ ?_ _); rotate_left; · (first | exact Nat.le_refl _ | (simp; done) | (simp; omega) | omega)) | ((with_reducible refine Below.alloc ?_ ?_ _); rotate_left; · (first | exact Nat.le_refl _ | (simp; done) | (simp; omega) | omega)) | (with_reducible apply Below.drew) | (with_reducible apply below_drewN') | (refine Below.trans ?_ (Below.mono (by assumption) (by first | exact Nat.le_refl _ | (simp; done) | (simp; omega) | omega))) | exact Below.refl _ _ | assumption)) (by repeat (first | (with_reducible exact Below.refl _ _) | (with_reducible assumption) | ((with_reducible refine Below.setCell ?_ ?_ _); rotate_left; · (first | exact Nat.le_refl _ | (simp; done) | (simp; omega) | omega)) | ((with_reducible refine Below.alloc ?_ ?_ _); rotate_left; · (first | exact Nat.le_refl _ | (simp; done) | (simp; omega) | omega)) | (with_reducible apply Below.drew) | (with_reducible apply below_drewN') | (refine Below.trans ?_ (Below.mono (by assumption) (by first | exact Nat.le_refl _ | (simp; done) | (simp; omega) | omega))) | exact Below.refl _ _ | assumption))
    case ca28R15 => (first | (simp [Act.put]; done) | (simp [Act.put, *]; done))
    try dsimp only
    refine wpW_det (t' := ?ct29R15) 29 (by rfl) (by kernel_rfl) (NQ_free _) (by kernel_rfl) ?cw29R15 ?ch29R15 ?ca29R15 (Eq.refl _) ?cH29R15
    case cw29R15 => (go_simp; done)
    case ch29R15 =>
      intro ds w' hS K hK
      have hc := (ocell hS).1
      have hf := (ocell hS).2
      have hz := hS.size
      try simp at hz
      go_simp
      try go_bits
      first
        | exact hK _ hS (Gr.refl _)
        | exact hK _ (by repeat (first | (with_reducible exact Below.refl _ _) | (with_reducible assumption) | ((with_reducible refine Below.setCell ?_ ?_ _); rotate_left; · (first | exact Nat.le_refl _ | (simp; done) | (simp; omega) | omega)) | ((with_reducible refine Below.alloc ?_ ?_ _); rotate_left; · (first | exact Nat.le_refl _ | (simp; done) | (simp; omega) | omega)) | (with_reducible apply Below.drew) | (with_reducible apply below_drewN') | (refine Below.trans ?_ (Below.mono (by assumption) (by first | exact Nat.le_refl _ | (simp; done) | (simp; omega) | omega))) | exact Below.refl _ _ | assumption)) (by repeat (first | (with_reducible exact Below.refl _ _) | (with_reducible assumption) | ((with_reducible refine Below.setCell ?_ ?_ _); rotate_left; · (first | exact Nat.le_refl _ | (simp; done) | (simp; omega) | omega)) | ((with_reducible refine Below.alloc ?_ ?_ _); rotate_left; · (first | exact Nat.le_refl _ | (simp; done) | (simp; omega) | omega)) | (with_reducible apply Below.drew) | (with_reducible apply below_drewN') | (refine Below.trans ?_ (Below.mono (by assumption) (by first | exact Nat.le_refl _ | (simp; done) | (simp; omega) | omega))) | exact Below.refl _ _ | assumption))
    case ca29R15 => (first | (simp [Act.put]; done) | (simp [Act.put, *]; done))
    try dsimp only
    refine wpW_det (t' := ?ct30R15) 30 (by rfl) (by kernel_rfl) (NQ_free _) (by kernel_rfl) ?cw30R15 ?ch30R15 ?ca30R15 (Eq.refl _) ?cH30R15
    case cw30R15 => (go_simp; done)
    case ch30R15 =>
      intro ds w' hS K hK
      have hc := (ocell hS).1
      have hf := (ocell hS).2
      have hz := hS.size
      try simp at hz
      go_simp
      try go_bits
      first
        | exact hK _ hS (Gr.refl _)
        | exact hK _ (by repeat (first | (with_reducible exact Below.refl _ _) | (with_reducible assumption) | ((with_reducible refine Below.setCell ?_ ?_ _); rotate_left; · (first | exact Nat.le_refl _ | (simp; done) | (simp; omega) | omega)) | ((with_reducible refine Below.alloc ?_ ?_ _); rotate_left; · (first | exact Nat.le_refl _ | (simp; done) | (simp; omega) | omega)) | (with_reducible apply Below.drew) | (with_reducible apply below_drewN') | (refine Below.trans ?_ (Below.mono (by assumption) (by first | exact Nat.le_refl _ | (simp; done) | (simp; omega) | omega))) | exact Below.refl _ _ | assumption)) (by repeat (first | (with_reducible exact Below.refl _ _) | (with_reducible assumption) | ((with_reducible refine Below.setCell ?_ ?_ _); rotate_left; · (first | exact Nat.le_refl _ | (simp; done) | (simp; omega) | omega)) | ((with_reducible refine Below.alloc ?_ ?_ _); rotate_left; · (first | exact Nat.le_refl _ | (simp; done) | (simp; omega) | omega)) | (with_reducible apply Below.drew) | (with_reducible apply below_drewN') | (refine Below.trans ?_ (Below.mono (by assumption) (by first | exact Nat.le_refl _ | (simp; done) | (simp; omega) | omega))) | exact Below.refl _ _ | assumption))
    case ca30R15 => (first | (simp [Act.put]; done) | (simp [Act.put, *]; done))
    try dsimp only
    refine wpW_branch [31] (by kernel_rfl) (by simp) ?_
    intro w4 hg_w4 hS_w4
    replace M1 := M1.gr hg_w4
    obtain ⟨v1, v2, v3, v4, lg1, gf1⟩ := M1.cells (k := kk) (by simpa using hk)
    refine each_cons ?_ each_nil
    refine wpOp_go (by rfl) (Eq.refl _) (by go_simp; done) ?_
    intro K hK
    go_simp
    try simp only [Act.put]
    refine hK _ _ (only_set' HRW.out hS_w4 _ _) ?_
    replace M1 := M1.storeT (k := kk) (by simpa using hk) (tx + by_)
    clear hK K v1 v2 v3 v4 lg1 gf1
    refine wpW_end (by kernel_rfl) ?_
    intro we hg hS
    unfold NQ
    dsimp only
    rw [HRW.out] at hS
    replace M1 := M1.gr hg
    simp only [List.getElem_set_self, List.set_set] at M1
    have hm : (⟨fx + by_, fs[kk].2.fz, tx + by_, fs[kk].2.tz⟩ : Fc) = fs[kk].2.move by_ := by rw [← hfx, ← htx]; rfl
    rw [hm] at M1
    exact H.out _ _ _ _ _ _ _ _ _ _ _ _ _ _ _ _ _ _ _ _ _ _ _ _ _ _ _ _ _ _ _ M1 hS
  · refine wpOp_go (by rfl) (Eq.refl _) (by go_simp; done) ?_
    intro K hK
    go_simp
    try simp only [Act.put]
    refine hK _ _ hS1 ?_
    clear hK K
    refine wpW_det (t' := ?ct23R16) 23 (by rfl) (by kernel_rfl) (NQ_free _) (by kernel_rfl) ?cw23R16 ?ch23R16 ?ca23R16 (Eq.refl _) ?cH23R16
    case cw23R16 => (go_simp; done)
    case ch23R16 =>
      intro ds w' hS K hK
      have hc := (ocell hS).1
      have hf := (ocell hS).2
      have hz := hS.size
      try simp at hz
      go_simp
      try go_bits
      first
        | exact hK _ hS (Gr.refl _)
        | exact hK _ (by repeat (first | (with_reducible exact Below.refl _ _) | (with_reducible assumption) | ((with_reducible refine Below.setCell ?_ ?_ _); rotate_left; · (first | exact Nat.le_refl _ | (simp; done) | (simp; omega) | omega)) | ((with_reducible refine Below.alloc ?_ ?_ _); rotate_left; · (first | exact Nat.le_refl _ | (simp; done) | (simp; omega) | omega)) | (with_reducible apply Below.drew) | (with_reducible apply below_drewN') | (refine Below.trans ?_ (Below.mono (by assumption) (by first | exact Nat.le_refl _ | (simp; done) | (simp; omega) | omega))) | exact Below.refl _ _ | assumption)) (by repeat (first | (with_reducible exact Below.refl _ _) | (with_reducible assumption) | ((with_reducible refine Below.setCell ?_ ?_ _); rotate_left; · (first | exact Nat.le_refl _ | (simp; done) | (simp; omega) | omega)) | ((with_reducible refine Below.alloc ?_ ?_ _); rotate_left; · (first | exact Nat.le_refl _ | (simp; done) | (simp; omega) | omega)) | (with_reducible apply Below.drew) | (with_reducible apply below_drewN') | (refine Below.trans ?_ (Below.mono (by assumption) (by first | exact Nat.le_refl _ | (simp; done) | (simp; omega) | omega))) | exact Below.refl _ _ | assumption))
    case ca23R16 => (first | (simp [Act.put]; done) | (simp [Act.put, *]; done))
    try dsimp only
    refine wpW_branch [12] (by kernel_rfl) (by simp) ?_
    intro w2 hg_w2 hS_w2
    replace M1 := M1.gr hg_w2
    clear v1 v2 v3 v4 lg1 gf1
    obtain ⟨v1, v2, v3, v4, lg1, gf1⟩ := M1.cells hk
    rw [hfx] at v1
    rw [htx] at v3
    refine each_cons ?_ each_nil
    refine wpOp_go (by rfl) (Eq.refl _) (by go_simp; done) ?_
    intro K hK
    go_simp
    try simp only [Act.put]
    refine hK _ _ hS_w2 ?_
    clear hK K
    refine wpW_det (t' := ?ct14R17) 14 (by rfl) (by kernel_rfl) (NQ_free _) (by kernel_rfl) ?cw14R17 ?ch14R17 ?ca14R17 (Eq.refl _) ?cH14R17
    case cw14R17 => (go_simp; done)
    case ch14R17 =>
      intro ds w' hS K hK
      have hc := (ocell hS).1
      have hf := (ocell hS).2
      have hz := hS.size
      try simp at hz
      go_simp
      try go_bits
      first
        | exact hK _ hS (Gr.refl _)
        | exact hK _ (by repeat (first | (with_reducible exact Below.refl _ _) | (with_reducible assumption) | ((with_reducible refine Below.setCell ?_ ?_ _); rotate_left; · (first | exact Nat.le_refl _ | (simp; done) | (simp; omega) | omega)) | ((with_reducible refine Below.alloc ?_ ?_ _); rotate_left; · (first | exact Nat.le_refl _ | (simp; done) | (simp; omega) | omega)) | (with_reducible apply Below.drew) | (with_reducible apply below_drewN') | (refine Below.trans ?_ (Below.mono (by assumption) (by first | exact Nat.le_refl _ | (simp; done) | (simp; omega) | omega))) | exact Below.refl _ _ | assumption)) (by repeat (first | (with_reducible exact Below.refl _ _) | (with_reducible assumption) | ((with_reducible refine Below.setCell ?_ ?_ _); rotate_left; · (first | exact Nat.le_refl _ | (simp; done) | (simp; omega) | omega)) | ((with_reducible refine Below.alloc ?_ ?_ _); rotate_left; · (first | exact Nat.le_refl _ | (simp; done) | (simp; omega) | omega)) | (with_reducible apply Below.drew) | (with_reducible apply below_drewN') | (refine Below.trans ?_ (Below.mono (by assumption) (by first | exact Nat.le_refl _ | (simp; done) | (simp; omega) | omega))) | exact Below.refl _ _ | assumption))
    case ca14R17 => (first | (simp [Act.put]; done) | (simp [Act.put, *]; done))
    try dsimp only
    refine wpW_det (t' := ?ct24R17) 24 (by rfl) (by kernel_rfl) (NQ_free _) (by kernel_rfl) ?cw24R17 ?ch24R17 ?ca24R17 (Eq.refl _) ?cH24R17
    case cw24R17 => (go_simp; done)
    case ch24R17 =>
      intro ds w' hS K hK
      have hc := (ocell hS).1
      have hf := (ocell hS).2
      have hz := hS.size
      try simp at hz
      go_simp
      try go_bits
      first
        | exact hK _ hS (Gr.refl _)
        | exact hK _ (by repeat (first | (with_reducible exact Below.refl _ _) | (with_reducible assumption) | ((with_reducible refine Below.setCell ?_ ?_ _); rotate_left; · (first | exact Nat.le_refl _ | (simp; done) | (simp; omega) | omega)) | ((with_reducible refine Below.alloc ?_ ?_ _); rotate_left; · (first | exact Nat.le_refl _ | (simp; done) | (simp; omega) | omega)) | (with_reducible apply Below.drew) | (with_reducible apply below_drewN') | (refine Below.trans ?_ (Below.mono (by assumption) (by first | exact Nat.le_refl _ | (simp; done) | (simp; omega) | omega))) | exact Below.refl _ _ | assumption)) (by repeat (first | (with_reducible exact Below.refl _ _) | (with_reducible assumption) | ((with_reducible refine Below.setCell ?_ ?_ _); rotate_left; · (first | exact Nat.le_refl _ | (simp; done) | (simp; omega) | omega)) | ((with_reducible refine Below.alloc ?_ ?_ _); rotate_left; · (first | exact Nat.le_refl _ | (simp; done) | (simp; omega) | omega)) | (with_reducible apply Below.drew) | (with_reducible apply below_drewN') | (refine Below.trans ?_ (Below.mono (by assumption) (by first | exact Nat.le_refl _ | (simp; done) | (simp; omega) | omega))) | exact Below.refl _ _ | assumption))
    case ca24R17 => (first | (simp [Act.put]; done) | (simp [Act.put, *]; done))
    try dsimp only
    refine wpW_det (t' := ?ct25R17) 25 (by rfl) (by kernel_rfl) (NQ_free _) (by kernel_rfl) ?cw25R17 ?ch25R17 ?ca25R17 (Eq.refl _) ?cH25R17
    case cw25R17 => (go_simp; done)
    case ch25R17 =>
      intro ds w' hS K hK
      have hc := (ocell hS).1
      have hf := (ocell hS).2
      have hz := hS.size
      try simp at hz
      go_simp
      try go_bits
      first
        | exact hK _ hS (Gr.refl _)
        | exact hK _ (by repeat (first | (with_reducible exact Below.refl _ _) | (with_reducible assumption) | ((with_reducible refine Below.setCell ?_ ?_ _); rotate_left; · (first | exact Nat.le_refl _ | (simp; done) | (simp; omega) | omega)) | ((with_reducible refine Below.alloc ?_ ?_ _); rotate_left; · (first | exact Nat.le_refl _ | (simp; done) | (simp; omega) | omega)) | (with_reducible apply Below.drew) | (with_reducible apply below_drewN') | (refine Below.trans ?_ (Below.mono (by assumption) (by first | exact Nat.le_refl _ | (simp; done) | (simp; omega) | omega))) | exact Below.refl _ _ | assumption)) (by repeat (first | (with_reducible exact Below.refl _ _) | (with_reducible assumption) | ((with_reducible refine Below.setCell ?_ ?_ _); rotate_left; · (first | exact Nat.le_refl _ | (simp; done) | (simp; omega) | omega)) | ((with_reducible refine Below.alloc ?_ ?_ _); rotate_left; · (first | exact Nat.le_refl _ | (simp; done) | (simp; omega) | omega)) | (with_reducible apply Below.drew) | (with_reducible apply below_drewN') | (refine Below.trans ?_ (Below.mono (by assumption) (by first | exact Nat.le_refl _ | (simp; done) | (simp; omega) | omega))) | exact Below.refl _ _ | assumption))
    case ca25R17 => (first | (simp [Act.put]; done) | (simp [Act.put, *]; done))
    try dsimp only
    refine wpW_det (t' := ?ct26R17) 26 (by rfl) (by kernel_rfl) (NQ_free _) (by kernel_rfl) ?cw26R17 ?ch26R17 ?ca26R17 (Eq.refl _) ?cH26R17
    case cw26R17 => (go_simp; done)
    case ch26R17 =>
      intro ds w' hS K hK
      have hc := (ocell hS).1
      have hf := (ocell hS).2
      have hz := hS.size
      try simp at hz
      go_simp
      try go_bits
      first
        | exact hK _ hS (Gr.refl _)
        | exact hK _ (by repeat (first | (with_reducible exact Below.refl _ _) | (with_reducible assumption) | ((with_reducible refine Below.setCell ?_ ?_ _); rotate_left; · (first | exact Nat.le_refl _ | (simp; done) | (simp; omega) | omega)) | ((with_reducible refine Below.alloc ?_ ?_ _); rotate_left; · (first | exact Nat.le_refl _ | (simp; done) | (simp; omega) | omega)) | (with_reducible apply Below.drew) | (with_reducible apply below_drewN') | (refine Below.trans ?_ (Below.mono (by assumption) (by first | exact Nat.le_refl _ | (simp; done) | (simp; omega) | omega))) | exact Below.refl _ _ | assumption)) (by repeat (first | (with_reducible exact Below.refl _ _) | (with_reducible assumption) | ((with_reducible refine Below.setCell ?_ ?_ _); rotate_left; · (first | exact Nat.le_refl _ | (simp; done) | (simp; omega) | omega)) | ((with_reducible refine Below.alloc ?_ ?_ _); rotate_left; · (first | exact Nat.le_refl _ | (simp; done) | (simp; omega) | omega)) | (with_reducible apply Below.drew) | (with_reducible apply below_drewN') | (refine Below.trans ?_ (Below.mono (by assumption) (by first | exact Nat.le_refl _ | (simp; done) | (simp; omega) | omega))) | exact Below.refl _ _ | assumption))
    case ca26R17 => (first | (simp [Act.put]; done) | (simp [Act.put, *]; done))
    try dsimp only
    refine wpW_branch [27] (by kernel_rfl) (by simp) ?_
    intro w3 hg_w3 hS_w3
    replace M1 := M1.gr hg_w3
    clear v1 v2 v3 v4 lg1 gf1
    obtain ⟨v1, v2, v3, v4, lg1, gf1⟩ := M1.cells hk
    refine each_cons ?_ each_nil
    refine wpOp_go (by rfl) (Eq.refl _) (by go_simp; done) ?_
    intro K hK
    go_simp
    try simp only [Act.put]
    refine hK _ _ (only_set' HRW.out hS_w3 _ _) ?_
    replace M1 := M1.storeF hk (fx + by_)
    clear hK K v1 v2 v3 v4 lg1 gf1
    refine wpW_det (t' := ?ct28R18) 28 (by rfl) (by kernel_rfl) (NQ_free _) (by kernel_rfl) ?cw28R18 ?ch28R18 ?ca28R18 (Eq.refl _) ?cH28R18
    case cw28R18 => (go_simp; done)
    case ch28R18 =>
      intro ds w' hS K hK
      have hc := (ocell hS).1
      have hf := (ocell hS).2
      have hz := hS.size
      try simp at hz
      go_simp
      try go_bits
      first
        | exact hK _ hS (Gr.refl _)
        | exact hK _ (by repeat (first | (with_reducible exact Below.refl _ _) | (with_reducible assumption) | ((with_reducible refine Below.setCell ?_ ?_ _); rotate_left; · (first | exact Nat.le_refl _ | (simp; done) | (simp; omega) | omega)) | ((with_reducible refine Below.alloc ?_ ?_ _); rotate_left; · (first | exact Nat.le_refl _ | (simp; done) | (simp; omega) | omega)) | (with_reducible apply Below.drew) | (with_reducible apply below_drewN') | (refine Below.trans ?_ (Below.mono (by assumption) (by first | exact Nat.le_refl _ | (simp; done) | (simp; omega) | omega))) | exact Below.refl _ _ | assumption)) (by repeat (first | (with_reducible exact Below.refl _ _) | (with_reducible assumption) | ((with_reducible refine Below.setCell ?_ ?_ _); rotate_left; · (first | exact Nat.le_refl _ | (simp; done) | (simp; omega) | omega)) | ((with_reducible refine Below.alloc ?_ ?_ _); rotate_left; · (first | exact Nat.le_refl _ | (simp; done) | (simp; omega) | omega)) | (with_reducible apply Below.drew) | (with_reducible apply below_drewN') | (refine Below.trans ?_ (Below.mono (by assumption) (by first | exact Nat.le_refl _ | (simp; done) | (simp; omega) | omega))) | exact Below.refl _ _ | assumption))
    case ca28R18 => (first | (simp [Act.put]; done) | (simp [Act.put, *]; done))
    try dsimp only
    refine wpW_det (t' := ?ct29R18) 29 (by rfl) (by kernel_rfl) (NQ_free _) (by kernel_rfl) ?cw29R18 ?ch29R18 ?ca29R18 (Eq.refl _) ?cH29R18
    case cw29R18 => (go_simp; done)
    case ch29R18 =>
      intro ds w' hS K hK
      have hc := (ocell hS).1
      have hf := (ocell hS).2
      have hz := hS.size
      try simp at hz
      go_simp
      try go_bits
      first
        | exact hK _ hS (Gr.refl _)
        | exact hK _ (by repeat (first | (with_reducible exact Below.refl _ _) | (with_reducible assumption) | ((with_reducible refine Below.setCell ?_ ?_ _); rotate_left; · (first | exact Nat.le_refl _ | (simp; done) | (simp; omega) | omega)) | ((with_reducible refine Below.alloc ?_ ?_ _); rotate_left; · (first | exact Nat.le_refl _ | (simp; done) | (simp; omega) | omega)) | (with_reducible apply Below.drew) | (with_reducible apply below_drewN') | (refine Below.trans ?_ (Below.mono (by assumption) (by first | exact Nat.le_refl _ | (simp; done) | (simp; omega) | omega))) | exact Below.refl _ _ | assumption)) (by repeat (first | (with_reducible exact Below.refl _ _) | (with_reducible assumption) | ((with_reducible refine Below.setCell ?_ ?_ _); rotate_left; · (first | exact Nat.le_refl _ | (simp; done) | (simp; omega) | omega)) | ((with_reducible refine Below.alloc ?_ ?_ _); rotate_left; · (first | exact Nat.le_refl _ | (simp; done) | (simp; omega) | omega)) | (with_reducible apply Below.drew) | (with_reducible apply below_drewN') | (refine Below.trans ?_ (Below.mono (by assumption) (by first | exact Nat.le_refl _ | (simp; done) | (simp; omega) | omega))) | exact Below.refl _ _ | assumption))
    case ca29R18 => (first | (simp [Act.put]; done) | (simp [Act.put, *]; done))
    try dsimp only
    refine wpW_det (t' := ?ct30R18) 30 (by rfl) (by kernel_rfl) (NQ_free _) (by kernel_rfl) ?cw30R18 ?ch30R18 ?ca30R18 (Eq.refl _) ?cH30R18
    case cw30R18 => (go_simp; done)
    case ch30R18 =>
      intro ds w' hS K hK
      have hc := (ocell hS).1
      have hf := (ocell hS).2
      have hz := hS.size
      try simp at hz
      go_simp
      try go_bits
      first
        | exact hK _ hS (Gr.refl _)
        | exact hK _ (by repeat (first | (with_reducible exact Below.refl _ _) | (with_reducible assumption) | ((with_reducible refine Below.setCell ?_ ?_ _); rotate_left; · (first | exact Nat.le_refl _ | (simp; done) | (simp; omega) | omega)) | ((with_reducible refine Below.alloc ?_ ?_ _); rotate_left; · (first | exact Nat.le_refl _ | (simp; done) | (simp; omega) | omega)) | (with_reducible apply Below.drew) | (with_reducible apply below_drewN') | (refine Below.trans ?_ (Below.mono (by assumption) (by first | exact Nat.le_refl _ | (simp; done) | (simp; omega) | omega))) | exact Below.refl _ _ | assumption)) (by repeat (first | (with_reducible exact Below.refl _ _) | (with_reducible assumption) | ((with_reducible refine Below.setCell ?_ ?_ _); rotate_left; · (first | exact Nat.le_refl _ | (simp; done) | (simp; omega) | omega)) | ((with_reducible refine Below.alloc ?_ ?_ _); rotate_left; · (first | exact Nat.le_refl _ | (simp; done) | (simp; omega) | omega)) | (with_reducible apply Below.drew) | (with_reducible apply below_drewN') | (refine Below.trans ?_ (Below.mono (by assumption) (by first | exact Nat.le_refl _ | (simp; done) | (simp; omega) | omega))) | exact Below.refl _ _ | assumption))
    case ca30R18 => (first | (simp [Act.put]; done) | (simp [Act.put, *]; done))
    try dsimp only
    refine wpW_branch [31] (by kernel_rfl) (by simp) ?_
    intro w4 hg_w4 hS_w4
    replace M1 := M1.gr hg_w4
    obtain ⟨v1, v2, v3, v4, lg1, gf1⟩ := M1.cells (k := kk) (by simpa using hk)
    refine each_cons ?_ each_nil
    refine wpOp_go (by rfl) (Eq.refl _) (by go_simp; done) ?_
    intro K hK
    go_simp
    try simp only [Act.put]
    refine hK _ _ (only_set' HRW.out hS_w4 _ _) ?_
    replace M1 := M1.storeT (k := kk) (by simpa using hk) (tx + by_)
    clear hK K v1 v2 v3 v4 lg1 gf1
    refine wpW_end (by kernel_rfl) ?_
    intro we hg hS
    unfold NQ
    dsimp only
    rw [HRW.out] at hS
    replace M1 := M1.gr hg
    simp only [List.getElem_set_self, List.set_set] at M1
    have hm : (⟨fx + by_, fs[kk].2.fz, tx + by_, fs[kk].2.tz⟩ : Fc) = fs[kk].2.move by_ := by rw [← hfx, ← htx]; rfl
    rw [hm] at M1
    exact H.out _ _ _ _ _ _ _ _ _ _ _ _ _ _ _ _ _ _ _ _ _ _ _ _ _ _ _ _ _ _ _ M1 hS

theorem Made.store4 {w : World} {base : Nat} {j : Jo} {face : Int} {sn : ByteArray} {s : Su} {p q g c : Nat} {fs : List (ByteArray × Fc)} (h : Made w base j face sn s p q g c fs) {k : Nat} (hk : k < fs.length) (x0 x1 x2 x3 : Int) :
    Made ((((w.setCell ⟨g, k * 5 + 1, none⟩ (.int .i64 x0)).setCell ⟨g, k * 5 + 2, none⟩ (.int .i64 x1)).setCell ⟨g, k * 5 + 3, none⟩ (.int .i64 x2)).setCell ⟨g, k * 5 + 4, none⟩ (.int .i64 x3)) base j face sn s p q g c (fs.set k (fs[k].1, ⟨x0, x1, x2, x3⟩)) := by
  obtain ⟨cs, h3, h4⟩ := h.faces
  have n1 : p ≠ g := h.joint.ne_ h3 (by decide)
  have n2 : q ≠ g := h.ask.ne_ h3 (by decide)
  exact ⟨(((h.joint.far (p := ⟨g, k * 5 + 1, none⟩) n1 _).far (p := ⟨g, k * 5 + 2, none⟩) n1 _).far (p := ⟨g, k * 5 + 3, none⟩) n1 _).far (p := ⟨g, k * 5 + 4, none⟩) n1 _, (((h.ask.far (p := ⟨g, k * 5 + 1, none⟩) n2 _).far (p := ⟨g, k * 5 + 2, none⟩) n2 _).far (p := ⟨g, k * 5 + 3, none⟩) n2 _).far (p := ⟨g, k * 5 + 4, none⟩) n2 _, ⟨_, (((h3.set_ _ _).set_ _ _).set_ _ _).set_ _ _, h4.set4 hk x0 x1 x2 x3⟩, h.p, h.q, h.g, by simpa using h.len, h.cap, h.max⟩
theorem grown_four {a b : World} {g i0 i1 i2 i3 : Nat} {u0 u1 u2 u3 : Value} (h : Below a.heap.size a b) : a.grownBy ((((b.setCell ⟨g, i0, none⟩ u0).setCell ⟨g, i1, none⟩ u1).setCell ⟨g, i2, none⟩ u2).setCell ⟨g, i3, none⟩ u3) (some g) := only_setCell (p := ⟨g, i3, none⟩) (only_setCell (p := ⟨g, i2, none⟩) (only_setCell (p := ⟨g, i1, none⟩) (only_setCell (p := ⟨g, i0, none⟩) (only_of_below h _) (.inl rfl) _) (.inl rfl) _) (.inl rfl) _) (.inl rfl) _

set_option maxRecDepth 100000 in
set_option maxHeartbeats 4000000 in
/-- The face is told the other way round (region 23). -/
theorem turnReg23 {w : World} {base : Nat} {j : Jo} {k : Nat} {sn : ByteArray} {s : Su} {p q g c : Nat} (M : Made w base j k sn s p q g c j.fs) (hk : k < j.fs.length) (pb B c0 : Nat) (A : Option Addr) (b : Blk w pb 24 (joC j A c0)) (hR : Row w B 5 A j.fs.length (fcsC j.fs)) (hB : B ≤ w.heap.size) (hbase : B ≤ base) {t0 t1 t2 t5 t6 t7 t8 t9 t10 t11 t12 t13 t14 t15 t16 t17 t19 t20 t21 t22 t23 t24 t25 t26 t27 t28 t29 t30 t31 t32 t33 t34 t35 t36 t37 t38 t39 t40 t41 t42 t43 t44 t45 t46 t47 t48 t49 t50 t51 t52 t53 t54 t55 t56 t57 t58 t59 t60 t61 t62 t63 t64 t65 t66 t67 t68 t69 t70 t71 t72 t73 t74 t75 t76 t77 t78 t79 t80 t81 t82 t83 t84 t85 t86 t87 t88 t89 t90 t91 t92 t93 t94 t95 t96 t97 t98 t99 t100 t101 t102 t103 t104 t105 t106 t107 t108 t109 t110 t111 t112 t113 t114 t115 t116 t117 t118 t119 t120 t121 t122 t123 t124 t125 t126 t127 t128 t129 t130 t131 t132 t133 t134 t135 t136 t137 t138 t139 t140 t141 t142 t143 t144 t145 t146 t147 t148 t149 t150 t151 t152 t153 t154 t155 t156 t157 t158 t159 t160 t161 t162 t163 t164 t165 t166 t167 t168 t169 t170 t171 t172 t173 t174 t175 t176 t177 t178 t179 t180 t181 t182 t183 t184 t185 t186 t187 t188 t189 t190 t191 t192 t193 t194 t195 t196 t197 t198 t199 t200 t201 t202 t203 t204 t205 t206 t207 t208 t209 t210 t211 t212 t213 t214 t215 t216 t217 t218 t219 t220 t221 t222 t223 t224 t225 t226 t227 t228 t229 t230 t231 t232 t233 t234 t235 t236 t237 t238 t239 t240 t241 t242 t243 : Value}
    {ds : List Deferred} (K' : Act → World → Prop) (Q' : Exit → Act → World → Prop)
    (h : ∀ (t175 t176 t177 t178 t179 t180 t181 t182 t183 t184 t185 t186 t187 t188 t189 t190 t191 t192 t193 t194 t195 t196 t197 t198 t199 t200 : Value) (w' : World), Made w' base j k sn s p q g c (j.fs.set k (j.fs[k].1, j.fs[k].2.turn)) → w.grownBy w' (some g) → K' ⟨#[t0, t1, t2, .pointer (some ⟨pb, 0, none⟩), .pointer (some ⟨q, 0, none⟩), t5, t6, t7, t8, t9, t10, t11, t12, t13, t14, t15, t16, t17, .pointer (some ⟨p, 0, none⟩), t19, t20, t21, t22, t23, t24, t25, t26, t27, t28, t29, t30, t31, t32, t33, t34, t35, t36, t37, t38, t39, t40, t41, t42, t43, t44, t45, t46, t47, t48, t49, t50, t51, t52, t53, t54, t55, t56, t57, t58, t59, t60, t61, t62, t63, t64, t65, t66, t67, t68, t69, t70, t71, t72, t73, t74, t75, t76, t77, t78, t79, t80, t81, t82, t83, t84, t85, t86, t87, t88, t89, t90, t91, t92, t93, t94, t95, t96, t97, t98, t99, t100, t101, t102, t103, t104, t105, t106, t107, t108, t109, t110, t111, t112, t113, t114, t115, t116, t117, t118, t119, t120, t121, t122, t123, t124, t125, t126, t127, t128, t129, t130, t131, t132, t133, t134, t135, t136, t137, t138, t139, t140, t141, t142, t143, t144, t145, t146, t147, t148, t149, t150, t151, t152, t153, t154, t155, t156, t157, t158, t159, t160, t161, t162, t163, t164, t165, t166, t167, t168, t169, t170, t171, t172, t173, t174, t175, t176, t177, t178, t179, t180, t181, t182, t183, t184, t185, t186, t187, t188, t189, t190, t191, t192, t193, t194, t195, t196, t197, t198, t199, t200, t201, t202, t203, t204, t205, t206, t207, t208, t209, t210, t211, t212, t213, t214, t215, t216, t217, t218, t219, t220, t221, t222, t223, t224, t225, t226, t227, t228, t229, t230, t231, t232, t233, t234, t235, t236, t237, t238, t239, t240, t241, t242, t243], ds⟩ w') :
    (regOf Tryz.f4 23).wp Tryz.prog (Exit.then K' Q') ⟨#[t0, t1, t2, .pointer (some ⟨pb, 0, none⟩), .pointer (some ⟨q, 0, none⟩), t5, t6, t7, t8, t9, t10, t11, t12, t13, t14, t15, t16, t17, .pointer (some ⟨p, 0, none⟩), t19, t20, t21, t22, t23, t24, t25, t26, t27, t28, t29, t30, t31, t32, t33, t34, t35, t36, t37, t38, t39, t40, t41, t42, t43, t44, t45, t46, t47, t48, t49, t50, t51, t52, t53, t54, t55, t56, t57, t58, t59, t60, t61, t62, t63, t64, t65, t66, t67, t68, t69, t70, t71, t72, t73, t74, t75, t76, t77, t78, t79, t80, t81, t82, t83, t84, t85, t86, t87, t88, t89, t90, t91, t92, t93, t94, t95, t96, t97, t98, t99, t100, t101, t102, t103, t104, t105, t106, t107, t108, t109, t110, t111, t112, t113, t114, t115, t116, t117, t118, t119, t120, t121, t122, t123, t124, t125, t126, t127, t128, t129, t130, t131, t132, t133, t134, t135, t136, t137, t138, t139, t140, t141, t142, t143, t144, t145, t146, t147, t148, t149, t150, t151, t152, t153, t154, t155, t156, t157, t158, t159, t160, t161, t162, t163, t164, t165, t166, t167, t168, t169, t170, t171, t172, t173, t174, t175, t176, t177, t178, t179, t180, t181, t182, t183, t184, t185, t186, t187, t188, t189, t190, t191, t192, t193, t194, t195, t196, t197, t198, t199, t200, t201, t202, t203, t204, t205, t206, t207, t208, t209, t210, t211, t212, t213, t214, t215, t216, t217, t218, t219, t220, t221, t222, t223, t224, t225, t226, t227, t228, t229, t230, t231, t232, t233, t234, t235, t236, t237, t238, t239, t240, t241, t242, t243], ds⟩ w := by
  have H := Lib.hid h; clear h
  obtain ⟨q1, q2, q3, q4, lg, gf⟩ := M.cells hk
  obtain ⟨t0, t1, t2, t3⟩ := blk4c M.joint
  have ma := M.ask
  unfold asC at ma
  have a0 := (as_cells ma).1
  clear ma
  unfold joC at b
  obtain ⟨s0, s1, s2, s3⟩ := blk4c b
  obtain ⟨g0, o0, hA, hg0, c1, c2, c3, c4, c5⟩ := faceCells hR hk
  subst hA
  have lp := M.joint.lt
  have lq := M.ask.lt
  have lb := b.lt
  have lg0 : g0 < w.heap.size := by omega
  have hkc : (k : Int) < (j.fs.length : Int) := by omega
  have hk0 : (0 : Int) ≤ (k : Int) := by omega
  conv in (regOf _ _) => whnf
  obtain ⟨row, hrow⟩ : ∃ r : Option Nat, r = some g := ⟨_, rfl⟩
  obtain ⟨cs, h3, _⟩ := M.faces
  have m1 : some p ≠ row := by rw [hrow]; have := M.joint.ne_ h3 (by decide); simpa using this
  have m2 : some q ≠ row := by rw [hrow]; have := M.ask.ne_ h3 (by decide); simpa using this
  have m3 : some pb ≠ row := by rw [hrow]; have := b.ne_ h3 (by decide); simpa using this
  have m4 : some g0 ≠ row := by rw [hrow]; have := M.g; simp; omega
  clear h3
  have HRW := Lib.hid hrow; clear hrow
  refine wp_region_w (fun w' => World.grownBy _ w' row) (by kernel_rfl) (only_drew (World.grownBy.refl _ _)) ?_
  refine wpW_det (t' := ?ct0R19) 0 (by rfl) (by kernel_rfl) (NQ_free _) (by kernel_rfl) ?cw0R19 ?ch0R19 ?ca0R19 (Eq.refl _) ?cH0R19
  case cw0R19 => (go_simp; done)
  case ch0R19 =>
    intro ds w' hS K hK
    have hc := (ocell hS).1
    have hf := (ocell hS).2
    have hz := hS.size
    try simp at hz
    go_simp
    try go_bits
    first
      | exact hK _ hS (Gr.refl _)
      | fail
  case ca0R19 => (first | (simp [Act.put]; done) | (simp [Act.put, *]; done))
  try dsimp only
  refine wpW_det (t' := ?ct1R19) 1 (by rfl) (by kernel_rfl) (NQ_free _) (by kernel_rfl) ?cw1R19 ?ch1R19 ?ca1R19 (Eq.refl _) ?cH1R19
  case cw1R19 => (go_simp; done)
  case ch1R19 =>
    intro ds w' hS K hK
    have hc := (ocell hS).1
    have hf := (ocell hS).2
    have hz := hS.size
    try simp at hz
    go_simp
    try go_bits
    first
      | exact hK _ hS (Gr.refl _)
      | fail
  case ca1R19 => (first | (simp [Act.put]; done) | (simp [Act.put, *]; done))
  try dsimp only
  refine wpW_det (t' := ?ct2R19) 2 (by rfl) (by kernel_rfl) (NQ_free _) (by kernel_rfl) ?cw2R19 ?ch2R19 ?ca2R19 (Eq.refl _) ?cH2R19
  case cw2R19 => (go_simp; done)
  case ch2R19 =>
    intro ds w' hS K hK
    have hc := (ocell hS).1
    have hf := (ocell hS).2
    have hz := hS.size
    try simp at hz
    go_simp
    try go_bits
    first
      | exact hK _ hS (Gr.refl _)
      | fail
  case ca2R19 => (first | (simp [Act.put]; done) | (simp [Act.put, *]; done))
  try dsimp only
  refine wpW_det (t' := ?ct3R19) 3 (by rfl) (by kernel_rfl) (NQ_free _) (by kernel_rfl) ?cw3R19 ?ch3R19 ?ca3R19 (Eq.refl _) ?cH3R19
  case cw3R19 => (go_simp; done)
  case ch3R19 =>
    intro ds w' hS K hK
    have hc := (ocell hS).1
    have hf := (ocell hS).2
    have hz := hS.size
    try simp at hz
    go_simp
    try go_bits
    first
      | exact hK _ hS (Gr.refl _)
      | fail
  case ca3R19 => (first | (simp [Act.put]; done) | (simp [Act.put, *]; done))
  try dsimp only
  refine wpW_det (t' := ?ct4R19) 4 (by rfl) (by kernel_rfl) (NQ_free _) (by kernel_rfl) ?cw4R19 ?ch4R19 ?ca4R19 (Eq.refl _) ?cH4R19
  case cw4R19 => (go_simp; done)
  case ch4R19 =>
    intro ds w' hS K hK
    have hc := (ocell hS).1
    have hf := (ocell hS).2
    have hz := hS.size
    try simp at hz
    go_simp
    try go_bits
    first
      | exact hK _ hS (Gr.refl _)
      | fail
  case ca4R19 => (first | (simp [Act.put]; done) | (simp [Act.put, *]; done))
  try dsimp only
  refine wpW_det (t' := ?ct5R19) 5 (by rfl) (by kernel_rfl) (NQ_free _) (by kernel_rfl) ?cw5R19 ?ch5R19 ?ca5R19 (Eq.refl _) ?cH5R19
  case cw5R19 => (go_simp; done)
  case ch5R19 =>
    intro ds w' hS K hK
    have hc := (ocell hS).1
    have hf := (ocell hS).2
    have hz := hS.size
    try simp at hz
    go_simp
    try go_bits
    first
      | exact hK _ hS (Gr.refl _)
      | fail
  case ca5R19 => (first | (simp [Act.put]; done) | (simp [Act.put, *]; done))
  try dsimp only
  refine wpW_det (t' := ?ct6R19) 6 (by rfl) (by kernel_rfl) (NQ_free _) (by kernel_rfl) ?cw6R19 ?ch6R19 ?ca6R19 (Eq.refl _) ?cH6R19
  case cw6R19 => (go_simp; done)
  case ch6R19 =>
    intro ds w' hS K hK
    have hc := (ocell hS).1
    have hf := (ocell hS).2
    have hz := hS.size
    try simp at hz
    go_simp
    try go_bits
    first
      | exact hK _ hS (Gr.refl _)
      | fail
  case ca6R19 => (first | (simp [Act.put]; done) | (simp [Act.put, *]; done))
  try dsimp only
  refine wpW_det (t' := ?ct7R19) 7 (by rfl) (by kernel_rfl) (NQ_free _) (by kernel_rfl) ?cw7R19 ?ch7R19 ?ca7R19 (Eq.refl _) ?cH7R19
  case cw7R19 => (go_simp; done)
  case ch7R19 =>
    intro ds w' hS K hK
    have hc := (ocell hS).1
    have hf := (ocell hS).2
    have hz := hS.size
    try simp at hz
    go_simp
    try go_bits
    first
      | exact hK _ hS (Gr.refl _)
      | fail
  case ca7R19 => (first | (simp [Act.put]; done) | (simp [Act.put, *]; done))
  try dsimp only
  refine wpW_det (t' := ?ct8R19) 8 (by rfl) (by kernel_rfl) (NQ_free _) (by kernel_rfl) ?cw8R19 ?ch8R19 ?ca8R19 (Eq.refl _) ?cH8R19
  case cw8R19 => (go_simp; done)
  case ch8R19 =>
    intro ds w' hS K hK
    have hc := (ocell hS).1
    have hf := (ocell hS).2
    have hz := hS.size
    try simp at hz
    go_simp
    try go_bits
    first
      | exact hK _ hS (Gr.refl _)
      | fail
  case ca8R19 => (first | (simp [Act.put]; done) | (simp [Act.put, *]; done))
  try dsimp only
  refine wpW_det (t' := ?ct9R19) 9 (by rfl) (by kernel_rfl) (NQ_free _) (by kernel_rfl) ?cw9R19 ?ch9R19 ?ca9R19 (Eq.refl _) ?cH9R19
  case cw9R19 => (go_simp; done)
  case ch9R19 =>
    intro ds w' hS K hK
    have hc := (ocell hS).1
    have hf := (ocell hS).2
    have hz := hS.size
    try simp at hz
    go_simp
    try go_bits
    first
      | exact hK _ hS (Gr.refl _)
      | fail
  case ca9R19 => (first | (simp [Act.put]; done) | (simp [Act.put, *]; done))
  try dsimp only
  refine wpW_det (t' := ?ct10R19) 10 (by rfl) (by kernel_rfl) (NQ_free _) (by kernel_rfl) ?cw10R19 ?ch10R19 ?ca10R19 (Eq.refl _) ?cH10R19
  case cw10R19 => (go_simp; done)
  case ch10R19 =>
    intro ds w' hS K hK
    have hc := (ocell hS).1
    have hf := (ocell hS).2
    have hz := hS.size
    try simp at hz
    go_simp
    try go_bits
    first
      | exact hK _ hS (Gr.refl _)
      | fail
  case ca10R19 => (first | (simp [Act.put]; done) | (simp [Act.put, *]; done))
  try dsimp only
  refine wpW_det (t' := ?ct11R19) 11 (by rfl) (by kernel_rfl) (NQ_free _) (by kernel_rfl) ?cw11R19 ?ch11R19 ?ca11R19 (Eq.refl _) ?cH11R19
  case cw11R19 => (go_simp; done)
  case ch11R19 =>
    intro ds w' hS K hK
    have hc := (ocell hS).1
    have hf := (ocell hS).2
    have hz := hS.size
    try simp at hz
    go_simp
    try go_bits
    first
      | exact hK _ hS (Gr.refl _)
      | fail
  case ca11R19 => (first | (simp [Act.put]; done) | (simp [Act.put, *]; done))
  try dsimp only
  refine wpW_det (t' := ?ct12R19) 12 (by rfl) (by kernel_rfl) (NQ_free _) (by kernel_rfl) ?cw12R19 ?ch12R19 ?ca12R19 (Eq.refl _) ?cH12R19
  case cw12R19 => (go_simp; done)
  case ch12R19 =>
    intro ds w' hS K hK
    have hc := (ocell hS).1
    have hf := (ocell hS).2
    have hz := hS.size
    try simp at hz
    go_simp
    try go_bits
    first
      | exact hK _ hS (Gr.refl _)
      | fail
  case ca12R19 => (first | (simp [Act.put]; done) | (simp [Act.put, *]; done))
  try dsimp only
  refine wpW_det (t' := ?ct13R19) 13 (by rfl) (by kernel_rfl) (NQ_free _) (by kernel_rfl) ?cw13R19 ?ch13R19 ?ca13R19 (Eq.refl _) ?cH13R19
  case cw13R19 => (go_simp; done)
  case ch13R19 =>
    intro ds w' hS K hK
    have hc := (ocell hS).1
    have hf := (ocell hS).2
    have hz := hS.size
    try simp at hz
    go_simp
    try go_bits
    first
      | exact hK _ hS (Gr.refl _)
      | fail
  case ca13R19 => (first | (simp [Act.put]; done) | (simp [Act.put, *]; done))
  try dsimp only
  refine wpW_det (t' := ?ct14R19) 14 (by rfl) (by kernel_rfl) (NQ_free _) (by kernel_rfl) ?cw14R19 ?ch14R19 ?ca14R19 (Eq.refl _) ?cH14R19
  case cw14R19 => (go_simp; done)
  case ch14R19 =>
    intro ds w' hS K hK
    have hc := (ocell hS).1
    have hf := (ocell hS).2
    have hz := hS.size
    try simp at hz
    go_simp
    try go_bits
    first
      | exact hK _ hS (Gr.refl _)
      | fail
  case ca14R19 => (first | (simp [Act.put]; done) | (simp [Act.put, *]; done))
  try dsimp only
  refine wpW_det (t' := ?ct15R19) 15 (by rfl) (by kernel_rfl) (NQ_free _) (by kernel_rfl) ?cw15R19 ?ch15R19 ?ca15R19 (Eq.refl _) ?cH15R19
  case cw15R19 => (go_simp; done)
  case ch15R19 =>
    intro ds w' hS K hK
    have hc := (ocell hS).1
    have hf := (ocell hS).2
    have hz := hS.size
    try simp at hz
    go_simp
    try go_bits
    first
      | exact hK _ hS (Gr.refl _)
      | fail
  case ca15R19 => (first | (simp [Act.put]; done) | (simp [Act.put, *]; done))
  try dsimp only
  refine wpW_det (t' := ?ct16R19) 16 (by rfl) (by kernel_rfl) (NQ_free _) (by kernel_rfl) ?cw16R19 ?ch16R19 ?ca16R19 (Eq.refl _) ?cH16R19
  case cw16R19 => (go_simp; done)
  case ch16R19 =>
    intro ds w' hS K hK
    have hc := (ocell hS).1
    have hf := (ocell hS).2
    have hz := hS.size
    try simp at hz
    go_simp
    try go_bits
    first
      | exact hK _ hS (Gr.refl _)
      | fail
  case ca16R19 => (first | (simp [Act.put]; done) | (simp [Act.put, *]; done))
  try dsimp only
  refine wpW_det (t' := ?ct17R19) 17 (by rfl) (by kernel_rfl) (NQ_free _) (by kernel_rfl) ?cw17R19 ?ch17R19 ?ca17R19 (Eq.refl _) ?cH17R19
  case cw17R19 => (go_simp; done)
  case ch17R19 =>
    intro ds w' hS K hK
    have hc := (ocell hS).1
    have hf := (ocell hS).2
    have hz := hS.size
    try simp at hz
    go_simp
    try go_bits
    first
      | exact hK _ hS (Gr.refl _)
      | fail
  case ca17R19 => (first | (simp [Act.put]; done) | (simp [Act.put, *]; done))
  try dsimp only
  refine wpW_det (t' := ?ct18R19) 18 (by rfl) (by kernel_rfl) (NQ_free _) (by kernel_rfl) ?cw18R19 ?ch18R19 ?ca18R19 (Eq.refl _) ?cH18R19
  case cw18R19 => (go_simp; done)
  case ch18R19 =>
    intro ds w' hS K hK
    have hc := (ocell hS).1
    have hf := (ocell hS).2
    have hz := hS.size
    try simp at hz
    go_simp
    try go_bits
    first
      | exact hK _ hS (Gr.refl _)
      | fail
  case ca18R19 => (first | (simp [Act.put]; done) | (simp [Act.put, *]; done))
  try dsimp only
  refine wpW_det (t' := ?ct19R19) 19 (by rfl) (by kernel_rfl) (NQ_free _) (by kernel_rfl) ?cw19R19 ?ch19R19 ?ca19R19 (Eq.refl _) ?cH19R19
  case cw19R19 => (go_simp; done)
  case ch19R19 =>
    intro ds w' hS K hK
    have hc := (ocell hS).1
    have hf := (ocell hS).2
    have hz := hS.size
    try simp at hz
    go_simp
    try go_bits
    first
      | exact hK _ hS (Gr.refl _)
      | fail
  case ca19R19 => (first | (simp [Act.put]; done) | (simp [Act.put, *]; done))
  try dsimp only
  refine wpW_det (t' := ?ct20R19) 20 (by rfl) (by kernel_rfl) (NQ_free _) (by kernel_rfl) ?cw20R19 ?ch20R19 ?ca20R19 (Eq.refl _) ?cH20R19
  case cw20R19 => (go_simp; done)
  case ch20R19 =>
    intro ds w' hS K hK
    have hc := (ocell hS).1
    have hf := (ocell hS).2
    have hz := hS.size
    try simp at hz
    go_simp
    try go_bits
    first
      | exact hK _ hS (Gr.refl _)
      | fail
  case ca20R19 => (first | (simp [Act.put]; done) | (simp [Act.put, *]; done))
  try dsimp only
  refine wpW_det (t' := ?ct21R19) 21 (by rfl) (by kernel_rfl) (NQ_free _) (by kernel_rfl) ?cw21R19 ?ch21R19 ?ca21R19 (Eq.refl _) ?cH21R19
  case cw21R19 => (go_simp; done)
  case ch21R19 =>
    intro ds w' hS K hK
    have hc := (ocell hS).1
    have hf := (ocell hS).2
    have hz := hS.size
    try simp at hz
    go_simp
    try go_bits
    first
      | exact hK _ hS (Gr.refl _)
      | fail
  case ca21R19 => (first | (simp [Act.put]; done) | (simp [Act.put, *]; done))
  try dsimp only
  refine wpW_det (t' := ?ct22R19) 22 (by rfl) (by kernel_rfl) (NQ_free _) (by kernel_rfl) ?cw22R19 ?ch22R19 ?ca22R19 (Eq.refl _) ?cH22R19
  case cw22R19 => (go_simp; done)
  case ch22R19 =>
    intro ds w' hS K hK
    have hc := (ocell hS).1
    have hf := (ocell hS).2
    have hz := hS.size
    try simp at hz
    go_simp
    try go_bits
    first
      | exact hK _ hS (Gr.refl _)
      | fail
  case ca22R19 => (first | (simp [Act.put]; done) | (simp [Act.put, *]; done))
  try dsimp only
  refine wpW_det (t' := ?ct23R19) 23 (by rfl) (by kernel_rfl) (NQ_free _) (by kernel_rfl) ?cw23R19 ?ch23R19 ?ca23R19 (Eq.refl _) ?cH23R19
  case cw23R19 => (go_simp; done)
  case ch23R19 =>
    intro ds w' hS K hK
    have hc := (ocell hS).1
    have hf := (ocell hS).2
    have hz := hS.size
    try simp at hz
    go_simp
    try go_bits
    first
      | exact hK _ hS (Gr.refl _)
      | fail
  case ca23R19 => (first | (simp [Act.put]; done) | (simp [Act.put, *]; done))
  try dsimp only
  refine wpW_branch [24] (by kernel_rfl) (by simp) ?_
  intro w1 hg_w1 hS_w1
  have M1 := M.drew.gr hg_w1
  obtain ⟨v1, v2, v3, v4, lg1, gf1⟩ := M1.cells hk
  refine each_cons ?_ each_nil
  refine wpOp_go (by rfl) (Eq.refl _) (by go_simp; done) ?_
  intro K hK
  go_simp
  try simp only [Act.put]
  refine hK _ _ (only_set' HRW.out (only_set' HRW.out hS_w1 _ _) _ _) ?_
  replace M1 := (M1.storeF hk j.fs[k].2.tx).storeFz (k := k) (by simpa using hk) j.fs[k].2.tz
  clear hK K v1 v2 v3 v4 lg1 gf1
  refine wpW_det (t' := ?ct25R20) 25 (by rfl) (by kernel_rfl) (NQ_free _) (by kernel_rfl) ?cw25R20 ?ch25R20 ?ca25R20 (Eq.refl _) ?cH25R20
  case cw25R20 => (go_simp; done)
  case ch25R20 =>
    intro ds w' hS K hK
    have hc := (ocell hS).1
    have hf := (ocell hS).2
    have hz := hS.size
    try simp at hz
    go_simp
    try go_bits
    first
      | exact hK _ hS (Gr.refl _)
      | exact hK _ (by repeat (first | (with_reducible exact Below.refl _ _) | (with_reducible assumption) | ((with_reducible refine Below.setCell ?_ ?_ _); rotate_left; · (first | exact Nat.le_refl _ | (simp; done) | (simp; omega) | omega)) | ((with_reducible refine Below.alloc ?_ ?_ _); rotate_left; · (first | exact Nat.le_refl _ | (simp; done) | (simp; omega) | omega)) | (with_reducible apply Below.drew) | (with_reducible apply below_drewN') | (refine Below.trans ?_ (Below.mono (by assumption) (by first | exact Nat.le_refl _ | (simp; done) | (simp; omega) | omega))) | exact Below.refl _ _ | assumption)) (by repeat (first | (with_reducible exact Below.refl _ _) | (with_reducible assumption) | ((with_reducible refine Below.setCell ?_ ?_ _); rotate_left; · (first | exact Nat.le_refl _ | (simp; done) | (simp; omega) | omega)) | ((with_reducible refine Below.alloc ?_ ?_ _); rotate_left; · (first | exact Nat.le_refl _ | (simp; done) | (simp; omega) | omega)) | (with_reducible apply Below.drew) | (with_reducible apply below_drewN') | (refine Below.trans ?_ (Below.mono (by assumption) (by first | exact Nat.le_refl _ | (simp; done) | (simp; omega) | omega))) | exact Below.refl _ _ | assumption))
  case ca25R20 => (first | (simp [Act.put]; done) | (simp [Act.put, *]; done))
  try dsimp only
  refine wpW_det (t' := ?ct26R20) 26 (by rfl) (by kernel_rfl) (NQ_free _) (by kernel_rfl) ?cw26R20 ?ch26R20 ?ca26R20 (Eq.refl _) ?cH26R20
  case cw26R20 => (go_simp; done)
  case ch26R20 =>
    intro ds w' hS K hK
    have hc := (ocell hS).1
    have hf := (ocell hS).2
    have hz := hS.size
    try simp at hz
    go_simp
    try go_bits
    first
      | exact hK _ hS (Gr.refl _)
      | exact hK _ (by repeat (first | (with_reducible exact Below.refl _ _) | (with_reducible assumption) | ((with_reducible refine Below.setCell ?_ ?_ _); rotate_left; · (first | exact Nat.le_refl _ | (simp; done) | (simp; omega) | omega)) | ((with_reducible refine Below.alloc ?_ ?_ _); rotate_left; · (first | exact Nat.le_refl _ | (simp; done) | (simp; omega) | omega)) | (with_reducible apply Below.drew) | (with_reducible apply below_drewN') | (refine Below.trans ?_ (Below.mono (by assumption) (by first | exact Nat.le_refl _ | (simp; done) | (simp; omega) | omega))) | exact Below.refl _ _ | assumption)) (by repeat (first | (with_reducible exact Below.refl _ _) | (with_reducible assumption) | ((with_reducible refine Below.setCell ?_ ?_ _); rotate_left; · (first | exact Nat.le_refl _ | (simp; done) | (simp; omega) | omega)) | ((with_reducible refine Below.alloc ?_ ?_ _); rotate_left; · (first | exact Nat.le_refl _ | (simp; done) | (simp; omega) | omega)) | (with_reducible apply Below.drew) | (with_reducible apply below_drewN') | (refine Below.trans ?_ (Below.mono (by assumption) (by first | exact Nat.le_refl _ | (simp; done) | (simp; omega) | omega))) | exact Below.refl _ _ | assumption))
  case ca26R20 => (first | (simp [Act.put]; done) | (simp [Act.put, *]; done))
  try dsimp only
  refine wpW_branch [27] (by kernel_rfl) (by simp) ?_
  intro w2 hg_w2 hS_w2
  replace M1 := M1.gr hg_w2
  obtain ⟨v1, v2, v3, v4, lg1, gf1⟩ := M1.cells (k := k) (by simpa using hk)
  refine each_cons ?_ each_nil
  refine wpOp_go (by rfl) (Eq.refl _) (by go_simp; done) ?_
  intro K hK
  go_simp
  try simp only [Act.put]
  refine hK _ _ (only_set' HRW.out (only_set' HRW.out hS_w2 _ _) _ _) ?_
  replace M1 := (M1.storeT (k := k) (by simpa using hk) j.fs[k].2.fx).storeTz (k := k) (by simpa using hk) j.fs[k].2.fz
  clear hK K v1 v2 v3 v4 lg1 gf1
  refine wpW_end (by kernel_rfl) ?_
  intro we hg hS
  unfold NQ
  dsimp only
  rw [HRW.out] at hS
  replace M1 := M1.gr hg
  simp only [List.getElem_set_self, List.set_set] at M1
  exact H.out _ _ _ _ _ _ _ _ _ _ _ _ _ _ _ _ _ _ _ _ _ _ _ _ _ _ _ M1 hS

set_option maxRecDepth 100000 in
set_option maxHeartbeats 4000000 in
/-- The part of a face is found (region 5). -/
theorem partReg5 (j : Jo) (A : Option Addr) (c B : Nat) (k : Int) (sn : ByteArray) (s : Su) (r : PR) (w : World) (hj : JoOk j A c B w) (hA : A = none → c = 0) (hl : j.fs.length ≤ 1000000000) (hE : Ends w) (hns : sn.size ≤ 1000000000000) (hw : s.wf) (hP : partOfR j k sn s = r) (pb py : Nat)
    (b : Blk w pb 24 (joC j A c)) (y : Blk w py 46 (asC k sn s)) {t0 t1 t2 t5 t6 t7 t8 t9 t10 t11 t12 t13 t14 t15 t16 t17 t18 t19 t20 t21 t22 t23 t24 t25 t26 t27 t28 t29 t30 t31 t32 t33 t34 t35 t36 t37 t38 t39 t40 t41 t42 t43 t44 t45 t46 t47 t48 t49 t50 t51 t52 t53 t54 t55 t56 t57 t58 t59 t60 t61 t62 t63 t64 t65 t66 t67 t68 t69 t70 t71 t72 t73 t74 t75 t76 t77 t78 t79 t80 t81 t82 t83 t84 t85 t86 t87 t88 t89 t90 t91 t92 t93 t94 t95 t96 t97 t98 t99 t100 t101 t102 t103 t104 t105 t106 t107 t108 t109 t110 t111 t112 t113 t114 t115 t116 t117 t118 t119 t120 t121 t122 t123 t124 t125 t126 t127 t128 t129 t130 t131 t132 t133 t134 t135 t136 t137 t138 t139 t140 t141 t142 t143 t144 t145 t146 t147 t148 t149 t150 t151 t152 t153 t154 t155 t156 t157 t158 t159 t160 t161 t162 t163 t164 t165 t166 t167 t168 t169 t170 t171 t172 t173 t174 t175 t176 t177 t178 t179 t180 t181 t182 t183 t184 t185 t186 t187 t188 t189 t190 t191 t192 t193 t194 t195 t196 t197 t198 t199 t200 t201 t202 t203 t204 t205 t206 t207 t208 t209 t210 t211 t212 t213 t214 t215 t216 t217 t218 t219 t220 t221 t222 t223 t224 t225 t226 t227 t228 t229 t230 t231 t232 t233 t234 t235 t236 t237 t238 t239 t240 t241 t242 t243 : Value} {ds : List Deferred} (K' : Act → World → Prop) (Q' : Exit → Act → World → Prop)
    (h : ∀ (p : Nat) (t44 t45 t46 t47 t48 t49 t50 : Value) (w' : World), Blk w' p 51 #[.int .i64 r.a, .int .i64 r.b, .int .i64 r.c, .int .i64 r.d] → w.heap.size ≤ p → Below w.heap.size w w' → K' ⟨#[t0, t1, t2, .pointer (some ⟨pb, 0, none⟩), .pointer (some ⟨py, 0, none⟩), t5, t6, .pointer (some ⟨p, 0, none⟩), .int .i64 r.e, t9, t10, t11, t12, t13, t14, t15, t16, t17, t18, t19, t20, t21, t22, t23, t24, t25, t26, t27, t28, t29, t30, t31, t32, t33, t34, t35, t36, t37, t38, t39, t40, t41, t42, t43, t44, t45, t46, t47, t48, t49, t50, t51, t52, t53, t54, t55, t56, t57, t58, t59, t60, t61, t62, t63, t64, t65, t66, t67, t68, t69, t70, t71, t72, t73, t74, t75, t76, t77, t78, t79, t80, t81, t82, t83, t84, t85, t86, t87, t88, t89, t90, t91, t92, t93, t94, t95, t96, t97, t98, t99, t100, t101, t102, t103, t104, t105, t106, t107, t108, t109, t110, t111, t112, t113, t114, t115, t116, t117, t118, t119, t120, t121, t122, t123, t124, t125, t126, t127, t128, t129, t130, t131, t132, t133, t134, t135, t136, t137, t138, t139, t140, t141, t142, t143, t144, t145, t146, t147, t148, t149, t150, t151, t152, t153, t154, t155, t156, t157, t158, t159, t160, t161, t162, t163, t164, t165, t166, t167, t168, t169, t170, t171, t172, t173, t174, t175, t176, t177, t178, t179, t180, t181, t182, t183, t184, t185, t186, t187, t188, t189, t190, t191, t192, t193, t194, t195, t196, t197, t198, t199, t200, t201, t202, t203, t204, t205, t206, t207, t208, t209, t210, t211, t212, t213, t214, t215, t216, t217, t218, t219, t220, t221, t222, t223, t224, t225, t226, t227, t228, t229, t230, t231, t232, t233, t234, t235, t236, t237, t238, t239, t240, t241, t242, t243], ds⟩ w') :
    (regOf Tryz.f4 5).wp Tryz.prog (Exit.then K' Q') ⟨#[t0, t1, t2, .pointer (some ⟨pb, 0, none⟩), .pointer (some ⟨py, 0, none⟩), t5, t6, t7, t8, t9, t10, t11, t12, t13, t14, t15, t16, t17, t18, t19, t20, t21, t22, t23, t24, t25, t26, t27, t28, t29, t30, t31, t32, t33, t34, t35, t36, t37, t38, t39, t40, t41, t42, t43, t44, t45, t46, t47, t48, t49, t50, t51, t52, t53, t54, t55, t56, t57, t58, t59, t60, t61, t62, t63, t64, t65, t66, t67, t68, t69, t70, t71, t72, t73, t74, t75, t76, t77, t78, t79, t80, t81, t82, t83, t84, t85, t86, t87, t88, t89, t90, t91, t92, t93, t94, t95, t96, t97, t98, t99, t100, t101, t102, t103, t104, t105, t106, t107, t108, t109, t110, t111, t112, t113, t114, t115, t116, t117, t118, t119, t120, t121, t122, t123, t124, t125, t126, t127, t128, t129, t130, t131, t132, t133, t134, t135, t136, t137, t138, t139, t140, t141, t142, t143, t144, t145, t146, t147, t148, t149, t150, t151, t152, t153, t154, t155, t156, t157, t158, t159, t160, t161, t162, t163, t164, t165, t166, t167, t168, t169, t170, t171, t172, t173, t174, t175, t176, t177, t178, t179, t180, t181, t182, t183, t184, t185, t186, t187, t188, t189, t190, t191, t192, t193, t194, t195, t196, t197, t198, t199, t200, t201, t202, t203, t204, t205, t206, t207, t208, t209, t210, t211, t212, t213, t214, t215, t216, t217, t218, t219, t220, t221, t222, t223, t224, t225, t226, t227, t228, t229, t230, t231, t232, t233, t234, t235, t236, t237, t238, t239, t240, t241, t242, t243], ds⟩ w := by
  have HJ : Hid (∀ W, Below w.heap.size w W → JoOk j A c B W) := Lib.hid fun W h => hj.below h hj.base
  have HE : Hid (∀ W, Below w.heap.size w W → Ends W) := Lib.hid fun W h => hE.below h
  have HP := Lib.hid hP
  have H := Lib.hid h; clear h hj hE hP
  have HA := Lib.hid hA; clear hA
  unfold joC at b
  unfold asC at y
  obtain ⟨t0, t1, t2, t3⟩ := blk4c b
  obtain ⟨u0, u1, u2, u3, u4, u5, u6, u7, u8, u9, u10⟩ := as_cells y
  have lb := b.lt
  have ly := y.lt
  conv in (regOf _ _) => whnf
  refine wp_region_w (Gr _) (by kernel_rfl) (Below.refl _ _).drew ?_
  refine wpW_det (t' := ?ct0R21) 0 (by rfl) (by kernel_rfl) (NQ_free _) (by kernel_rfl) ?cw0R21 ?ch0R21 ?ca0R21 (Eq.refl _) ?cH0R21
  case cw0R21 => (go_simp; done)
  case ch0R21 =>
    intro ds w' hS K hK
    have hc := (bcell hS).1
    have hf := (bcell hS).2
    have hz := hS.size
    try simp at hz
    go_simp
    try go_bits
    first
      | exact hK _ hS (Gr.refl _)
      | exact hK _ (by repeat (first | (with_reducible exact Below.refl _ _) | (with_reducible assumption) | ((with_reducible refine Below.setCell ?_ ?_ _); rotate_left; · (first | exact Nat.le_refl _ | (simp; done) | (simp; omega) | omega)) | ((with_reducible refine Below.alloc ?_ ?_ _); rotate_left; · (first | exact Nat.le_refl _ | (simp; done) | (simp; omega) | omega)) | (with_reducible apply Below.drew) | (with_reducible apply below_drewN') | (refine Below.trans ?_ (Below.mono (by assumption) (by first | exact Nat.le_refl _ | (simp; done) | (simp; omega) | omega))) | exact Below.refl _ _ | assumption)) (by repeat (first | (with_reducible exact Below.refl _ _) | (with_reducible assumption) | ((with_reducible refine Below.setCell ?_ ?_ _); rotate_left; · (first | exact Nat.le_refl _ | (simp; done) | (simp; omega) | omega)) | ((with_reducible refine Below.alloc ?_ ?_ _); rotate_left; · (first | exact Nat.le_refl _ | (simp; done) | (simp; omega) | omega)) | (with_reducible apply Below.drew) | (with_reducible apply below_drewN') | (refine Below.trans ?_ (Below.mono (by assumption) (by first | exact Nat.le_refl _ | (simp; done) | (simp; omega) | omega))) | exact Below.refl _ _ | assumption))
  case ca0R21 => (first | (simp [Act.put]; done) | (simp [Act.put, *]; done))
  try dsimp only
  refine wpW_det (t' := ?ct2R21) 2 (by rfl) (by kernel_rfl) (NQ_free _) (by kernel_rfl) ?cw2R21 ?ch2R21 ?ca2R21 (Eq.refl _) ?cH2R21
  case cw2R21 => (go_simp; done)
  case ch2R21 =>
    intro ds w' hS K hK
    have hc := (bcell hS).1
    have hf := (bcell hS).2
    have hz := hS.size
    try simp at hz
    go_simp
    try go_bits
    first
      | exact hK _ hS (Gr.refl _)
      | exact hK _ (by repeat (first | (with_reducible exact Below.refl _ _) | (with_reducible assumption) | ((with_reducible refine Below.setCell ?_ ?_ _); rotate_left; · (first | exact Nat.le_refl _ | (simp; done) | (simp; omega) | omega)) | ((with_reducible refine Below.alloc ?_ ?_ _); rotate_left; · (first | exact Nat.le_refl _ | (simp; done) | (simp; omega) | omega)) | (with_reducible apply Below.drew) | (with_reducible apply below_drewN') | (refine Below.trans ?_ (Below.mono (by assumption) (by first | exact Nat.le_refl _ | (simp; done) | (simp; omega) | omega))) | exact Below.refl _ _ | assumption)) (by repeat (first | (with_reducible exact Below.refl _ _) | (with_reducible assumption) | ((with_reducible refine Below.setCell ?_ ?_ _); rotate_left; · (first | exact Nat.le_refl _ | (simp; done) | (simp; omega) | omega)) | ((with_reducible refine Below.alloc ?_ ?_ _); rotate_left; · (first | exact Nat.le_refl _ | (simp; done) | (simp; omega) | omega)) | (with_reducible apply Below.drew) | (with_reducible apply below_drewN') | (refine Below.trans ?_ (Below.mono (by assumption) (by first | exact Nat.le_refl _ | (simp; done) | (simp; omega) | omega))) | exact Below.refl _ _ | assumption))
  case ca2R21 => (first | (simp [Act.put]; done) | (simp [Act.put, *]; done))
  try dsimp only
  refine wpW_branch [1, 7] (by kernel_rfl) (by simp) ?_
  intro w1 hg1 hS1
  try have z := Blk.gr z hg1
  try have hj6 := hj6.below hg1 hj6.base
  try (have zz := blk4 z; obtain ⟨z0, z1, z2, z3, zf⟩ := zz)
  try have lz := z.lt
  refine each_cons ?_ (each_cons ?_ (each_nil))
  · refine wpOp_go (by rfl) (Eq.refl _) (by go_simp; done) ?_
    intro K hK
    go_simp
    try simp only [Act.put]
    have hj5 := HJ.out _ hS1
    refine (copyJoint_any j A c B _ hj5 HA.out hl).mono ?_
    rintro e w6 ⟨v, rfl, own6, hB6⟩
    obtain ⟨A6, c6, rfl, hj6, hA6⟩ := copied hj5 own6
    try have z := Blk.gr z hB6
    refine hK _ _ (Below.trans hS1 (hB6.mono (Below.size hS1))) ?_
    clear hK K own6 hj5
    refine wpW_branch [3, 7] (by kernel_rfl) (by simp) ?_
    intro w2 hg2 hS2
    try have z := Blk.gr z hg2
    try have hj6 := hj6.below hg2 hj6.base
    try (have zz := blk4 z; obtain ⟨z0, z1, z2, z3, zf⟩ := zz)
    try have lz := z.lt
    refine each_cons ?_ (each_cons ?_ (each_nil))
    · refine wpOp_go (by rfl) (Eq.refl _) (by go_simp; done) ?_
      intro K hK
      go_simp
      try simp only [Act.put]
      refine (partOf_any j k sn s A6 c6 w6.heap.size _ hj6 (HE.out _ hS2) hns hw).mono ?_
      rw [HP.out]
      unfold prC
      rintro e w8 ⟨rfl, hB8⟩
      try have z := Blk.gr z hB8
      refine hK _ _ (Below.trans hS2 (hB8.mono (Below.size hS2))) ?_
      clear hK K
      refine wpW_det (t' := ?ct4R22) 4 (by rfl) (by kernel_rfl) (NQ_free _) (by kernel_rfl) ?cw4R22 ?ch4R22 ?ca4R22 (Eq.refl _) ?cH4R22
      case cw4R22 => (go_simp; done)
      case ch4R22 =>
        intro ds w' hS K hK
        have hc := (bcell hS).1
        have hf := (bcell hS).2
        have hz := hS.size
        try simp at hz
        go_simp
        try go_bits
        first
          | exact hK _ hS (Gr.refl _)
          | exact hK _ (by repeat (first | (with_reducible exact Below.refl _ _) | (with_reducible assumption) | ((with_reducible refine Below.setCell ?_ ?_ _); rotate_left; · (first | exact Nat.le_refl _ | (simp; done) | (simp; omega) | omega)) | ((with_reducible refine Below.alloc ?_ ?_ _); rotate_left; · (first | exact Nat.le_refl _ | (simp; done) | (simp; omega) | omega)) | (with_reducible apply Below.drew) | (with_reducible apply below_drewN') | (refine Below.trans ?_ (Below.mono (by assumption) (by first | exact Nat.le_refl _ | (simp; done) | (simp; omega) | omega))) | exact Below.refl _ _ | assumption)) (by repeat (first | (with_reducible exact Below.refl _ _) | (with_reducible assumption) | ((with_reducible refine Below.setCell ?_ ?_ _); rotate_left; · (first | exact Nat.le_refl _ | (simp; done) | (simp; omega) | omega)) | ((with_reducible refine Below.alloc ?_ ?_ _); rotate_left; · (first | exact Nat.le_refl _ | (simp; done) | (simp; omega) | omega)) | (with_reducible apply Below.drew) | (with_reducible apply below_drewN') | (refine Below.trans ?_ (Below.mono (by assumption) (by first | exact Nat.le_refl _ | (simp; done) | (simp; omega) | omega))) | exact Below.refl _ _ | assumption))
      case ca4R22 => (first | (simp [Act.put]; done) | (simp [Act.put, *]; done))
      try dsimp only
      refine wpW_det (t' := ?ct5R22) 5 (by rfl) (by kernel_rfl) (NQ_free _) (by kernel_rfl) ?cw5R22 ?ch5R22 ?ca5R22 (Eq.refl _) ?cH5R22
      case cw5R22 => (go_simp; done)
      case ch5R22 =>
        intro ds w' hS K hK
        have hc := (bcell hS).1
        have hf := (bcell hS).2
        have hz := hS.size
        try simp at hz
        go_simp
        try go_bits
        first
          | exact hK _ hS (Gr.refl _)
          | exact hK _ (by repeat (first | (with_reducible exact Below.refl _ _) | (with_reducible assumption) | ((with_reducible refine Below.setCell ?_ ?_ _); rotate_left; · (first | exact Nat.le_refl _ | (simp; done) | (simp; omega) | omega)) | ((with_reducible refine Below.alloc ?_ ?_ _); rotate_left; · (first | exact Nat.le_refl _ | (simp; done) | (simp; omega) | omega)) | (with_reducible apply Below.drew) | (with_reducible apply below_drewN') | (refine Below.trans ?_ (Below.mono (by assumption) (by first | exact Nat.le_refl _ | (simp; done) | (simp; omega) | omega))) | exact Below.refl _ _ | assumption)) (by repeat (first | (with_reducible exact Below.refl _ _) | (with_reducible assumption) | ((with_reducible refine Below.setCell ?_ ?_ _); rotate_left; · (first | exact Nat.le_refl _ | (simp; done) | (simp; omega) | omega)) | ((with_reducible refine Below.alloc ?_ ?_ _); rotate_left; · (first | exact Nat.le_refl _ | (simp; done) | (simp; omega) | omega)) | (with_reducible apply Below.drew) | (with_reducible apply below_drewN') | (refine Below.trans ?_ (Below.mono (by assumption) (by first | exact Nat.le_refl _ | (simp; done) | (simp; omega) | omega))) | exact Below.refl _ _ | assumption))
      case ca5R22 => (first | (simp [Act.put]; done) | (simp [Act.put, *]; done))
      try dsimp only
      refine wpW_det (t' := ?ct6R22) 6 (by rfl) (by kernel_rfl) (NQ_free _) (by kernel_rfl) ?cw6R22 ?ch6R22 ?ca6R22 (Eq.refl _) ?cH6R22
      case cw6R22 => (go_simp; done)
      case ch6R22 =>
        intro ds w' hS K hK
        have hc := (bcell hS).1
        have hf := (bcell hS).2
        have hz := hS.size
        try simp at hz
        go_simp
        try go_bits
        first
          | exact hK _ hS (Gr.refl _)
          | exact hK _ (by repeat (first | (with_reducible exact Below.refl _ _) | (with_reducible assumption) | ((with_reducible refine Below.setCell ?_ ?_ _); rotate_left; · (first | exact Nat.le_refl _ | (simp; done) | (simp; omega) | omega)) | ((with_reducible refine Below.alloc ?_ ?_ _); rotate_left; · (first | exact Nat.le_refl _ | (simp; done) | (simp; omega) | omega)) | (with_reducible apply Below.drew) | (with_reducible apply below_drewN') | (refine Below.trans ?_ (Below.mono (by assumption) (by first | exact Nat.le_refl _ | (simp; done) | (simp; omega) | omega))) | exact Below.refl _ _ | assumption)) (by repeat (first | (with_reducible exact Below.refl _ _) | (with_reducible assumption) | ((with_reducible refine Below.setCell ?_ ?_ _); rotate_left; · (first | exact Nat.le_refl _ | (simp; done) | (simp; omega) | omega)) | ((with_reducible refine Below.alloc ?_ ?_ _); rotate_left; · (first | exact Nat.le_refl _ | (simp; done) | (simp; omega) | omega)) | (with_reducible apply Below.drew) | (with_reducible apply below_drewN') | (refine Below.trans ?_ (Below.mono (by assumption) (by first | exact Nat.le_refl _ | (simp; done) | (simp; omega) | omega))) | exact Below.refl _ _ | assumption))
      case ca6R22 => (first | (simp [Act.put]; done) | (simp [Act.put, *]; done))
      try dsimp only
      refine wpW_branch [7] (by kernel_rfl) (by simp) ?_
      intro w3 hg3 hS3
      try have z := Blk.gr z hg3
      try have hj6 := hj6.below hg3 hj6.base
      try (have zz := blk4 z; obtain ⟨z0, z1, z2, z3, zf⟩ := zz)
      try have lz := z.lt
      refine each_cons ?_ (each_nil)
      · refine wpOp_go (by rfl) (Eq.refl _) (by go_simp; done) ?_
        intro K hK
        go_simp
        try simp only [Act.put]
        have z := Blk.new w3 51 #[.int .i64 0, .int .i64 0, .int .i64 0, .int .i64 0]
        have hzp := Below.size hS3
        try have hj6 := hj6.below ((Below.refl w3.heap.size w3).alloc (Nat.le_refl _) (.cells #[.int .i64 0, .int .i64 0, .int .i64 0, .int .i64 0] 51 (0, 0))) hj6.base
        refine hK _ _ (Below.alloc hS3 (Below.size hS3) _) ?_
        clear hK K
        refine wpW_branch [8] (by kernel_rfl) (by simp) ?_
        intro w4 hg4 hS4
        try have z := Blk.gr z hg4
        try have hj6 := hj6.below hg4 hj6.base
        try (have zz := blk4 z; obtain ⟨z0, z1, z2, z3, zf⟩ := zz)
        try have lz := z.lt
        refine each_cons ?_ (each_nil)
        · refine wpOp_go (by rfl) (Eq.refl _) (by go_simp; done) ?_
          intro K hK
          go_simp
          try simp only [Act.put]
          have z := Blk.set4 z (.int .i64 r.a) (.int .i64 r.b) (.int .i64 r.c) (.int .i64 r.d)
          refine hK _ _ (Below.set4 hS4 hzp) ?_
          clear hK K z0 z1 z2 z3 zf
          refine wpW_det (t' := ?ct9R23) 9 (by rfl) (by kernel_rfl) (NQ_free _) (by kernel_rfl) ?cw9R23 ?ch9R23 ?ca9R23 (Eq.refl _) ?cH9R23
          case cw9R23 => (go_simp; done)
          case ch9R23 =>
            intro ds w' hS K hK
            have hc := (bcell hS).1
            have hf := (bcell hS).2
            have hz := hS.size
            try simp at hz
            go_simp
            try go_bits
            first
              | exact hK _ hS (Gr.refl _)
              | exact hK _ (by repeat (first | (with_reducible exact Below.refl _ _) | (with_reducible assumption) | ((with_reducible refine Below.setCell ?_ ?_ _); rotate_left; · (first | exact Nat.le_refl _ | (simp; done) | (simp; omega) | omega)) | ((with_reducible refine Below.alloc ?_ ?_ _); rotate_left; · (first | exact Nat.le_refl _ | (simp; done) | (simp; omega) | omega)) | (with_reducible apply Below.drew) | (with_reducible apply below_drewN') | (refine Below.trans ?_ (Below.mono (by assumption) (by first | exact Nat.le_refl _ | (simp; done) | (simp; omega) | omega))) | exact Below.refl _ _ | assumption)) (by repeat (first | (with_reducible exact Below.refl _ _) | (with_reducible assumption) | ((with_reducible refine Below.setCell ?_ ?_ _); rotate_left; · (first | exact Nat.le_refl _ | (simp; done) | (simp; omega) | omega)) | ((with_reducible refine Below.alloc ?_ ?_ _); rotate_left; · (first | exact Nat.le_refl _ | (simp; done) | (simp; omega) | omega)) | (with_reducible apply Below.drew) | (with_reducible apply below_drewN') | (refine Below.trans ?_ (Below.mono (by assumption) (by first | exact Nat.le_refl _ | (simp; done) | (simp; omega) | omega))) | exact Below.refl _ _ | assumption))
          case ca9R23 => (first | (simp [Act.put]; done) | (simp [Act.put, *]; done))
          try dsimp only
          refine wpW_end (by kernel_rfl) ?_
          intro wE hg hS
          unfold NQ
          dsimp only
          have z := z.gr hg
          exact H.out _ _ _ _ _ _ _ _ _ z hzp hS
    · refine wpOp_go (by rfl) (Eq.refl _) (by go_simp; done) ?_
      intro K hK
      go_simp
      try simp only [Act.put]
      have z := Blk.new w2 51 #[.int .i64 0, .int .i64 0, .int .i64 0, .int .i64 0]
      have hzp := Below.size hS2
      try have hj6 := hj6.below ((Below.refl w2.heap.size w2).alloc (Nat.le_refl _) (.cells #[.int .i64 0, .int .i64 0, .int .i64 0, .int .i64 0] 51 (0, 0))) hj6.base
      refine hK _ _ (Below.alloc hS2 (Below.size hS2) _) ?_
      clear hK K
      refine wpW_branch [3] (by kernel_rfl) (by simp) ?_
      intro w3 hg3 hS3
      try have z := Blk.gr z hg3
      try have hj6 := hj6.below hg3 hj6.base
      try (have zz := blk4 z; obtain ⟨z0, z1, z2, z3, zf⟩ := zz)
      try have lz := z.lt
      refine each_cons ?_ (each_nil)
      · refine wpOp_go (by rfl) (Eq.refl _) (by go_simp; done) ?_
        intro K hK
        go_simp
        try simp only [Act.put]
        refine (partOf_any j k sn s A6 c6 w6.heap.size _ hj6 (HE.out _ hS3) hns hw).mono ?_
        rw [HP.out]
        unfold prC
        rintro e w8 ⟨rfl, hB8⟩
        try have z := Blk.gr z hB8
        refine hK _ _ (Below.trans hS3 (hB8.mono (Below.size hS3))) ?_
        clear hK K
        refine wpW_det (t' := ?ct4R24) 4 (by rfl) (by kernel_rfl) (NQ_free _) (by kernel_rfl) ?cw4R24 ?ch4R24 ?ca4R24 (Eq.refl _) ?cH4R24
        case cw4R24 => (go_simp; done)
        case ch4R24 =>
          intro ds w' hS K hK
          have hc := (bcell hS).1
          have hf := (bcell hS).2
          have hz := hS.size
          try simp at hz
          go_simp
          try go_bits
          first
            | exact hK _ hS (Gr.refl _)
            | exact hK _ (by repeat (first | (with_reducible exact Below.refl _ _) | (with_reducible assumption) | ((with_reducible refine Below.setCell ?_ ?_ _); rotate_left; · (first | exact Nat.le_refl _ | (simp; done) | (simp; omega) | omega)) | ((with_reducible refine Below.alloc ?_ ?_ _); rotate_left; · (first | exact Nat.le_refl _ | (simp; done) | (simp; omega) | omega)) | (with_reducible apply Below.drew) | (with_reducible apply below_drewN') | (refine Below.trans ?_ (Below.mono (by assumption) (by first | exact Nat.le_refl _ | (simp; done) | (simp; omega) | omega))) | exact Below.refl _ _ | assumption)) (by repeat (first | (with_reducible exact Below.refl _ _) | (with_reducible assumption) | ((with_reducible refine Below.setCell ?_ ?_ _); rotate_left; · (first | exact Nat.le_refl _ | (simp; done) | (simp; omega) | omega)) | ((with_reducible refine Below.alloc ?_ ?_ _); rotate_left; · (first | exact Nat.le_refl _ | (simp; done) | (simp; omega) | omega)) | (with_reducible apply Below.drew) | (with_reducible apply below_drewN') | (refine Below.trans ?_ (Below.mono (by assumption) (by first | exact Nat.le_refl _ | (simp; done) | (simp; omega) | omega))) | exact Below.refl _ _ | assumption))
        case ca4R24 => (first | (simp [Act.put]; done) | (simp [Act.put, *]; done))
        try dsimp only
        refine wpW_det (t' := ?ct5R24) 5 (by rfl) (by kernel_rfl) (NQ_free _) (by kernel_rfl) ?cw5R24 ?ch5R24 ?ca5R24 (Eq.refl _) ?cH5R24
        case cw5R24 => (go_simp; done)
        case ch5R24 =>
          intro ds w' hS K hK
          have hc := (bcell hS).1
          have hf := (bcell hS).2
          have hz := hS.size
          try simp at hz
          go_simp
          try go_bits
          first
            | exact hK _ hS (Gr.refl _)
            | exact hK _ (by repeat (first | (with_reducible exact Below.refl _ _) | (with_reducible assumption) | ((with_reducible refine Below.setCell ?_ ?_ _); rotate_left; · (first | exact Nat.le_refl _ | (simp; done) | (simp; omega) | omega)) | ((with_reducible refine Below.alloc ?_ ?_ _); rotate_left; · (first | exact Nat.le_refl _ | (simp; done) | (simp; omega) | omega)) | (with_reducible apply Below.drew) | (with_reducible apply below_drewN') | (refine Below.trans ?_ (Below.mono (by assumption) (by first | exact Nat.le_refl _ | (simp; done) | (simp; omega) | omega))) | exact Below.refl _ _ | assumption)) (by repeat (first | (with_reducible exact Below.refl _ _) | (with_reducible assumption) | ((with_reducible refine Below.setCell ?_ ?_ _); rotate_left; · (first | exact Nat.le_refl _ | (simp; done) | (simp; omega) | omega)) | ((with_reducible refine Below.alloc ?_ ?_ _); rotate_left; · (first | exact Nat.le_refl _ | (simp; done) | (simp; omega) | omega)) | (with_reducible apply Below.drew) | (with_reducible apply below_drewN') | (refine Below.trans ?_ (Below.mono (by assumption) (by first | exact Nat.le_refl _ | (simp; done) | (simp; omega) | omega))) | exact Below.refl _ _ | assumption))
        case ca5R24 => (first | (simp [Act.put]; done) | (simp [Act.put, *]; done))
        try dsimp only
        refine wpW_det (t' := ?ct6R24) 6 (by rfl) (by kernel_rfl) (NQ_free _) (by kernel_rfl) ?cw6R24 ?ch6R24 ?ca6R24 (Eq.refl _) ?cH6R24
        case cw6R24 => (go_simp; done)
        case ch6R24 =>
          intro ds w' hS K hK
          have hc := (bcell hS).1
          have hf := (bcell hS).2
          have hz := hS.size
          try simp at hz
          go_simp
          try go_bits
          first
            | exact hK _ hS (Gr.refl _)
            | exact hK _ (by repeat (first | (with_reducible exact Below.refl _ _) | (with_reducible assumption) | ((with_reducible refine Below.setCell ?_ ?_ _); rotate_left; · (first | exact Nat.le_refl _ | (simp; done) | (simp; omega) | omega)) | ((with_reducible refine Below.alloc ?_ ?_ _); rotate_left; · (first | exact Nat.le_refl _ | (simp; done) | (simp; omega) | omega)) | (with_reducible apply Below.drew) | (with_reducible apply below_drewN') | (refine Below.trans ?_ (Below.mono (by assumption) (by first | exact Nat.le_refl _ | (simp; done) | (simp; omega) | omega))) | exact Below.refl _ _ | assumption)) (by repeat (first | (with_reducible exact Below.refl _ _) | (with_reducible assumption) | ((with_reducible refine Below.setCell ?_ ?_ _); rotate_left; · (first | exact Nat.le_refl _ | (simp; done) | (simp; omega) | omega)) | ((with_reducible refine Below.alloc ?_ ?_ _); rotate_left; · (first | exact Nat.le_refl _ | (simp; done) | (simp; omega) | omega)) | (with_reducible apply Below.drew) | (with_reducible apply below_drewN') | (refine Below.trans ?_ (Below.mono (by assumption) (by first | exact Nat.le_refl _ | (simp; done) | (simp; omega) | omega))) | exact Below.refl _ _ | assumption))
        case ca6R24 => (first | (simp [Act.put]; done) | (simp [Act.put, *]; done))
        try dsimp only
        refine wpW_branch [8] (by kernel_rfl) (by simp) ?_
        intro w4 hg4 hS4
        try have z := Blk.gr z hg4
        try have hj6 := hj6.below hg4 hj6.base
        try (have zz := blk4 z; obtain ⟨z0, z1, z2, z3, zf⟩ := zz)
        try have lz := z.lt
        refine each_cons ?_ (each_nil)
        · refine wpOp_go (by rfl) (Eq.refl _) (by go_simp; done) ?_
          intro K hK
          go_simp
          try simp only [Act.put]
          have z := Blk.set4 z (.int .i64 r.a) (.int .i64 r.b) (.int .i64 r.c) (.int .i64 r.d)
          refine hK _ _ (Below.set4 hS4 hzp) ?_
          clear hK K z0 z1 z2 z3 zf
          refine wpW_det (t' := ?ct9R25) 9 (by rfl) (by kernel_rfl) (NQ_free _) (by kernel_rfl) ?cw9R25 ?ch9R25 ?ca9R25 (Eq.refl _) ?cH9R25
          case cw9R25 => (go_simp; done)
          case ch9R25 =>
            intro ds w' hS K hK
            have hc := (bcell hS).1
            have hf := (bcell hS).2
            have hz := hS.size
            try simp at hz
            go_simp
            try go_bits
            first
              | exact hK _ hS (Gr.refl _)
              | exact hK _ (by repeat (first | (with_reducible exact Below.refl _ _) | (with_reducible assumption) | ((with_reducible refine Below.setCell ?_ ?_ _); rotate_left; · (first | exact Nat.le_refl _ | (simp; done) | (simp; omega) | omega)) | ((with_reducible refine Below.alloc ?_ ?_ _); rotate_left; · (first | exact Nat.le_refl _ | (simp; done) | (simp; omega) | omega)) | (with_reducible apply Below.drew) | (with_reducible apply below_drewN') | (refine Below.trans ?_ (Below.mono (by assumption) (by first | exact Nat.le_refl _ | (simp; done) | (simp; omega) | omega))) | exact Below.refl _ _ | assumption)) (by repeat (first | (with_reducible exact Below.refl _ _) | (with_reducible assumption) | ((with_reducible refine Below.setCell ?_ ?_ _); rotate_left; · (first | exact Nat.le_refl _ | (simp; done) | (simp; omega) | omega)) | ((with_reducible refine Below.alloc ?_ ?_ _); rotate_left; · (first | exact Nat.le_refl _ | (simp; done) | (simp; omega) | omega)) | (with_reducible apply Below.drew) | (with_reducible apply below_drewN') | (refine Below.trans ?_ (Below.mono (by assumption) (by first | exact Nat.le_refl _ | (simp; done) | (simp; omega) | omega))) | exact Below.refl _ _ | assumption))
          case ca9R25 => (first | (simp [Act.put]; done) | (simp [Act.put, *]; done))
          try dsimp only
          refine wpW_end (by kernel_rfl) ?_
          intro wE hg hS
          unfold NQ
          dsimp only
          have z := z.gr hg
          exact H.out _ _ _ _ _ _ _ _ _ z hzp hS
  · refine wpOp_go (by rfl) (Eq.refl _) (by go_simp; done) ?_
    intro K hK
    go_simp
    try simp only [Act.put]
    have z := Blk.new w1 51 #[.int .i64 0, .int .i64 0, .int .i64 0, .int .i64 0]
    have hzp := Below.size hS1
    try have hj6 := hj6.below ((Below.refl w1.heap.size w1).alloc (Nat.le_refl _) (.cells #[.int .i64 0, .int .i64 0, .int .i64 0, .int .i64 0] 51 (0, 0))) hj6.base
    refine hK _ _ (Below.alloc hS1 (Below.size hS1) _) ?_
    clear hK K
    refine wpW_branch [1] (by kernel_rfl) (by simp) ?_
    intro w2 hg2 hS2
    try have z := Blk.gr z hg2
    try have hj6 := hj6.below hg2 hj6.base
    try (have zz := blk4 z; obtain ⟨z0, z1, z2, z3, zf⟩ := zz)
    try have lz := z.lt
    refine each_cons ?_ (each_nil)
    · refine wpOp_go (by rfl) (Eq.refl _) (by go_simp; done) ?_
      intro K hK
      go_simp
      try simp only [Act.put]
      have hj5 := HJ.out _ hS2
      refine (copyJoint_any j A c B _ hj5 HA.out hl).mono ?_
      rintro e w6 ⟨v, rfl, own6, hB6⟩
      obtain ⟨A6, c6, rfl, hj6, hA6⟩ := copied hj5 own6
      try have z := Blk.gr z hB6
      refine hK _ _ (Below.trans hS2 (hB6.mono (Below.size hS2))) ?_
      clear hK K own6 hj5
      refine wpW_branch [3] (by kernel_rfl) (by simp) ?_
      intro w3 hg3 hS3
      try have z := Blk.gr z hg3
      try have hj6 := hj6.below hg3 hj6.base
      try (have zz := blk4 z; obtain ⟨z0, z1, z2, z3, zf⟩ := zz)
      try have lz := z.lt
      refine each_cons ?_ (each_nil)
      · refine wpOp_go (by rfl) (Eq.refl _) (by go_simp; done) ?_
        intro K hK
        go_simp
        try simp only [Act.put]
        refine (partOf_any j k sn s A6 c6 w6.heap.size _ hj6 (HE.out _ hS3) hns hw).mono ?_
        rw [HP.out]
        unfold prC
        rintro e w8 ⟨rfl, hB8⟩
        try have z := Blk.gr z hB8
        refine hK _ _ (Below.trans hS3 (hB8.mono (Below.size hS3))) ?_
        clear hK K
        refine wpW_det (t' := ?ct4R26) 4 (by rfl) (by kernel_rfl) (NQ_free _) (by kernel_rfl) ?cw4R26 ?ch4R26 ?ca4R26 (Eq.refl _) ?cH4R26
        case cw4R26 => (go_simp; done)
        case ch4R26 =>
          intro ds w' hS K hK
          have hc := (bcell hS).1
          have hf := (bcell hS).2
          have hz := hS.size
          try simp at hz
          go_simp
          try go_bits
          first
            | exact hK _ hS (Gr.refl _)
            | exact hK _ (by repeat (first | (with_reducible exact Below.refl _ _) | (with_reducible assumption) | ((with_reducible refine Below.setCell ?_ ?_ _); rotate_left; · (first | exact Nat.le_refl _ | (simp; done) | (simp; omega) | omega)) | ((with_reducible refine Below.alloc ?_ ?_ _); rotate_left; · (first | exact Nat.le_refl _ | (simp; done) | (simp; omega) | omega)) | (with_reducible apply Below.drew) | (with_reducible apply below_drewN') | (refine Below.trans ?_ (Below.mono (by assumption) (by first | exact Nat.le_refl _ | (simp; done) | (simp; omega) | omega))) | exact Below.refl _ _ | assumption)) (by repeat (first | (with_reducible exact Below.refl _ _) | (with_reducible assumption) | ((with_reducible refine Below.setCell ?_ ?_ _); rotate_left; · (first | exact Nat.le_refl _ | (simp; done) | (simp; omega) | omega)) | ((with_reducible refine Below.alloc ?_ ?_ _); rotate_left; · (first | exact Nat.le_refl _ | (simp; done) | (simp; omega) | omega)) | (with_reducible apply Below.drew) | (with_reducible apply below_drewN') | (refine Below.trans ?_ (Below.mono (by assumption) (by first | exact Nat.le_refl _ | (simp; done) | (simp; omega) | omega))) | exact Below.refl _ _ | assumption))
        case ca4R26 => (first | (simp [Act.put]; done) | (simp [Act.put, *]; done))
        try dsimp only
        refine wpW_det (t' := ?ct5R26) 5 (by rfl) (by kernel_rfl) (NQ_free _) (by kernel_rfl) ?cw5R26 ?ch5R26 ?ca5R26 (Eq.refl _) ?cH5R26
        case cw5R26 => (go_simp; done)
        case ch5R26 =>
          intro ds w' hS K hK
          have hc := (bcell hS).1
          have hf := (bcell hS).2
          have hz := hS.size
          try simp at hz
          go_simp
          try go_bits
          first
            | exact hK _ hS (Gr.refl _)
            | exact hK _ (by repeat (first | (with_reducible exact Below.refl _ _) | (with_reducible assumption) | ((with_reducible refine Below.setCell ?_ ?_ _); rotate_left; · (first | exact Nat.le_refl _ | (simp; done) | (simp; omega) | omega)) | ((with_reducible refine Below.alloc ?_ ?_ _); rotate_left; · (first | exact Nat.le_refl _ | (simp; done) | (simp; omega) | omega)) | (with_reducible apply Below.drew) | (with_reducible apply below_drewN') | (refine Below.trans ?_ (Below.mono (by assumption) (by first | exact Nat.le_refl _ | (simp; done) | (simp; omega) | omega))) | exact Below.refl _ _ | assumption)) (by repeat (first | (with_reducible exact Below.refl _ _) | (with_reducible assumption) | ((with_reducible refine Below.setCell ?_ ?_ _); rotate_left; · (first | exact Nat.le_refl _ | (simp; done) | (simp; omega) | omega)) | ((with_reducible refine Below.alloc ?_ ?_ _); rotate_left; · (first | exact Nat.le_refl _ | (simp; done) | (simp; omega) | omega)) | (with_reducible apply Below.drew) | (with_reducible apply below_drewN') | (refine Below.trans ?_ (Below.mono (by assumption) (by first | exact Nat.le_refl _ | (simp; done) | (simp; omega) | omega))) | exact Below.refl _ _ | assumption))
        case ca5R26 => (first | (simp [Act.put]; done) | (simp [Act.put, *]; done))
        try dsimp only
        refine wpW_det (t' := ?ct6R26) 6 (by rfl) (by kernel_rfl) (NQ_free _) (by kernel_rfl) ?cw6R26 ?ch6R26 ?ca6R26 (Eq.refl _) ?cH6R26
        case cw6R26 => (go_simp; done)
        case ch6R26 =>
          intro ds w' hS K hK
          have hc := (bcell hS).1
          have hf := (bcell hS).2
          have hz := hS.size
          try simp at hz
          go_simp
          try go_bits
          first
            | exact hK _ hS (Gr.refl _)
            | exact hK _ (by repeat (first | (with_reducible exact Below.refl _ _) | (with_reducible assumption) | ((with_reducible refine Below.setCell ?_ ?_ _); rotate_left; · (first | exact Nat.le_refl _ | (simp; done) | (simp; omega) | omega)) | ((with_reducible refine Below.alloc ?_ ?_ _); rotate_left; · (first | exact Nat.le_refl _ | (simp; done) | (simp; omega) | omega)) | (with_reducible apply Below.drew) | (with_reducible apply below_drewN') | (refine Below.trans ?_ (Below.mono (by assumption) (by first | exact Nat.le_refl _ | (simp; done) | (simp; omega) | omega))) | exact Below.refl _ _ | assumption)) (by repeat (first | (with_reducible exact Below.refl _ _) | (with_reducible assumption) | ((with_reducible refine Below.setCell ?_ ?_ _); rotate_left; · (first | exact Nat.le_refl _ | (simp; done) | (simp; omega) | omega)) | ((with_reducible refine Below.alloc ?_ ?_ _); rotate_left; · (first | exact Nat.le_refl _ | (simp; done) | (simp; omega) | omega)) | (with_reducible apply Below.drew) | (with_reducible apply below_drewN') | (refine Below.trans ?_ (Below.mono (by assumption) (by first | exact Nat.le_refl _ | (simp; done) | (simp; omega) | omega))) | exact Below.refl _ _ | assumption))
        case ca6R26 => (first | (simp [Act.put]; done) | (simp [Act.put, *]; done))
        try dsimp only
        refine wpW_branch [8] (by kernel_rfl) (by simp) ?_
        intro w4 hg4 hS4
        try have z := Blk.gr z hg4
        try have hj6 := hj6.below hg4 hj6.base
        try (have zz := blk4 z; obtain ⟨z0, z1, z2, z3, zf⟩ := zz)
        try have lz := z.lt
        refine each_cons ?_ (each_nil)
        · refine wpOp_go (by rfl) (Eq.refl _) (by go_simp; done) ?_
          intro K hK
          go_simp
          try simp only [Act.put]
          have z := Blk.set4 z (.int .i64 r.a) (.int .i64 r.b) (.int .i64 r.c) (.int .i64 r.d)
          refine hK _ _ (Below.set4 hS4 hzp) ?_
          clear hK K z0 z1 z2 z3 zf
          refine wpW_det (t' := ?ct9R27) 9 (by rfl) (by kernel_rfl) (NQ_free _) (by kernel_rfl) ?cw9R27 ?ch9R27 ?ca9R27 (Eq.refl _) ?cH9R27
          case cw9R27 => (go_simp; done)
          case ch9R27 =>
            intro ds w' hS K hK
            have hc := (bcell hS).1
            have hf := (bcell hS).2
            have hz := hS.size
            try simp at hz
            go_simp
            try go_bits
            first
              | exact hK _ hS (Gr.refl _)
              | exact hK _ (by repeat (first | (with_reducible exact Below.refl _ _) | (with_reducible assumption) | ((with_reducible refine Below.setCell ?_ ?_ _); rotate_left; · (first | exact Nat.le_refl _ | (simp; done) | (simp; omega) | omega)) | ((with_reducible refine Below.alloc ?_ ?_ _); rotate_left; · (first | exact Nat.le_refl _ | (simp; done) | (simp; omega) | omega)) | (with_reducible apply Below.drew) | (with_reducible apply below_drewN') | (refine Below.trans ?_ (Below.mono (by assumption) (by first | exact Nat.le_refl _ | (simp; done) | (simp; omega) | omega))) | exact Below.refl _ _ | assumption)) (by repeat (first | (with_reducible exact Below.refl _ _) | (with_reducible assumption) | ((with_reducible refine Below.setCell ?_ ?_ _); rotate_left; · (first | exact Nat.le_refl _ | (simp; done) | (simp; omega) | omega)) | ((with_reducible refine Below.alloc ?_ ?_ _); rotate_left; · (first | exact Nat.le_refl _ | (simp; done) | (simp; omega) | omega)) | (with_reducible apply Below.drew) | (with_reducible apply below_drewN') | (refine Below.trans ?_ (Below.mono (by assumption) (by first | exact Nat.le_refl _ | (simp; done) | (simp; omega) | omega))) | exact Below.refl _ _ | assumption))
          case ca9R27 => (first | (simp [Act.put]; done) | (simp [Act.put, *]; done))
          try dsimp only
          refine wpW_end (by kernel_rfl) ?_
          intro wE hg hS
          unfold NQ
          dsimp only
          have z := z.gr hg
          exact H.out _ _ _ _ _ _ _ _ _ z hzp hS
end Go.Proofs.YtfbnpfhnffahdaaGreatDoor
