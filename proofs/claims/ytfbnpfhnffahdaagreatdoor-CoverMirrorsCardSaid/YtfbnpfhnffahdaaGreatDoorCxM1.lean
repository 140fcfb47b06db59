/- CoverMirrors: copies in memory, and the regions that make them. -/
import Derived.Test.YtfbnpfhnffahdaaGreatDoorCxF
import Derived.Test.YtfbnpfhnffahdaaGreatDoorRgS
namespace Go.Proofs.YtfbnpfhnffahdaaGreatDoor
open Go.RowKit

theorem ask_cells {w : World} {g : Nat} {face : Int} {sn : ByteArray} {s : Su} (h : Blk w g 46 (asC face sn s)) : (w.cell? ⟨g, 0, none⟩ = some (.int .i64 face) ∧ w.cell? ⟨g, 1, none⟩ = some (.string sn) ∧ w.cell? ⟨g, 2, none⟩ = some (.int .i64 s.at_) ∧ w.cell? ⟨g, 3, none⟩ = some (.int .i64 s.side) ∧ w.cell? ⟨g, 4, none⟩ = some (.int .i64 s.legs) ∧ w.cell? ⟨g, 5, none⟩ = some (.int .i64 s.ln) ∧ w.cell? ⟨g, 6, none⟩ = some (.int .i64 s.ld) ∧ w.cell? ⟨g, 7, none⟩ = some (.int .i64 s.mn) ∧ w.cell? ⟨g, 8, none⟩ = some (.int .i64 s.md) ∧ w.cell? ⟨g, 9, none⟩ = some (.int .i64 s.tn) ∧ w.cell? ⟨g, 10, none⟩ = some (.int .i64 s.td)) ∧ ∀ i, w.frozen? ⟨g, i, none⟩ = false :=
  ⟨as_cells h, h.frozen⟩

/-- A copied joint and ask in memory: the joint's block, its faces' block, the ask's block. -/
structure Made (w : World) (base : Nat) (j : Jo) (face : Int) (sn : ByteArray) (s : Su) (p q g c : Nat) (fs : List (ByteArray × Fc)) : Prop where
  joint : Blk w p 24 #[.string j.nm, .int .i64 j.thick, .int .i64 j.zone, .slice (some ⟨g, 0, none⟩) j.fs.length c]
  ask : Blk w q 46 (asC face sn s)
  faces : ∃ cs, Blk w g 57 cs ∧ Pre cs fs
  p : base ≤ p
  q : base ≤ q
  g : base ≤ g
  len : fs.length = j.fs.length
  cap : j.fs.length ≤ c
  max : c ≤ 9223372036854775807
theorem Made.gr {w w' : World} {base : Nat} {j : Jo} {face : Int} {sn : ByteArray} {s : Su} {p q g c : Nat} {fs : List (ByteArray × Fc)} (h : Made w base j face sn s p q g c fs) (hg : Below w.heap.size w w') : Made w' base j face sn s p q g c fs := by
  obtain ⟨cs, h1, h2⟩ := h.faces
  exact ⟨h.joint.gr hg, h.ask.gr hg, ⟨cs, h1.gr hg, h2⟩, h.p, h.q, h.g, h.len, h.cap, h.max⟩
theorem Made.jo {w : World} {base : Nat} {j : Jo} {face : Int} {sn : ByteArray} {s : Su} {p q g c : Nat} {fs : List (ByteArray × Fc)} (h : Made w base j face sn s p q g c fs) (h1 : j.nm.size ≤ 1000000000000) (h2 : ∀ x ∈ fs, x.1.size ≤ 1000000000000) : JoOk (j.withFs fs) (some ⟨g, 0, none⟩) c w.heap.size w := by
  obtain ⟨cs, h3, h4⟩ := h.faces
  exact ⟨h1, h2, by show fs.length ≤ c; rw [h.len]; exact h.cap, h.max, h4.row h3 h3.lt, Nat.le_refl _⟩
/-- Both numbers along the surface of a face of the first joint are stored. -/
theorem Made.store {w : World} {base : Nat} {j : Jo} {face : Int} {sn : ByteArray} {s : Su} {p q g c : Nat} {fs : List (ByteArray × Fc)} (h : Made w base j face sn s p q g c fs) {k : Nat} (hk : k < fs.length) (x y : Int) :
    Made ((w.setCell ⟨g, k * 5 + 1, none⟩ (.int .i64 x)).setCell ⟨g, k * 5 + 3, none⟩ (.int .i64 y)) base j face sn s p q g c (fs.set k (fs[k].1, ⟨x, fs[k].2.fz, y, fs[k].2.tz⟩)) := by
  obtain ⟨cs, h3, h4⟩ := h.faces
  have n1 : p ≠ g := h.joint.ne_ h3 (by decide)
  have n2 : q ≠ g := h.ask.ne_ h3 (by decide)
  exact ⟨(h.joint.far (p := ⟨g, k * 5 + 1, none⟩) n1 _).far (p := ⟨g, k * 5 + 3, none⟩) n1 _, (h.ask.far (p := ⟨g, k * 5 + 1, none⟩) n2 _).far (p := ⟨g, k * 5 + 3, none⟩) n2 _, ⟨_, (h3.set_ _ _).set_ _ _, h4.setX hk x y⟩, h.p, h.q, h.g, by simpa using h.len, h.cap, h.max⟩
theorem Made.other {w : World} {base : Nat} {j : Jo} {face : Int} {sn : ByteArray} {s : Su} {p q g c : Nat} {fs : List (ByteArray × Fc)} (h : Made w base j face sn s p q g c fs) {g' : Nat} (cs' : Array Value) (hg' : Blk w g' 57 cs') (hg : g ≠ g') (i k : Nat) (u v : Value) :
    Made ((w.setCell ⟨g', i, none⟩ u).setCell ⟨g', k, none⟩ v) base j face sn s p q g c fs := by
  obtain ⟨cs, h3, h4⟩ := h.faces
  have n1 : p ≠ g' := h.joint.ne_ hg' (by decide)
  have n2 : q ≠ g' := h.ask.ne_ hg' (by decide)
  exact ⟨(h.joint.far (p := ⟨g', i, none⟩) n1 _).far (p := ⟨g', k, none⟩) n1 _, (h.ask.far (p := ⟨g', i, none⟩) n2 _).far (p := ⟨g', k, none⟩) n2 _, ⟨_, (h3.far (p := ⟨g', i, none⟩) hg u).far (p := ⟨g', k, none⟩) hg v, h4⟩, h.p, h.q, h.g, h.len, h.cap, h.max⟩

theorem Made.setAt {w : World} {base : Nat} {j : Jo} {face : Int} {sn : ByteArray} {s : Su} {p q g c : Nat} {fs : List (ByteArray × Fc)} (h : Made w base j face sn s p q g c fs) (x : Int) : Made (w.setCell ⟨q, 2, none⟩ (.int .i64 x)) base j face sn { s with at_ := x } p q g c fs := by
  obtain ⟨cs, h3, h4⟩ := h.faces
  have n1 : p ≠ q := h.joint.ne_ h.ask (by decide)
  have n2 : g ≠ q := h3.ne_ h.ask (by decide)
  exact ⟨h.joint.far (p := ⟨q, 2, none⟩) n1 _, h.ask.set_ 2 (.int .i64 x), ⟨_, h3.far (p := ⟨q, 2, none⟩) n2 _, h4⟩, h.p, h.q, h.g, h.len, h.cap, h.max⟩
theorem Made.setSide {w : World} {base : Nat} {j : Jo} {face : Int} {sn : ByteArray} {s : Su} {p q g c : Nat} {fs : List (ByteArray × Fc)} (h : Made w base j face sn s p q g c fs) (x : Int) : Made (w.setCell ⟨q, 3, none⟩ (.int .i64 x)) base j face sn { s with side := x } p q g c fs := by
  obtain ⟨cs, h3, h4⟩ := h.faces
  have n1 : p ≠ q := h.joint.ne_ h.ask (by decide)
  have n2 : g ≠ q := h3.ne_ h.ask (by decide)
  exact ⟨h.joint.far (p := ⟨q, 3, none⟩) n1 _, h.ask.set_ 3 (.int .i64 x), ⟨_, h3.far (p := ⟨q, 3, none⟩) n2 _, h4⟩, h.p, h.q, h.g, h.len, h.cap, h.max⟩
theorem Made.farAsk {w : World} {base : Nat} {j : Jo} {face : Int} {sn : ByteArray} {s : Su} {p q g c : Nat} {fs : List (ByteArray × Fc)} (h : Made w base j face sn s p q g c fs) {q' : Nat} {cs' : Array Value} (hq : Blk w q' 46 cs') (hne : q ≠ q') (i : Nat) (u : Value) : Made (w.setCell ⟨q', i, none⟩ u) base j face sn s p q g c fs := by
  obtain ⟨cs, h3, h4⟩ := h.faces
  have n1 : p ≠ q' := h.joint.ne_ hq (by decide)
  have n2 : g ≠ q' := h3.ne_ hq (by decide)
  exact ⟨h.joint.far (p := ⟨q', i, none⟩) n1 _, h.ask.far (p := ⟨q', i, none⟩) hne _, ⟨_, h3.far (p := ⟨q', i, none⟩) n2 _, h4⟩, h.p, h.q, h.g, h.len, h.cap, h.max⟩

theorem blk4c {w : World} {g t : Nat} {v0 v1 v2 v3 : Value} (h : Blk w g t #[v0, v1, v2, v3]) : w.cell? ⟨g, 0, none⟩ = some v0 ∧ w.cell? ⟨g, 1, none⟩ = some v1 ∧ w.cell? ⟨g, 2, none⟩ = some v2 ∧ w.cell? ⟨g, 3, none⟩ = some v3 := ⟨h.cell 0, h.cell 1, h.cell 2, h.cell 3⟩

set_option maxRecDepth 100000 in
set_option maxHeartbeats 4000000 in
/-- A joint and an ask are copied (region 6). -/
theorem copyReg6 (j : Jo) (A : Option Addr) (c B : Nat) (k : Int) (sn : ByteArray) (s : Su) (w : World) (hj : JoOk j A c B w) (hA : A = none → c = 0) (hl : j.fs.length ≤ 1000000000) (hl0 : 0 < j.fs.length) (pb py : Nat)
    (b : Blk w pb 24 (joC j A c)) (y : Blk w py 46 (asC k sn s)) {t0 t1 t2 t5 t6 t7 t8 t9 t10 t11 t12 t13 t14 t15 t16 t17 t18 t19 t20 t21 t22 t23 t24 t25 t26 t27 t28 t29 t30 t31 t32 t33 t34 t35 t36 t37 t38 t39 t40 t41 t42 t43 t44 t45 t46 t47 t48 t49 t50 t51 t52 t53 t54 t55 t56 t57 t58 t59 t60 t61 t62 t63 t64 t65 t66 t67 t68 t69 t70 t71 t72 t73 t74 t75 t76 t77 t78 t79 t80 t81 t82 t83 t84 t85 t86 t87 t88 t89 t90 t91 t92 t93 t94 t95 t96 t97 t98 t99 t100 t101 t102 t103 t104 t105 t106 t107 t108 t109 t110 t111 t112 t113 t114 t115 t116 t117 t118 t119 t120 t121 t122 t123 t124 t125 t126 t127 t128 t129 t130 t131 t132 t133 t134 t135 t136 t137 t138 t139 t140 t141 t142 t143 t144 t145 t146 t147 t148 t149 t150 t151 t152 t153 t154 t155 t156 t157 t158 t159 t160 t161 t162 t163 t164 t165 t166 t167 t168 t169 t170 t171 t172 t173 t174 t175 t176 t177 t178 t179 t180 t181 t182 t183 t184 t185 t186 t187 t188 t189 t190 t191 t192 t193 t194 t195 t196 t197 t198 t199 t200 t201 t202 t203 t204 t205 t206 t207 t208 t209 t210 t211 t212 t213 t214 t215 t216 t217 t218 t219 t220 t221 t222 t223 t224 t225 t226 t227 t228 t229 t230 t231 t232 t233 t234 t235 t236 t237 t238 t239 t240 t241 t242 t243 : Value} {ds : List Deferred} (K' : Act → World → Prop) (Q' : Exit → Act → World → Prop)
    (h : ∀ (p q g c9 : Nat) (t51 t52 t53 : Value) (w' : World), Made w' w.heap.size j k sn s p q g c9 j.fs → Below w.heap.size w w' → K' ⟨#[t0, t1, t2, .pointer (some ⟨pb, 0, none⟩), .pointer (some ⟨py, 0, none⟩), t5, t6, t7, t8, .pointer (some ⟨p, 0, none⟩), .pointer (some ⟨q, 0, none⟩), t11, t12, t13, t14, t15, t16, t17, t18, t19, t20, t21, t22, t23, t24, t25, t26, t27, t28, t29, t30, t31, t32, t33, t34, t35, t36, t37, t38, t39, t40, t41, t42, t43, t44, t45, t46, t47, t48, t49, t50, t51, t52, t53, t54, t55, t56, t57, t58, t59, t60, t61, t62, t63, t64, t65, t66, t67, t68, t69, t70, t71, t72, t73, t74, t75, t76, t77, t78, t79, t80, t81, t82, t83, t84, t85, t86, t87, t88, t89, t90, t91, t92, t93, t94, t95, t96, t97, t98, t99, t100, t101, t102, t103, t104, t105, t106, t107, t108, t109, t110, t111, t112, t113, t114, t115, t116, t117, t118, t119, t120, t121, t122, t123, t124, t125, t126, t127, t128, t129, t130, t131, t132, t133, t134, t135, t136, t137, t138, t139, t140, t141, t142, t143, t144, t145, t146, t147, t148, t149, t150, t151, t152, t153, t154, t155, t156, t157, t158, t159, t160, t161, t162, t163, t164, t165, t166, t167, t168, t169, t170, t171, t172, t173, t174, t175, t176, t177, t178, t179, t180, t181, t182, t183, t184, t185, t186, t187, t188, t189, t190, t191, t192, t193, t194, t195, t196, t197, t198, t199, t200, t201, t202, t203, t204, t205, t206, t207, t208, t209, t210, t211, t212, t213, t214, t215, t216, t217, t218, t219, t220, t221, t222, t223, t224, t225, t226, t227, t228, t229, t230, t231, t232, t233, t234, t235, t236, t237, t238, t239, t240, t241, t242, t243], ds⟩ w') :
    (regOf Tryz.f4 6).wp Tryz.prog (Exit.then K' Q') ⟨#[t0, t1, t2, .pointer (some ⟨pb, 0, none⟩), .pointer (some ⟨py, 0, none⟩), t5, t6, t7, t8, t9, t10, t11, t12, t13, t14, t15, t16, t17, t18, t19, t20, t21, t22, t23, t24, t25, t26, t27, t28, t29, t30, t31, t32, t33, t34, t35, t36, t37, t38, t39, t40, t41, t42, t43, t44, t45, t46, t47, t48, t49, t50, t51, t52, t53, t54, t55, t56, t57, t58, t59, t60, t61, t62, t63, t64, t65, t66, t67, t68, t69, t70, t71, t72, t73, t74, t75, t76, t77, t78, t79, t80, t81, t82, t83, t84, t85, t86, t87, t88, t89, t90, t91, t92, t93, t94, t95, t96, t97, t98, t99, t100, t101, t102, t103, t104, t105, t106, t107, t108, t109, t110, t111, t112, t113, t114, t115, t116, t117, t118, t119, t120, t121, t122, t123, t124, t125, t126, t127, t128, t129, t130, t131, t132, t133, t134, t135, t136, t137, t138, t139, t140, t141, t142, t143, t144, t145, t146, t147, t148, t149, t150, t151, t152, t153, t154, t155, t156, t157, t158, t159, t160, t161, t162, t163, t164, t165, t166, t167, t168, t169, t170, t171, t172, t173, t174, t175, t176, t177, t178, t179, t180, t181, t182, t183, t184, t185, t186, t187, t188, t189, t190, t191, t192, t193, t194, t195, t196, t197, t198, t199, t200, t201, t202, t203, t204, t205, t206, t207, t208, t209, t210, t211, t212, t213, t214, t215, t216, t217, t218, t219, t220, t221, t222, t223, t224, t225, t226, t227, t228, t229, t230, t231, t232, t233, t234, t235, t236, t237, t238, t239, t240, t241, t242, t243], ds⟩ w := by
  have HJ : Hid (∀ W, Below w.heap.size w W → JoOk j A c B W) := Lib.hid fun W h => hj.below h hj.base
  have H := Lib.hid h; clear h hj
  have HA := Lib.hid hA; clear hA
  unfold joC at b
  unfold asC at y
  obtain ⟨t0, t1, t2, t3⟩ := blk4c b
  obtain ⟨u0, u1, u2, u3, u4, u5, u6, u7, u8, u9, u10⟩ := as_cells y
  have lb := b.lt
  have ly := y.lt
  conv in (regOf _ _) => whnf
  refine wp_region_w (Gr _) (by kernel_rfl) (Below.refl _ _).drew ?_
  refine wpW_det (t' := ?ct0R1) 0 (by rfl) (by kernel_rfl) (NQ_free _) (by kernel_rfl) ?cw0R1 ?ch0R1 ?ca0R1 (Eq.refl _) ?cH0R1
  case cw0R1 => (go_simp; done)
  case ch0R1 =>
    intro ds w' hS K hK
    have hc := (bcell hS).1
    have hf := (bcell hS).2
    have hz := hS.size
    try simp at hz
    go_simp
    try go_bits
    first
      | exact hK _ hS (Gr.refl _)
      | exact hK _ (by repeat (first | (with_reducible exact Below.refl _ _) | (with_reducible assumption) | ((with_reducible refine Below.setCell ?_ ?_ _); rotate_left; · (first | exact Nat.le_refl _ | (simp; done) | (simp; omega) | omega)) | ((with_reducible refine Below.alloc ?_ ?_ _); rotate_left; · (first | exact Nat.le_refl _ | (simp; done) | (simp; omega) | omega)) | (with_reducible apply Below.drew) | (with_reducible apply below_drewN') | (refine Below.trans ?_ (Below.mono (by assumption) (by first | exact Nat.le_refl _ | (simp; done) | (simp; omega) | omega))) | exact Below.refl _ _ | assumption)) (by repeat (first | (with_reducible exact Below.refl _ _) | (with_reducible assumption) | ((with_reducible refine Below.setCell ?_ ?_ _); rotate_left; · (first | exact Nat.le_refl _ | (simp; done) | (simp; omega) | omega)) | ((with_reducible refine Below.alloc ?_ ?_ _); rotate_left; · (first | exact Nat.le_refl _ | (simp; done) | (simp; omega) | omega)) | (with_reducible apply Below.drew) | (with_reducible apply below_drewN') | (refine Below.trans ?_ (Below.mono (by assumption) (by first | exact Nat.le_refl _ | (simp; done) | (simp; omega) | omega))) | exact Below.refl _ _ | assumption))
  case ca0R1 => (first | (simp [Act.put]; done) | (simp [Act.put, *]; done))
  try dsimp only
  refine wpW_det (t' := ?ct2R1) 2 (by rfl) (by kernel_rfl) (NQ_free _) (by kernel_rfl) ?cw2R1 ?ch2R1 ?ca2R1 (Eq.refl _) ?cH2R1
  case cw2R1 => (go_simp; done)
  case ch2R1 =>
    intro ds w' hS K hK
    have hc := (bcell hS).1
    have hf := (bcell hS).2
    have hz := hS.size
    try simp at hz
    go_simp
    try go_bits
    first
      | exact hK _ hS (Gr.refl _)
      | exact hK _ (by repeat (first | (with_reducible exact Below.refl _ _) | (with_reducible assumption) | ((with_reducible refine Below.setCell ?_ ?_ _); rotate_left; · (first | exact Nat.le_refl _ | (simp; done) | (simp; omega) | omega)) | ((with_reducible refine Below.alloc ?_ ?_ _); rotate_left; · (first | exact Nat.le_refl _ | (simp; done) | (simp; omega) | omega)) | (with_reducible apply Below.drew) | (with_reducible apply below_drewN') | (refine Below.trans ?_ (Below.mono (by assumption) (by first | exact Nat.le_refl _ | (simp; done) | (simp; omega) | omega))) | exact Below.refl _ _ | assumption)) (by repeat (first | (with_reducible exact Below.refl _ _) | (with_reducible assumption) | ((with_reducible refine Below.setCell ?_ ?_ _); rotate_left; · (first | exact Nat.le_refl _ | (simp; done) | (simp; omega) | omega)) | ((with_reducible refine Below.alloc ?_ ?_ _); rotate_left; · (first | exact Nat.le_refl _ | (simp; done) | (simp; omega) | omega)) | (with_reducible apply Below.drew) | (with_reducible apply below_drewN') | (refine Below.trans ?_ (Below.mono (by assumption) (by first | exact Nat.le_refl _ | (simp; done) | (simp; omega) | omega))) | exact Below.refl _ _ | assumption))
  case ca2R1 => (first | (simp [Act.put]; done) | (simp [Act.put, *]; done))
  try dsimp only
  refine wpW_branch [1, 3, 4] (by kernel_rfl) (by simp) ?_
  intro w1 hg1 hS1
  try have z9 := Blk.gr z9 hg1
  try have z10 := Blk.gr z10 hg1
  try have zg := Blk.gr zg hg1
  try (have zz := blk4 z9; obtain ⟨z0, z1, z2, z3, zf⟩ := zz)
  try have zzf := z10.frozen
  try have zzc := as_cells z10
  try obtain ⟨x0, x1, x2, x3, x4, x5, x6, x7, x8, x9, x10⟩ := zzc
  try have lz9 := z9.lt
  try have lz10 := z10.lt
  refine each_cons ?_ (each_cons ?_ (each_cons ?_ (each_nil)))
  · refine wpOp_go (by rfl) (Eq.refl _) (by go_simp; done) ?_
    intro K hK
    go_simp
    try simp only [Act.put]
    have hj5 := HJ.out _ hS1
    refine (copyJoint_any j A c B _ hj5 HA.out hl).mono ?_
    rintro e w6 ⟨v, rfl, own6, hB6⟩
    obtain ⟨g, c9, cs, rfl, hge, zg, hpre, hc9, hc9'⟩ := copied_blk hl0 own6
    have hgg := Nat.le_trans (Below.size hS1) hge
    try have z9 := Blk.gr z9 hB6
    try have z10 := Blk.gr z10 hB6
    refine hK _ _ (Below.trans hS1 (hB6.mono (Below.size hS1))) ?_
    clear hK K own6 hj5 hge
    refine wpW_branch [3, 4] (by kernel_rfl) (by simp) ?_
    intro w2 hg2 hS2
    try have z9 := Blk.gr z9 hg2
    try have z10 := Blk.gr z10 hg2
    try have zg := Blk.gr zg hg2
    try (have zz := blk4 z9; obtain ⟨z0, z1, z2, z3, zf⟩ := zz)
    try have zzf := z10.frozen
    try have zzc := as_cells z10
    try obtain ⟨x0, x1, x2, x3, x4, x5, x6, x7, x8, x9, x10⟩ := zzc
    try have lz9 := z9.lt
    try have lz10 := z10.lt
    refine each_cons ?_ (each_cons ?_ (each_nil))
    · refine wpOp_go (by rfl) (Eq.refl _) (by go_simp; done) ?_
      intro K hK
      go_simp
      try simp only [Act.put]
      have hp9 := Below.size hS2
      have z9 := Blk.new w2 24 #[.string ⟨#[]⟩, .int .i64 0, .int .i64 0, .slice none 0 0]
      try have z10 := Blk.alloc z10 (.cells #[.string ⟨#[]⟩, .int .i64 0, .int .i64 0, .slice none 0 0] 24 (0, 0))
      try have zg := Blk.alloc zg (.cells #[.string ⟨#[]⟩, .int .i64 0, .int .i64 0, .slice none 0 0] 24 (0, 0))
      refine hK _ _ (Below.alloc hS2 (Below.size hS2) _) ?_
      clear hK K
      refine wpW_branch [4] (by kernel_rfl) (by simp) ?_
      intro w3 hg3 hS3
      try have z9 := Blk.gr z9 hg3
      try have z10 := Blk.gr z10 hg3
      try have zg := Blk.gr zg hg3
      try (have zz := blk4 z9; obtain ⟨z0, z1, z2, z3, zf⟩ := zz)
      try have zzf := z10.frozen
      try have zzc := as_cells z10
      try obtain ⟨x0, x1, x2, x3, x4, x5, x6, x7, x8, x9, x10⟩ := zzc
      try have lz9 := z9.lt
      try have lz10 := z10.lt
      refine each_cons ?_ (each_nil)
      · refine wpOp_go (by rfl) (Eq.refl _) (by go_simp; done) ?_
        intro K hK
        go_simp
        try simp only [Act.put]
        have hp10 := Below.size hS3
        have z10 := Blk.new w3 46 (asC 0 ⟨#[]⟩ ⟨0, 0, 0, 0, 0, 0, 0, 0, 0⟩)
        try have z9 := Blk.alloc z9 (.cells (asC 0 ⟨#[]⟩ ⟨0, 0, 0, 0, 0, 0, 0, 0, 0⟩) 46 (0, 0))
        try have zg := Blk.alloc zg (.cells (asC 0 ⟨#[]⟩ ⟨0, 0, 0, 0, 0, 0, 0, 0, 0⟩) 46 (0, 0))
        refine hK _ _ (Below.alloc hS3 (Below.size hS3) _) ?_
        clear hK K
        refine wpW_branch [5] (by kernel_rfl) (by simp) ?_
        intro w4 hg4 hS4
        try have z9 := Blk.gr z9 hg4
        try have z10 := Blk.gr z10 hg4
        try have zg := Blk.gr zg hg4
        try (have zz := blk4 z9; obtain ⟨z0, z1, z2, z3, zf⟩ := zz)
        try have zzf := z10.frozen
        try have zzc := as_cells z10
        try obtain ⟨x0, x1, x2, x3, x4, x5, x6, x7, x8, x9, x10⟩ := zzc
        try have lz9 := z9.lt
        try have lz10 := z10.lt
        refine each_cons ?_ (each_nil)
        · refine wpOp_go (by rfl) (Eq.refl _) (by go_simp; done) ?_
          intro K hK
          go_simp
          try simp only [Act.put]
          have z10 := Blk.far4 z10 (z10.ne_ z9 (by decide)) (.string j.nm) (.int .i64 j.thick) (.int .i64 j.zone) (.slice (some ⟨g, 0, none⟩) j.fs.length c9)
          have zg := Blk.far4 zg (zg.ne_ z9 (by decide)) (.string j.nm) (.int .i64 j.thick) (.int .i64 j.zone) (.slice (some ⟨g, 0, none⟩) j.fs.length c9)
          have z9 := Blk.set4 z9 (.string j.nm) (.int .i64 j.thick) (.int .i64 j.zone) (.slice (some ⟨g, 0, none⟩) j.fs.length c9)
          refine hK _ _ (Below.set4 hS4 hp9) ?_
          clear hK K z0 z1 z2 z3 zf lz9 lz10 zzf x0 x1 x2 x3 x4 x5 x6 x7 x8 x9 x10
          refine wpW_branch [6] (by kernel_rfl) (by simp) ?_
          intro w5 hg5 hS5
          try have z9 := Blk.gr z9 hg5
          try have z10 := Blk.gr z10 hg5
          try have zg := Blk.gr zg hg5
          try (have zz := blk4 z9; obtain ⟨z0, z1, z2, z3, zf⟩ := zz)
          try have zzf := z10.frozen
          try have zzc := as_cells z10
          try obtain ⟨x0, x1, x2, x3, x4, x5, x6, x7, x8, x9, x10⟩ := zzc
          try have lz9 := z9.lt
          try have lz10 := z10.lt
          refine each_cons ?_ (each_nil)
          · refine wpOp_go (by rfl) (Eq.refl _) (by go_simp; done) ?_
            intro K hK
            go_simp
            try simp only [Act.put]
            have z9 := Blk.far11 z9 (z9.ne_ z10 (by decide)) (.int .i64 k) (.string sn) (.int .i64 s.at_) (.int .i64 s.side) (.int .i64 s.legs) (.int .i64 s.ln) (.int .i64 s.ld) (.int .i64 s.mn) (.int .i64 s.md) (.int .i64 s.tn) (.int .i64 s.td)
            have zg := Blk.far11 zg (zg.ne_ z10 (by decide)) (.int .i64 k) (.string sn) (.int .i64 s.at_) (.int .i64 s.side) (.int .i64 s.legs) (.int .i64 s.ln) (.int .i64 s.ld) (.int .i64 s.mn) (.int .i64 s.md) (.int .i64 s.tn) (.int .i64 s.td)
            have z10 := Blk.put11 z10 (.int .i64 k) (.string sn) (.int .i64 s.at_) (.int .i64 s.side) (.int .i64 s.legs) (.int .i64 s.ln) (.int .i64 s.ld) (.int .i64 s.mn) (.int .i64 s.md) (.int .i64 s.tn) (.int .i64 s.td)
            refine hK _ _ (Below.set11 hS5 hp10 _ _ _ _ _ _ _ _ _ _ _) ?_
            clear hK K
            refine wpW_end (by kernel_rfl) ?_
            intro wE hg hS
            unfold NQ
            dsimp only
            have z9 := z9.gr hg
            have z10 := z10.gr hg
            have zg := zg.gr hg
            exact H.out _ _ _ _ _ _ _ _ ⟨z9, z10, ⟨_, zg, hpre⟩, hp9, hp10, hgg, rfl, hc9, hc9'⟩ hS
    · refine wpOp_go (by rfl) (Eq.refl _) (by go_simp; done) ?_
      intro K hK
      go_simp
      try simp only [Act.put]
      have hp10 := Below.size hS2
      have z10 := Blk.new w2 46 (asC 0 ⟨#[]⟩ ⟨0, 0, 0, 0, 0, 0, 0, 0, 0⟩)
      try have z9 := Blk.alloc z9 (.cells (asC 0 ⟨#[]⟩ ⟨0, 0, 0, 0, 0, 0, 0, 0, 0⟩) 46 (0, 0))
      try have zg := Blk.alloc zg (.cells (asC 0 ⟨#[]⟩ ⟨0, 0, 0, 0, 0, 0, 0, 0, 0⟩) 46 (0, 0))
      refine hK _ _ (Below.alloc hS2 (Below.size hS2) _) ?_
      clear hK K
      refine wpW_branch [3] (by kernel_rfl) (by simp) ?_
      intro w3 hg3 hS3
      try have z9 := Blk.gr z9 hg3
      try have z10 := Blk.gr z10 hg3
      try have zg := Blk.gr zg hg3
      try (have zz := blk4 z9; obtain ⟨z0, z1, z2, z3, zf⟩ := zz)
      try have zzf := z10.frozen
      try have zzc := as_cells z10
      try obtain ⟨x0, x1, x2, x3, x4, x5, x6, x7, x8, x9, x10⟩ := zzc
      try have lz9 := z9.lt
      try have lz10 := z10.lt
      refine each_cons ?_ (each_nil)
      · refine wpOp_go (by rfl) (Eq.refl _) (by go_simp; done) ?_
        intro K hK
        go_simp
        try simp only [Act.put]
        have hp9 := Below.size hS3
        have z9 := Blk.new w3 24 #[.string ⟨#[]⟩, .int .i64 0, .int .i64 0, .slice none 0 0]
        try have z10 := Blk.alloc z10 (.cells #[.string ⟨#[]⟩, .int .i64 0, .int .i64 0, .slice none 0 0] 24 (0, 0))
        try have zg := Blk.alloc zg (.cells #[.string ⟨#[]⟩, .int .i64 0, .int .i64 0, .slice none 0 0] 24 (0, 0))
        refine hK _ _ (Below.alloc hS3 (Below.size hS3) _) ?_
        clear hK K
        refine wpW_branch [5] (by kernel_rfl) (by simp) ?_
        intro w4 hg4 hS4
        try have z9 := Blk.gr z9 hg4
        try have z10 := Blk.gr z10 hg4
        try have zg := Blk.gr zg hg4
        try (have zz := blk4 z9; obtain ⟨z0, z1, z2, z3, zf⟩ := zz)
        try have zzf := z10.frozen
        try have zzc := as_cells z10
        try obtain ⟨x0, x1, x2, x3, x4, x5, x6, x7, x8, x9, x10⟩ := zzc
        try have lz9 := z9.lt
        try have lz10 := z10.lt
        refine each_cons ?_ (each_nil)
        · refine wpOp_go (by rfl) (Eq.refl _) (by go_simp; done) ?_
          intro K hK
          go_simp
          try simp only [Act.put]
          have z10 := Blk.far4 z10 (z10.ne_ z9 (by decide)) (.string j.nm) (.int .i64 j.thick) (.int .i64 j.zone) (.slice (some ⟨g, 0, none⟩) j.fs.length c9)
          have zg := Blk.far4 zg (zg.ne_ z9 (by decide)) (.string j.nm) (.int .i64 j.thick) (.int .i64 j.zone) (.slice (some ⟨g, 0, none⟩) j.fs.length c9)
          have z9 := Blk.set4 z9 (.string j.nm) (.int .i64 j.thick) (.int .i64 j.zone) (.slice (some ⟨g, 0, none⟩) j.fs.length c9)
          refine hK _ _ (Below.set4 hS4 hp9) ?_
          clear hK K z0 z1 z2 z3 zf lz9 lz10 zzf x0 x1 x2 x3 x4 x5 x6 x7 x8 x9 x10
          refine wpW_branch [6] (by kernel_rfl) (by simp) ?_
          intro w5 hg5 hS5
          try have z9 := Blk.gr z9 hg5
          try have z10 := Blk.gr z10 hg5
          try have zg := Blk.gr zg hg5
          try (have zz := blk4 z9; obtain ⟨z0, z1, z2, z3, zf⟩ := zz)
          try have zzf := z10.frozen
          try have zzc := as_cells z10
          try obtain ⟨x0, x1, x2, x3, x4, x5, x6, x7, x8, x9, x10⟩ := zzc
          try have lz9 := z9.lt
          try have lz10 := z10.lt
          refine each_cons ?_ (each_nil)
          · refine wpOp_go (by rfl) (Eq.refl _) (by go_simp; done) ?_
            intro K hK
            go_simp
            try simp only [Act.put]
            have z9 := Blk.far11 z9 (z9.ne_ z10 (by decide)) (.int .i64 k) (.string sn) (.int .i64 s.at_) (.int .i64 s.side) (.int .i64 s.legs) (.int .i64 s.ln) (.int .i64 s.ld) (.int .i64 s.mn) (.int .i64 s.md) (.int .i64 s.tn) (.int .i64 s.td)
            have zg := Blk.far11 zg (zg.ne_ z10 (by decide)) (.int .i64 k) (.string sn) (.int .i64 s.at_) (.int .i64 s.side) (.int .i64 s.legs) (.int .i64 s.ln) (.int .i64 s.ld) (.int .i64 s.mn) (.int .i64 s.md) (.int .i64 s.tn) (.int .i64 s.td)
            have z10 := Blk.put11 z10 (.int .i64 k) (.string sn) (.int .i64 s.at_) (.int .i64 s.side) (.int .i64 s.legs) (.int .i64 s.ln) (.int .i64 s.ld) (.int .i64 s.mn) (.int .i64 s.md) (.int .i64 s.tn) (.int .i64 s.td)
            refine hK _ _ (Below.set11 hS5 hp10 _ _ _ _ _ _ _ _ _ _ _) ?_
            clear hK K
            refine wpW_end (by kernel_rfl) ?_
            intro wE hg hS
            unfold NQ
            dsimp only
            have z9 := z9.gr hg
            have z10 := z10.gr hg
            have zg := zg.gr hg
            exact H.out _ _ _ _ _ _ _ _ ⟨z9, z10, ⟨_, zg, hpre⟩, hp9, hp10, hgg, rfl, hc9, hc9'⟩ hS
  · refine wpOp_go (by rfl) (Eq.refl _) (by go_simp; done) ?_
    intro K hK
    go_simp
    try simp only [Act.put]
    have hp9 := Below.size hS1
    have z9 := Blk.new w1 24 #[.string ⟨#[]⟩, .int .i64 0, .int .i64 0, .slice none 0 0]
    try have z10 := Blk.alloc z10 (.cells #[.string ⟨#[]⟩, .int .i64 0, .int .i64 0, .slice none 0 0] 24 (0, 0))
    try have zg := Blk.alloc zg (.cells #[.string ⟨#[]⟩, .int .i64 0, .int .i64 0, .slice none 0 0] 24 (0, 0))
    refine hK _ _ (Below.alloc hS1 (Below.size hS1) _) ?_
    clear hK K
    refine wpW_branch [1, 4] (by kernel_rfl) (by simp) ?_
    intro w2 hg2 hS2
    try have z9 := Blk.gr z9 hg2
    try have z10 := Blk.gr z10 hg2
    try have zg := Blk.gr zg hg2
    try (have zz := blk4 z9; obtain ⟨z0, z1, z2, z3, zf⟩ := zz)
    try have zzf := z10.frozen
    try have zzc := as_cells z10
    try obtain ⟨x0, x1, x2, x3, x4, x5, x6, x7, x8, x9, x10⟩ := zzc
    try have lz9 := z9.lt
    try have lz10 := z10.lt
    refine each_cons ?_ (each_cons ?_ (each_nil))
    · refine wpOp_go (by rfl) (Eq.refl _) (by go_simp; done) ?_
      intro K hK
      go_simp
      try simp only [Act.put]
      have hj5 := HJ.out _ hS2
      refine (copyJoint_any j A c B _ hj5 HA.out hl).mono ?_
      rintro e w6 ⟨v, rfl, own6, hB6⟩
      obtain ⟨g, c9, cs, rfl, hge, zg, hpre, hc9, hc9'⟩ := copied_blk hl0 own6
      have hgg := Nat.le_trans (Below.size hS2) hge
      try have z9 := Blk.gr z9 hB6
      try have z10 := Blk.gr z10 hB6
      refine hK _ _ (Below.trans hS2 (hB6.mono (Below.size hS2))) ?_
      clear hK K own6 hj5 hge
      refine wpW_branch [4] (by kernel_rfl) (by simp) ?_
      intro w3 hg3 hS3
      try have z9 := Blk.gr z9 hg3
      try have z10 := Blk.gr z10 hg3
      try have zg := Blk.gr zg hg3
      try (have zz := blk4 z9; obtain ⟨z0, z1, z2, z3, zf⟩ := zz)
      try have zzf := z10.frozen
      try have zzc := as_cells z10
      try obtain ⟨x0, x1, x2, x3, x4, x5, x6, x7, x8, x9, x10⟩ := zzc
      try have lz9 := z9.lt
      try have lz10 := z10.lt
      refine each_cons ?_ (each_nil)
      · refine wpOp_go (by rfl) (Eq.refl _) (by go_simp; done) ?_
        intro K hK
        go_simp
        try simp only [Act.put]
        have hp10 := Below.size hS3
        have z10 := Blk.new w3 46 (asC 0 ⟨#[]⟩ ⟨0, 0, 0, 0, 0, 0, 0, 0, 0⟩)
        try have z9 := Blk.alloc z9 (.cells (asC 0 ⟨#[]⟩ ⟨0, 0, 0, 0, 0, 0, 0, 0, 0⟩) 46 (0, 0))
        try have zg := Blk.alloc zg (.cells (asC 0 ⟨#[]⟩ ⟨0, 0, 0, 0, 0, 0, 0, 0, 0⟩) 46 (0, 0))
        refine hK _ _ (Below.alloc hS3 (Below.size hS3) _) ?_
        clear hK K
        refine wpW_branch [5] (by kernel_rfl) (by simp) ?_
        intro w4 hg4 hS4
        try have z9 := Blk.gr z9 hg4
        try have z10 := Blk.gr z10 hg4
        try have zg := Blk.gr zg hg4
        try (have zz := blk4 z9; obtain ⟨z0, z1, z2, z3, zf⟩ := zz)
        try have zzf := z10.frozen
        try have zzc := as_cells z10
        try obtain ⟨x0, x1, x2, x3, x4, x5, x6, x7, x8, x9, x10⟩ := zzc
        try have lz9 := z9.lt
        try have lz10 := z10.lt
        refine each_cons ?_ (each_nil)
        · refine wpOp_go (by rfl) (Eq.refl _) (by go_simp; done) ?_
          intro K hK
          go_simp
          try simp only [Act.put]
          have z10 := Blk.far4 z10 (z10.ne_ z9 (by decide)) (.string j.nm) (.int .i64 j.thick) (.int .i64 j.zone) (.slice (some ⟨g, 0, none⟩) j.fs.length c9)
          have zg := Blk.far4 zg (zg.ne_ z9 (by decide)) (.string j.nm) (.int .i64 j.thick) (.int .i64 j.zone) (.slice (some ⟨g, 0, none⟩) j.fs.length c9)
          have z9 := Blk.set4 z9 (.string j.nm) (.int .i64 j.thick) (.int .i64 j.zone) (.slice (some ⟨g, 0, none⟩) j.fs.length c9)
          refine hK _ _ (Below.set4 hS4 hp9) ?_
          clear hK K z0 z1 z2 z3 zf lz9 lz10 zzf x0 x1 x2 x3 x4 x5 x6 x7 x8 x9 x10
          refine wpW_branch [6] (by kernel_rfl) (by simp) ?_
          intro w5 hg5 hS5
          try have z9 := Blk.gr z9 hg5
          try have z10 := Blk.gr z10 hg5
          try have zg := Blk.gr zg hg5
          try (have zz := blk4 z9; obtain ⟨z0, z1, z2, z3, zf⟩ := zz)
          try have zzf := z10.frozen
          try have zzc := as_cells z10
          try obtain ⟨x0, x1, x2, x3, x4, x5, x6, x7, x8, x9, x10⟩ := zzc
          try have lz9 := z9.lt
          try have lz10 := z10.lt
          refine each_cons ?_ (each_nil)
          · refine wpOp_go (by rfl) (Eq.refl _) (by go_simp; done) ?_
            intro K hK
            go_simp
            try simp only [Act.put]
            have z9 := Blk.far11 z9 (z9.ne_ z10 (by decide)) (.int .i64 k) (.string sn) (.int .i64 s.at_) (.int .i64 s.side) (.int .i64 s.legs) (.int .i64 s.ln) (.int .i64 s.ld) (.int .i64 s.mn) (.int .i64 s.md) (.int .i64 s.tn) (.int .i64 s.td)
            have zg := Blk.far11 zg (zg.ne_ z10 (by decide)) (.int .i64 k) (.string sn) (.int .i64 s.at_) (.int .i64 s.side) (.int .i64 s.legs) (.int .i64 s.ln) (.int .i64 s.ld) (.int .i64 s.mn) (.int .i64 s.md) (.int .i64 s.tn) (.int .i64 s.td)
            have z10 := Blk.put11 z10 (.int .i64 k) (.string sn) (.int .i64 s.at_) (.int .i64 s.side) (.int .i64 s.legs) (.int .i64 s.ln) (.int .i64 s.ld) (.int .i64 s.mn) (.int .i64 s.md) (.int .i64 s.tn) (.int .i64 s.td)
            refine hK _ _ (Below.set11 hS5 hp10 _ _ _ _ _ _ _ _ _ _ _) ?_
            clear hK K
            refine wpW_end (by kernel_rfl) ?_
            intro wE hg hS
            unfold NQ
            dsimp only
            have z9 := z9.gr hg
            have z10 := z10.gr hg
            have zg := zg.gr hg
            exact H.out _ _ _ _ _ _ _ _ ⟨z9, z10, ⟨_, zg, hpre⟩, hp9, hp10, hgg, rfl, hc9, hc9'⟩ hS
    · refine wpOp_go (by rfl) (Eq.refl _) (by go_simp; done) ?_
      intro K hK
      go_simp
      try simp only [Act.put]
      have hp10 := Below.size hS2
      have z10 := Blk.new w2 46 (asC 0 ⟨#[]⟩ ⟨0, 0, 0, 0, 0, 0, 0, 0, 0⟩)
      try have z9 := Blk.alloc z9 (.cells (asC 0 ⟨#[]⟩ ⟨0, 0, 0, 0, 0, 0, 0, 0, 0⟩) 46 (0, 0))
      try have zg := Blk.alloc zg (.cells (asC 0 ⟨#[]⟩ ⟨0, 0, 0, 0, 0, 0, 0, 0, 0⟩) 46 (0, 0))
      refine hK _ _ (Below.alloc hS2 (Below.size hS2) _) ?_
      clear hK K
      refine wpW_branch [1] (by kernel_rfl) (by simp) ?_
      intro w3 hg3 hS3
      try have z9 := Blk.gr z9 hg3
      try have z10 := Blk.gr z10 hg3
      try have zg := Blk.gr zg hg3
      try (have zz := blk4 z9; obtain ⟨z0, z1, z2, z3, zf⟩ := zz)
      try have zzf := z10.frozen
      try have zzc := as_cells z10
      try obtain ⟨x0, x1, x2, x3, x4, x5, x6, x7, x8, x9, x10⟩ := zzc
      try have lz9 := z9.lt
      try have lz10 := z10.lt
      refine each_cons ?_ (each_nil)
      · refine wpOp_go (by rfl) (Eq.refl _) (by go_simp; done) ?_
        intro K hK
        go_simp
        try simp only [Act.put]
        have hj5 := HJ.out _ hS3
        refine (copyJoint_any j A c B _ hj5 HA.out hl).mono ?_
        rintro e w6 ⟨v, rfl, own6, hB6⟩
        obtain ⟨g, c9, cs, rfl, hge, zg, hpre, hc9, hc9'⟩ := copied_blk hl0 own6
        have hgg := Nat.le_trans (Below.size hS3) hge
        try have z9 := Blk.gr z9 hB6
        try have z10 := Blk.gr z10 hB6
        refine hK _ _ (Below.trans hS3 (hB6.mono (Below.size hS3))) ?_
        clear hK K own6 hj5 hge
        refine wpW_branch [5] (by kernel_rfl) (by simp) ?_
        intro w4 hg4 hS4
        try have z9 := Blk.gr z9 hg4
        try have z10 := Blk.gr z10 hg4
        try have zg := Blk.gr zg hg4
        try (have zz := blk4 z9; obtain ⟨z0, z1, z2, z3, zf⟩ := zz)
        try have zzf := z10.frozen
        try have zzc := as_cells z10
        try obtain ⟨x0, x1, x2, x3, x4, x5, x6, x7, x8, x9, x10⟩ := zzc
        try have lz9 := z9.lt
        try have lz10 := z10.lt
        refine each_cons ?_ (each_nil)
        · refine wpOp_go (by rfl) (Eq.refl _) (by go_simp; done) ?_
          intro K hK
          go_simp
          try simp only [Act.put]
          have z10 := Blk.far4 z10 (z10.ne_ z9 (by decide)) (.string j.nm) (.int .i64 j.thick) (.int .i64 j.zone) (.slice (some ⟨g, 0, none⟩) j.fs.length c9)
          have zg := Blk.far4 zg (zg.ne_ z9 (by decide)) (.string j.nm) (.int .i64 j.thick) (.int .i64 j.zone) (.slice (some ⟨g, 0, none⟩) j.fs.length c9)
          have z9 := Blk.set4 z9 (.string j.nm) (.int .i64 j.thick) (.int .i64 j.zone) (.slice (some ⟨g, 0, none⟩) j.fs.length c9)
          refine hK _ _ (Below.set4 hS4 hp9) ?_
          clear hK K z0 z1 z2 z3 zf lz9 lz10 zzf x0 x1 x2 x3 x4 x5 x6 x7 x8 x9 x10
          refine wpW_branch [6] (by kernel_rfl) (by simp) ?_
          intro w5 hg5 hS5
          try have z9 := Blk.gr z9 hg5
          try have z10 := Blk.gr z10 hg5
          try have zg := Blk.gr zg hg5
          try (have zz := blk4 z9; obtain ⟨z0, z1, z2, z3, zf⟩ := zz)
          try have zzf := z10.frozen
          try have zzc := as_cells z10
          try obtain ⟨x0, x1, x2, x3, x4, x5, x6, x7, x8, x9, x10⟩ := zzc
          try have lz9 := z9.lt
          try have lz10 := z10.lt
          refine each_cons ?_ (each_nil)
          · refine wpOp_go (by rfl) (Eq.refl _) (by go_simp; done) ?_
            intro K hK
            go_simp
            try simp only [Act.put]
            have z9 := Blk.far11 z9 (z9.ne_ z10 (by decide)) (.int .i64 k) (.string sn) (.int .i64 s.at_) (.int .i64 s.side) (.int .i64 s.legs) (.int .i64 s.ln) (.int .i64 s.ld) (.int .i64 s.mn) (.int .i64 s.md) (.int .i64 s.tn) (.int .i64 s.td)
            have zg := Blk.far11 zg (zg.ne_ z10 (by decide)) (.int .i64 k) (.string sn) (.int .i64 s.at_) (.int .i64 s.side) (.int .i64 s.legs) (.int .i64 s.ln) (.int .i64 s.ld) (.int .i64 s.mn) (.int .i64 s.md) (.int .i64 s.tn) (.int .i64 s.td)
            have z10 := Blk.put11 z10 (.int .i64 k) (.string sn) (.int .i64 s.at_) (.int .i64 s.side) (.int .i64 s.legs) (.int .i64 s.ln) (.int .i64 s.ld) (.int .i64 s.mn) (.int .i64 s.md) (.int .i64 s.tn) (.int .i64 s.td)
            refine hK _ _ (Below.set11 hS5 hp10 _ _ _ _ _ _ _ _ _ _ _) ?_
            clear hK K
            refine wpW_end (by kernel_rfl) ?_
            intro wE hg hS
            unfold NQ
            dsimp only
            have z9 := z9.gr hg
            have z10 := z10.gr hg
            have zg := zg.gr hg
            exact H.out _ _ _ _ _ _ _ _ ⟨z9, z10, ⟨_, zg, hpre⟩, hp9, hp10, hgg, rfl, hc9, hc9'⟩ hS
  · refine wpOp_go (by rfl) (Eq.refl _) (by go_simp; done) ?_
    intro K hK
    go_simp
    try simp only [Act.put]
    have hp10 := Below.size hS1
    have z10 := Blk.new w1 46 (asC 0 ⟨#[]⟩ ⟨0, 0, 0, 0, 0, 0, 0, 0, 0⟩)
    try have z9 := Blk.alloc z9 (.cells (asC 0 ⟨#[]⟩ ⟨0, 0, 0, 0, 0, 0, 0, 0, 0⟩) 46 (0, 0))
    try have zg := Blk.alloc zg (.cells (asC 0 ⟨#[]⟩ ⟨0, 0, 0, 0, 0, 0, 0, 0, 0⟩) 46 (0, 0))
    refine hK _ _ (Below.alloc hS1 (Below.size hS1) _) ?_
    clear hK K
    refine wpW_branch [1, 3] (by kernel_rfl) (by simp) ?_
    intro w2 hg2 hS2
    try have z9 := Blk.gr z9 hg2
    try have z10 := Blk.gr z10 hg2
    try have zg := Blk.gr zg hg2
    try (have zz := blk4 z9; obtain ⟨z0, z1, z2, z3, zf⟩ := zz)
    try have zzf := z10.frozen
    try have zzc := as_cells z10
    try obtain ⟨x0, x1, x2, x3, x4, x5, x6, x7, x8, x9, x10⟩ := zzc
    try have lz9 := z9.lt
    try have lz10 := z10.lt
    refine each_cons ?_ (each_cons ?_ (each_nil))
    · refine wpOp_go (by rfl) (Eq.refl _) (by go_simp; done) ?_
      intro K hK
      go_simp
      try simp only [Act.put]
      have hj5 := HJ.out _ hS2
      refine (copyJoint_any j A c B _ hj5 HA.out hl).mono ?_
      rintro e w6 ⟨v, rfl, own6, hB6⟩
      obtain ⟨g, c9, cs, rfl, hge, zg, hpre, hc9, hc9'⟩ := copied_blk hl0 own6
      have hgg := Nat.le_trans (Below.size hS2) hge
      try have z9 := Blk.gr z9 hB6
      try have z10 := Blk.gr z10 hB6
      refine hK _ _ (Below.trans hS2 (hB6.mono (Below.size hS2))) ?_
      clear hK K own6 hj5 hge
      refine wpW_branch [3] (by kernel_rfl) (by simp) ?_
      intro w3 hg3 hS3
      try have z9 := Blk.gr z9 hg3
      try have z10 := Blk.gr z10 hg3
      try have zg := Blk.gr zg hg3
      try (have zz := blk4 z9; obtain ⟨z0, z1, z2, z3, zf⟩ := zz)
      try have zzf := z10.frozen
      try have zzc := as_cells z10
      try obtain ⟨x0, x1, x2, x3, x4, x5, x6, x7, x8, x9, x10⟩ := zzc
      try have lz9 := z9.lt
      try have lz10 := z10.lt
      refine each_cons ?_ (each_nil)
      · refine wpOp_go (by rfl) (Eq.refl _) (by go_simp; done) ?_
        intro K hK
        go_simp
        try simp only [Act.put]
        have hp9 := Below.size hS3
        have z9 := Blk.new w3 24 #[.string ⟨#[]⟩, .int .i64 0, .int .i64 0, .slice none 0 0]
        try have z10 := Blk.alloc z10 (.cells #[.string ⟨#[]⟩, .int .i64 0, .int .i64 0, .slice none 0 0] 24 (0, 0))
        try have zg := Blk.alloc zg (.cells #[.string ⟨#[]⟩, .int .i64 0, .int .i64 0, .slice none 0 0] 24 (0, 0))
        refine hK _ _ (Below.alloc hS3 (Below.size hS3) _) ?_
        clear hK K
        refine wpW_branch [5] (by kernel_rfl) (by simp) ?_
        intro w4 hg4 hS4
        try have z9 := Blk.gr z9 hg4
        try have z10 := Blk.gr z10 hg4
        try have zg := Blk.gr zg hg4
        try (have zz := blk4 z9; obtain ⟨z0, z1, z2, z3, zf⟩ := zz)
        try have zzf := z10.frozen
        try have zzc := as_cells z10
        try obtain ⟨x0, x1, x2, x3, x4, x5, x6, x7, x8, x9, x10⟩ := zzc
        try have lz9 := z9.lt
        try have lz10 := z10.lt
        refine each_cons ?_ (each_nil)
        · refine wpOp_go (by rfl) (Eq.refl _) (by go_simp; done) ?_
          intro K hK
          go_simp
          try simp only [Act.put]
          have z10 := Blk.far4 z10 (z10.ne_ z9 (by decide)) (.string j.nm) (.int .i64 j.thick) (.int .i64 j.zone) (.slice (some ⟨g, 0, none⟩) j.fs.length c9)
          have zg := Blk.far4 zg (zg.ne_ z9 (by decide)) (.string j.nm) (.int .i64 j.thick) (.int .i64 j.zone) (.slice (some ⟨g, 0, none⟩) j.fs.length c9)
          have z9 := Blk.set4 z9 (.string j.nm) (.int .i64 j.thick) (.int .i64 j.zone) (.slice (some ⟨g, 0, none⟩) j.fs.length c9)
          refine hK _ _ (Below.set4 hS4 hp9) ?_
          clear hK K z0 z1 z2 z3 zf lz9 lz10 zzf x0 x1 x2 x3 x4 x5 x6 x7 x8 x9 x10
          refine wpW_branch [6] (by kernel_rfl) (by simp) ?_
          intro w5 hg5 hS5
          try have z9 := Blk.gr z9 hg5
          try have z10 := Blk.gr z10 hg5
          try have zg := Blk.gr zg hg5
          try (have zz := blk4 z9; obtain ⟨z0, z1, z2, z3, zf⟩ := zz)
          try have zzf := z10.frozen
          try have zzc := as_cells z10
          try obtain ⟨x0, x1, x2, x3, x4, x5, x6, x7, x8, x9, x10⟩ := zzc
          try have lz9 := z9.lt
          try have lz10 := z10.lt
          refine each_cons ?_ (each_nil)
          · refine wpOp_go (by rfl) (Eq.refl _) (by go_simp; done) ?_
            intro K hK
            go_simp
            try simp only [Act.put]
            have z9 := Blk.far11 z9 (z9.ne_ z10 (by decide)) (.int .i64 k) (.string sn) (.int .i64 s.at_) (.int .i64 s.side) (.int .i64 s.legs) (.int .i64 s.ln) (.int .i64 s.ld) (.int .i64 s.mn) (.int .i64 s.md) (.int .i64 s.tn) (.int .i64 s.td)
            have zg := Blk.far11 zg (zg.ne_ z10 (by decide)) (.int .i64 k) (.string sn) (.int .i64 s.at_) (.int .i64 s.side) (.int .i64 s.legs) (.int .i64 s.ln) (.int .i64 s.ld) (.int .i64 s.mn) (.int .i64 s.md) (.int .i64 s.tn) (.int .i64 s.td)
            have z10 := Blk.put11 z10 (.int .i64 k) (.string sn) (.int .i64 s.at_) (.int .i64 s.side) (.int .i64 s.legs) (.int .i64 s.ln) (.int .i64 s.ld) (.int .i64 s.mn) (.int .i64 s.md) (.int .i64 s.tn) (.int .i64 s.td)
            refine hK _ _ (Below.set11 hS5 hp10 _ _ _ _ _ _ _ _ _ _ _) ?_
            clear hK K
            refine wpW_end (by kernel_rfl) ?_
            intro wE hg hS
            unfold NQ
            dsimp only
            have z9 := z9.gr hg
            have z10 := z10.gr hg
            have zg := zg.gr hg
            exact H.out _ _ _ _ _ _ _ _ ⟨z9, z10, ⟨_, zg, hpre⟩, hp9, hp10, hgg, rfl, hc9, hc9'⟩ hS
    · refine wpOp_go (by rfl) (Eq.refl _) (by go_simp; done) ?_
      intro K hK
      go_simp
      try simp only [Act.put]
      have hp9 := Below.size hS2
      have z9 := Blk.new w2 24 #[.string ⟨#[]⟩, .int .i64 0, .int .i64 0, .slice none 0 0]
      try have z10 := Blk.alloc z10 (.cells #[.string ⟨#[]⟩, .int .i64 0, .int .i64 0, .slice none 0 0] 24 (0, 0))
      try have zg := Blk.alloc zg (.cells #[.string ⟨#[]⟩, .int .i64 0, .int .i64 0, .slice none 0 0] 24 (0, 0))
      refine hK _ _ (Below.alloc hS2 (Below.size hS2) _) ?_
      clear hK K
      refine wpW_branch [1] (by kernel_rfl) (by simp) ?_
      intro w3 hg3 hS3
      try have z9 := Blk.gr z9 hg3
      try have z10 := Blk.gr z10 hg3
      try have zg := Blk.gr zg hg3
      try (have zz := blk4 z9; obtain ⟨z0, z1, z2, z3, zf⟩ := zz)
      try have zzf := z10.frozen
      try have zzc := as_cells z10
      try obtain ⟨x0, x1, x2, x3, x4, x5, x6, x7, x8, x9, x10⟩ := zzc
      try have lz9 := z9.lt
      try have lz10 := z10.lt
      refine each_cons ?_ (each_nil)
      · refine wpOp_go (by rfl) (Eq.refl _) (by go_simp; done) ?_
        intro K hK
        go_simp
        try simp only [Act.put]
        have hj5 := HJ.out _ hS3
        refine (copyJoint_any j A c B _ hj5 HA.out hl).mono ?_
        rintro e w6 ⟨v, rfl, own6, hB6⟩
        obtain ⟨g, c9, cs, rfl, hge, zg, hpre, hc9, hc9'⟩ := copied_blk hl0 own6
        have hgg := Nat.le_trans (Below.size hS3) hge
        try have z9 := Blk.gr z9 hB6
        try have z10 := Blk.gr z10 hB6
        refine hK _ _ (Below.trans hS3 (hB6.mono (Below.size hS3))) ?_
        clear hK K own6 hj5 hge
        refine wpW_branch [5] (by kernel_rfl) (by simp) ?_
        intro w4 hg4 hS4
        try have z9 := Blk.gr z9 hg4
        try have z10 := Blk.gr z10 hg4
        try have zg := Blk.gr zg hg4
        try (have zz := blk4 z9; obtain ⟨z0, z1, z2, z3, zf⟩ := zz)
        try have zzf := z10.frozen
        try have zzc := as_cells z10
        try obtain ⟨x0, x1, x2, x3, x4, x5, x6, x7, x8, x9, x10⟩ := zzc
        try have lz9 := z9.lt
        try have lz10 := z10.lt
        refine each_cons ?_ (each_nil)
        · refine wpOp_go (by rfl) (Eq.refl _) (by go_simp; done) ?_
          intro K hK
          go_simp
          try simp only [Act.put]
          have z10 := Blk.far4 z10 (z10.ne_ z9 (by decide)) (.string j.nm) (.int .i64 j.thick) (.int .i64 j.zone) (.slice (some ⟨g, 0, none⟩) j.fs.length c9)
          have zg := Blk.far4 zg (zg.ne_ z9 (by decide)) (.string j.nm) (.int .i64 j.thick) (.int .i64 j.zone) (.slice (some ⟨g, 0, none⟩) j.fs.length c9)
          have z9 := Blk.set4 z9 (.string j.nm) (.int .i64 j.thick) (.int .i64 j.zone) (.slice (some ⟨g, 0, none⟩) j.fs.length c9)
          refine hK _ _ (Below.set4 hS4 hp9) ?_
          clear hK K z0 z1 z2 z3 zf lz9 lz10 zzf x0 x1 x2 x3 x4 x5 x6 x7 x8 x9 x10
          refine wpW_branch [6] (by kernel_rfl) (by simp) ?_
          intro w5 hg5 hS5
          try have z9 := Blk.gr z9 hg5
          try have z10 := Blk.gr z10 hg5
          try have zg := Blk.gr zg hg5
          try (have zz := blk4 z9; obtain ⟨z0, z1, z2, z3, zf⟩ := zz)
          try have zzf := z10.frozen
          try have zzc := as_cells z10
          try obtain ⟨x0, x1, x2, x3, x4, x5, x6, x7, x8, x9, x10⟩ := zzc
          try have lz9 := z9.lt
          try have lz10 := z10.lt
          refine each_cons ?_ (each_nil)
          · refine wpOp_go (by rfl) (Eq.refl _) (by go_simp; done) ?_
            intro K hK
            go_simp
            try simp only [Act.put]
            have z9 := Blk.far11 z9 (z9.ne_ z10 (by decide)) (.int .i64 k) (.string sn) (.int .i64 s.at_) (.int .i64 s.side) (.int .i64 s.legs) (.int .i64 s.ln) (.int .i64 s.ld) (.int .i64 s.mn) (.int .i64 s.md) (.int .i64 s.tn) (.int .i64 s.td)
            have zg := Blk.far11 zg (zg.ne_ z10 (by decide)) (.int .i64 k) (.string sn) (.int .i64 s.at_) (.int .i64 s.side) (.int .i64 s.legs) (.int .i64 s.ln) (.int .i64 s.ld) (.int .i64 s.mn) (.int .i64 s.md) (.int .i64 s.tn) (.int .i64 s.td)
            have z10 := Blk.put11 z10 (.int .i64 k) (.string sn) (.int .i64 s.at_) (.int .i64 s.side) (.int .i64 s.legs) (.int .i64 s.ln) (.int .i64 s.ld) (.int .i64 s.mn) (.int .i64 s.md) (.int .i64 s.tn) (.int .i64 s.td)
            refine hK _ _ (Below.set11 hS5 hp10 _ _ _ _ _ _ _ _ _ _ _) ?_
            clear hK K
            refine wpW_end (by kernel_rfl) ?_
            intro wE hg hS
            unfold NQ
            dsimp only
            have z9 := z9.gr hg
            have z10 := z10.gr hg
            have zg := zg.gr hg
            exact H.out _ _ _ _ _ _ _ _ ⟨z9, z10, ⟨_, zg, hpre⟩, hp9, hp10, hgg, rfl, hc9, hc9'⟩ hS

set_option maxRecDepth 100000 in
set_option maxHeartbeats 4000000 in
/-- A joint and an ask are copied (region 8). -/
theorem copyReg8 (j : Jo) (A : Option Addr) (c B : Nat) (k : Int) (sn : ByteArray) (s : Su) (w : World) (hj : JoOk j A c B w) (hA : A = none → c = 0) (hl : j.fs.length ≤ 1000000000) (hl0 : 0 < j.fs.length) (pb py : Nat)
    (b : Blk w pb 24 (joC j A c)) (y : Blk w py 46 (asC k sn s)) {t0 t1 t2 t5 t6 t7 t8 t9 t10 t11 t12 t13 t14 t15 t16 t17 t18 t19 t20 t21 t22 t23 t24 t25 t26 t27 t28 t29 t30 t31 t32 t33 t34 t35 t36 t37 t38 t39 t40 t41 t42 t43 t44 t45 t46 t47 t48 t49 t50 t51 t52 t53 t54 t55 t56 t57 t58 t59 t60 t61 t62 t63 t64 t65 t66 t67 t68 t69 t70 t71 t72 t73 t74 t75 t76 t77 t78 t79 t80 t81 t82 t83 t84 t85 t86 t87 t88 t89 t90 t91 t92 t93 t94 t95 t96 t97 t98 t99 t100 t101 t102 t103 t104 t105 t106 t107 t108 t109 t110 t111 t112 t113 t114 t115 t116 t117 t118 t119 t120 t121 t122 t123 t124 t125 t126 t127 t128 t129 t130 t131 t132 t133 t134 t135 t136 t137 t138 t139 t140 t141 t142 t143 t144 t145 t146 t147 t148 t149 t150 t151 t152 t153 t154 t155 t156 t157 t158 t159 t160 t161 t162 t163 t164 t165 t166 t167 t168 t169 t170 t171 t172 t173 t174 t175 t176 t177 t178 t179 t180 t181 t182 t183 t184 t185 t186 t187 t188 t189 t190 t191 t192 t193 t194 t195 t196 t197 t198 t199 t200 t201 t202 t203 t204 t205 t206 t207 t208 t209 t210 t211 t212 t213 t214 t215 t216 t217 t218 t219 t220 t221 t222 t223 t224 t225 t226 t227 t228 t229 t230 t231 t232 t233 t234 t235 t236 t237 t238 t239 t240 t241 t242 t243 : Value} {ds : List Deferred} (K' : Act → World → Prop) (Q' : Exit → Act → World → Prop)
    (h : ∀ (p q g c9 : Nat) (t66 t67 t68 : Value) (w' : World), Made w' w.heap.size j k sn s p q g c9 j.fs → Below w.heap.size w w' → K' ⟨#[t0, t1, t2, .pointer (some ⟨pb, 0, none⟩), .pointer (some ⟨py, 0, none⟩), t5, t6, t7, t8, t9, t10, .pointer (some ⟨p, 0, none⟩), .pointer (some ⟨q, 0, none⟩), t13, t14, t15, t16, t17, t18, t19, t20, t21, t22, t23, t24, t25, t26, t27, t28, t29, t30, t31, t32, t33, t34, t35, t36, t37, t38, t39, t40, t41, t42, t43, t44, t45, t46, t47, t48, t49, t50, t51, t52, t53, t54, t55, t56, t57, t58, t59, t60, t61, t62, t63, t64, t65, t66, t67, t68, t69, t70, t71, t72, t73, t74, t75, t76, t77, t78, t79, t80, t81, t82, t83, t84, t85, t86, t87, t88, t89, t90, t91, t92, t93, t94, t95, t96, t97, t98, t99, t100, t101, t102, t103, t104, t105, t106, t107, t108, t109, t110, t111, t112, t113, t114, t115, t116, t117, t118, t119, t120, t121, t122, t123, t124, t125, t126, t127, t128, t129, t130, t131, t132, t133, t134, t135, t136, t137, t138, t139, t140, t141, t142, t143, t144, t145, t146, t147, t148, t149, t150, t151, t152, t153, t154, t155, t156, t157, t158, t159, t160, t161, t162, t163, t164, t165, t166, t167, t168, t169, t170, t171, t172, t173, t174, t175, t176, t177, t178, t179, t180, t181, t182, t183, t184, t185, t186, t187, t188, t189, t190, t191, t192, t193, t194, t195, t196, t197, t198, t199, t200, t201, t202, t203, t204, t205, t206, t207, t208, t209, t210, t211, t212, t213, t214, t215, t216, t217, t218, t219, t220, t221, t222, t223, t224, t225, t226, t227, t228, t229, t230, t231, t232, t233, t234, t235, t236, t237, t238, t239, t240, t241, t242, t243], ds⟩ w') :
    (regOf Tryz.f4 8).wp Tryz.prog (Exit.then K' Q') ⟨#[t0, t1, t2, .pointer (some ⟨pb, 0, none⟩), .pointer (some ⟨py, 0, none⟩), t5, t6, t7, t8, t9, t10, t11, t12, t13, t14, t15, t16, t17, t18, t19, t20, t21, t22, t23, t24, t25, t26, t27, t28, t29, t30, t31, t32, t33, t34, t35, t36, t37, t38, t39, t40, t41, t42, t43, t44, t45, t46, t47, t48, t49, t50, t51, t52, t53, t54, t55, t56, t57, t58, t59, t60, t61, t62, t63, t64, t65, t66, t67, t68, t69, t70, t71, t72, t73, t74, t75, t76, t77, t78, t79, t80, t81, t82, t83, t84, t85, t86, t87, t88, t89, t90, t91, t92, t93, t94, t95, t96, t97, t98, t99, t100, t101, t102, t103, t104, t105, t106, t107, t108, t109, t110, t111, t112, t113, t114, t115, t116, t117, t118, t119, t120, t121, t122, t123, t124, t125, t126, t127, t128, t129, t130, t131, t132, t133, t134, t135, t136, t137, t138, t139, t140, t141, t142, t143, t144, t145, t146, t147, t148, t149, t150, t151, t152, t153, t154, t155, t156, t157, t158, t159, t160, t161, t162, t163, t164, t165, t166, t167, t168, t169, t170, t171, t172, t173, t174, t175, t176, t177, t178, t179, t180, t181, t182, t183, t184, t185, t186, t187, t188, t189, t190, t191, t192, t193, t194, t195, t196, t197, t198, t199, t200, t201, t202, t203, t204, t205, t206, t207, t208, t209, t210, t211, t212, t213, t214, t215, t216, t217, t218, t219, t220, t221, t222, t223, t224, t225, t226, t227, t228, t229, t230, t231, t232, t233, t234, t235, t236, t237, t238, t239, t240, t241, t242, t243], ds⟩ w := by
  have HJ : Hid (∀ W, Below w.heap.size w W → JoOk j A c B W) := Lib.hid fun W h => hj.below h hj.base
  have H := Lib.hid h; clear h hj
  have HA := Lib.hid hA; clear hA
  unfold joC at b
  unfold asC at y
  obtain ⟨t0, t1, t2, t3⟩ := blk4c b
  obtain ⟨u0, u1, u2, u3, u4, u5, u6, u7, u8, u9, u10⟩ := as_cells y
  have lb := b.lt
  have ly := y.lt
  conv in (regOf _ _) => whnf
  refine wp_region_w (Gr _) (by kernel_rfl) (Below.refl _ _).drew ?_
  refine wpW_det (t' := ?ct0R2) 0 (by rfl) (by kernel_rfl) (NQ_free _) (by kernel_rfl) ?cw0R2 ?ch0R2 ?ca0R2 (Eq.refl _) ?cH0R2
  case cw0R2 => (go_simp; done)
  case ch0R2 =>
    intro ds w' hS K hK
    have hc := (bcell hS).1
    have hf := (bcell hS).2
    have hz := hS.size
    try simp at hz
    go_simp
    try go_bits
    first
      | exact hK _ hS (Gr.refl _)
      | exact hK _ (by repeat (first | (with_reducible exact Below.refl _ _) | (with_reducible assumption) | ((with_reducible refine Below.setCell ?_ ?_ _); rotate_left; · (first | exact Nat.le_refl _ | (simp; done) | (simp; omega) | omega)) | ((with_reducible refine Below.alloc ?_ ?_ _); rotate_left; · (first | exact Nat.le_refl _ | (simp; done) | (simp; omega) | omega)) | (with_reducible apply Below.drew) | (with_reducible apply below_drewN') | (refine Below.trans ?_ (Below.mono (by assumption) (by first | exact Nat.le_refl _ | (simp; done) | (simp; omega) | omega))) | exact Below.refl _ _ | assumption)) (by repeat (first | (with_reducible exact Below.refl _ _) | (with_reducible assumption) | ((with_reducible refine Below.setCell ?_ ?_ _); rotate_left; · (first | exact Nat.le_refl _ | (simp; done) | (simp; omega) | omega)) | ((with_reducible refine Below.alloc ?_ ?_ _); rotate_left; · (first | exact Nat.le_refl _ | (simp; done) | (simp; omega) | omega)) | (with_reducible apply Below.drew) | (with_reducible apply below_drewN') | (refine Below.trans ?_ (Below.mono (by assumption) (by first | exact Nat.le_refl _ | (simp; done) | (simp; omega) | omega))) | exact Below.refl _ _ | assumption))
  case ca0R2 => (first | (simp [Act.put]; done) | (simp [Act.put, *]; done))
  try dsimp only
  refine wpW_det (t' := ?ct2R2) 2 (by rfl) (by kernel_rfl) (NQ_free _) (by kernel_rfl) ?cw2R2 ?ch2R2 ?ca2R2 (Eq.refl _) ?cH2R2
  case cw2R2 => (go_simp; done)
  case ch2R2 =>
    intro ds w' hS K hK
    have hc := (bcell hS).1
    have hf := (bcell hS).2
    have hz := hS.size
    try simp at hz
    go_simp
    try go_bits
    first
      | exact hK _ hS (Gr.refl _)
      | exact hK _ (by repeat (first | (with_reducible exact Below.refl _ _) | (with_reducible assumption) | ((with_reducible refine Below.setCell ?_ ?_ _); rotate_left; · (first | exact Nat.le_refl _ | (simp; done) | (simp; omega) | omega)) | ((with_reducible refine Below.alloc ?_ ?_ _); rotate_left; · (first | exact Nat.le_refl _ | (simp; done) | (simp; omega) | omega)) | (with_reducible apply Below.drew) | (with_reducible apply below_drewN') | (refine Below.trans ?_ (Below.mono (by assumption) (by first | exact Nat.le_refl _ | (simp; done) | (simp; omega) | omega))) | exact Below.refl _ _ | assumption)) (by repeat (first | (with_reducible exact Below.refl _ _) | (with_reducible assumption) | ((with_reducible refine Below.setCell ?_ ?_ _); rotate_left; · (first | exact Nat.le_refl _ | (simp; done) | (simp; omega) | omega)) | ((with_reducible refine Below.alloc ?_ ?_ _); rotate_left; · (first | exact Nat.le_refl _ | (simp; done) | (simp; omega) | omega)) | (with_reducible apply Below.drew) | (with_reducible apply below_drewN') | (refine Below.trans ?_ (Below.mono (by assumption) (by first | exact Nat.le_refl _ | (simp; done) | (simp; omega) | omega))) | exact Below.refl _ _ | assumption))
  case ca2R2 => (first | (simp [Act.put]; done) | (simp [Act.put, *]; done))
  try dsimp only
  refine wpW_branch [1, 3, 4] (by kernel_rfl) (by simp) ?_
  intro w1 hg1 hS1
  try have z9 := Blk.gr z9 hg1
  try have z10 := Blk.gr z10 hg1
  try have zg := Blk.gr zg hg1
  try (have zz := blk4 z9; obtain ⟨z0, z1, z2, z3, zf⟩ := zz)
  try have zzf := z10.frozen
  try have zzc := as_cells z10
  try obtain ⟨x0, x1, x2, x3, x4, x5, x6, x7, x8, x9, x10⟩ := zzc
  try have lz9 := z9.lt
  try have lz10 := z10.lt
  refine each_cons ?_ (each_cons ?_ (each_cons ?_ (each_nil)))
  · refine wpOp_go (by rfl) (Eq.refl _) (by go_simp; done) ?_
    intro K hK
    go_simp
    try simp only [Act.put]
    have hj5 := HJ.out _ hS1
    refine (copyJoint_any j A c B _ hj5 HA.out hl).mono ?_
    rintro e w6 ⟨v, rfl, own6, hB6⟩
    obtain ⟨g, c9, cs, rfl, hge, zg, hpre, hc9, hc9'⟩ := copied_blk hl0 own6
    have hgg := Nat.le_trans (Below.size hS1) hge
    try have z9 := Blk.gr z9 hB6
    try have z10 := Blk.gr z10 hB6
    refine hK _ _ (Below.trans hS1 (hB6.mono (Below.size hS1))) ?_
    clear hK K own6 hj5 hge
    refine wpW_branch [3, 4] (by kernel_rfl) (by simp) ?_
    intro w2 hg2 hS2
    try have z9 := Blk.gr z9 hg2
    try have z10 := Blk.gr z10 hg2
    try have zg := Blk.gr zg hg2
    try (have zz := blk4 z9; obtain ⟨z0, z1, z2, z3, zf⟩ := zz)
    try have zzf := z10.frozen
    try have zzc := as_cells z10
    try obtain ⟨x0, x1, x2, x3, x4, x5, x6, x7, x8, x9, x10⟩ := zzc
    try have lz9 := z9.lt
    try have lz10 := z10.lt
    refine each_cons ?_ (each_cons ?_ (each_nil))
    · refine wpOp_go (by rfl) (Eq.refl _) (by go_simp; done) ?_
      intro K hK
      go_simp
      try simp only [Act.put]
      have hp9 := Below.size hS2
      have z9 := Blk.new w2 24 #[.string ⟨#[]⟩, .int .i64 0, .int .i64 0, .slice none 0 0]
      try have z10 := Blk.alloc z10 (.cells #[.string ⟨#[]⟩, .int .i64 0, .int .i64 0, .slice none 0 0] 24 (0, 0))
      try have zg := Blk.alloc zg (.cells #[.string ⟨#[]⟩, .int .i64 0, .int .i64 0, .slice none 0 0] 24 (0, 0))
      refine hK _ _ (Below.alloc hS2 (Below.size hS2) _) ?_
      clear hK K
      refine wpW_branch [4] (by kernel_rfl) (by simp) ?_
      intro w3 hg3 hS3
      try have z9 := Blk.gr z9 hg3
      try have z10 := Blk.gr z10 hg3
      try have zg := Blk.gr zg hg3
      try (have zz := blk4 z9; obtain ⟨z0, z1, z2, z3, zf⟩ := zz)
      try have zzf := z10.frozen
      try have zzc := as_cells z10
      try obtain ⟨x0, x1, x2, x3, x4, x5, x6, x7, x8, x9, x10⟩ := zzc
      try have lz9 := z9.lt
      try have lz10 := z10.lt
      refine each_cons ?_ (each_nil)
      · refine wpOp_go (by rfl) (Eq.refl _) (by go_simp; done) ?_
        intro K hK
        go_simp
        try simp only [Act.put]
        have hp10 := Below.size hS3
        have z10 := Blk.new w3 46 (asC 0 ⟨#[]⟩ ⟨0, 0, 0, 0, 0, 0, 0, 0, 0⟩)
        try have z9 := Blk.alloc z9 (.cells (asC 0 ⟨#[]⟩ ⟨0, 0, 0, 0, 0, 0, 0, 0, 0⟩) 46 (0, 0))
        try have zg := Blk.alloc zg (.cells (asC 0 ⟨#[]⟩ ⟨0, 0, 0, 0, 0, 0, 0, 0, 0⟩) 46 (0, 0))
        refine hK _ _ (Below.alloc hS3 (Below.size hS3) _) ?_
        clear hK K
        refine wpW_branch [5] (by kernel_rfl) (by simp) ?_
        intro w4 hg4 hS4
        try have z9 := Blk.gr z9 hg4
        try have z10 := Blk.gr z10 hg4
        try have zg := Blk.gr zg hg4
        try (have zz := blk4 z9; obtain ⟨z0, z1, z2, z3, zf⟩ := zz)
        try have zzf := z10.frozen
        try have zzc := as_cells z10
        try obtain ⟨x0, x1, x2, x3, x4, x5, x6, x7, x8, x9, x10⟩ := zzc
        try have lz9 := z9.lt
        try have lz10 := z10.lt
        refine each_cons ?_ (each_nil)
        · refine wpOp_go (by rfl) (Eq.refl _) (by go_simp; done) ?_
          intro K hK
          go_simp
          try simp only [Act.put]
          have z10 := Blk.far4 z10 (z10.ne_ z9 (by decide)) (.string j.nm) (.int .i64 j.thick) (.int .i64 j.zone) (.slice (some ⟨g, 0, none⟩) j.fs.length c9)
          have zg := Blk.far4 zg (zg.ne_ z9 (by decide)) (.string j.nm) (.int .i64 j.thick) (.int .i64 j.zone) (.slice (some ⟨g, 0, none⟩) j.fs.length c9)
          have z9 := Blk.set4 z9 (.string j.nm) (.int .i64 j.thick) (.int .i64 j.zone) (.slice (some ⟨g, 0, none⟩) j.fs.length c9)
          refine hK _ _ (Below.set4 hS4 hp9) ?_
          clear hK K z0 z1 z2 z3 zf lz9 lz10 zzf x0 x1 x2 x3 x4 x5 x6 x7 x8 x9 x10
          refine wpW_branch [6] (by kernel_rfl) (by simp) ?_
          intro w5 hg5 hS5
          try have z9 := Blk.gr z9 hg5
          try have z10 := Blk.gr z10 hg5
          try have zg := Blk.gr zg hg5
          try (have zz := blk4 z9; obtain ⟨z0, z1, z2, z3, zf⟩ := zz)
          try have zzf := z10.frozen
          try have zzc := as_cells z10
          try obtain ⟨x0, x1, x2, x3, x4, x5, x6, x7, x8, x9, x10⟩ := zzc
          try have lz9 := z9.lt
          try have lz10 := z10.lt
          refine each_cons ?_ (each_nil)
          · refine wpOp_go (by rfl) (Eq.refl _) (by go_simp; done) ?_
            intro K hK
            go_simp
            try simp only [Act.put]
            have z9 := Blk.far11 z9 (z9.ne_ z10 (by decide)) (.int .i64 k) (.string sn) (.int .i64 s.at_) (.int .i64 s.side) (.int .i64 s.legs) (.int .i64 s.ln) (.int .i64 s.ld) (.int .i64 s.mn) (.int .i64 s.md) (.int .i64 s.tn) (.int .i64 s.td)
            have zg := Blk.far11 zg (zg.ne_ z10 (by decide)) (.int .i64 k) (.string sn) (.int .i64 s.at_) (.int .i64 s.side) (.int .i64 s.legs) (.int .i64 s.ln) (.int .i64 s.ld) (.int .i64 s.mn) (.int .i64 s.md) (.int .i64 s.tn) (.int .i64 s.td)
            have z10 := Blk.put11 z10 (.int .i64 k) (.string sn) (.int .i64 s.at_) (.int .i64 s.side) (.int .i64 s.legs) (.int .i64 s.ln) (.int .i64 s.ld) (.int .i64 s.mn) (.int .i64 s.md) (.int .i64 s.tn) (.int .i64 s.td)
            refine hK _ _ (Below.set11 hS5 hp10 _ _ _ _ _ _ _ _ _ _ _) ?_
            clear hK K
            refine wpW_end (by kernel_rfl) ?_
            intro wE hg hS
            unfold NQ
            dsimp only
            have z9 := z9.gr hg
            have z10 := z10.gr hg
            have zg := zg.gr hg
            exact H.out _ _ _ _ _ _ _ _ ⟨z9, z10, ⟨_, zg, hpre⟩, hp9, hp10, hgg, rfl, hc9, hc9'⟩ hS
    · refine wpOp_go (by rfl) (Eq.refl _) (by go_simp; done) ?_
      intro K hK
      go_simp
      try simp only [Act.put]
      have hp10 := Below.size hS2
      have z10 := Blk.new w2 46 (asC 0 ⟨#[]⟩ ⟨0, 0, 0, 0, 0, 0, 0, 0, 0⟩)
      try have z9 := Blk.alloc z9 (.cells (asC 0 ⟨#[]⟩ ⟨0, 0, 0, 0, 0, 0, 0, 0, 0⟩) 46 (0, 0))
      try have zg := Blk.alloc zg (.cells (asC 0 ⟨#[]⟩ ⟨0, 0, 0, 0, 0, 0, 0, 0, 0⟩) 46 (0, 0))
      refine hK _ _ (Below.alloc hS2 (Below.size hS2) _) ?_
      clear hK K
      refine wpW_branch [3] (by kernel_rfl) (by simp) ?_
      intro w3 hg3 hS3
      try have z9 := Blk.gr z9 hg3
      try have z10 := Blk.gr z10 hg3
      try have zg := Blk.gr zg hg3
      try (have zz := blk4 z9; obtain ⟨z0, z1, z2, z3, zf⟩ := zz)
      try have zzf := z10.frozen
      try have zzc := as_cells z10
      try obtain ⟨x0, x1, x2, x3, x4, x5, x6, x7, x8, x9, x10⟩ := zzc
      try have lz9 := z9.lt
      try have lz10 := z10.lt
      refine each_cons ?_ (each_nil)
      · refine wpOp_go (by rfl) (Eq.refl _) (by go_simp; done) ?_
        intro K hK
        go_simp
        try simp only [Act.put]
        have hp9 := Below.size hS3
        have z9 := Blk.new w3 24 #[.string ⟨#[]⟩, .int .i64 0, .int .i64 0, .slice none 0 0]
        try have z10 := Blk.alloc z10 (.cells #[.string ⟨#[]⟩, .int .i64 0, .int .i64 0, .slice none 0 0] 24 (0, 0))
        try have zg := Blk.alloc zg (.cells #[.string ⟨#[]⟩, .int .i64 0, .int .i64 0, .slice none 0 0] 24 (0, 0))
        refine hK _ _ (Below.alloc hS3 (Below.size hS3) _) ?_
        clear hK K
        refine wpW_branch [5] (by kernel_rfl) (by simp) ?_
        intro w4 hg4 hS4
        try have z9 := Blk.gr z9 hg4
        try have z10 := Blk.gr z10 hg4
        try have zg := Blk.gr zg hg4
        try (have zz := blk4 z9; obtain ⟨z0, z1, z2, z3, zf⟩ := zz)
        try have zzf := z10.frozen
        try have zzc := as_cells z10
        try obtain ⟨x0, x1, x2, x3, x4, x5, x6, x7, x8, x9, x10⟩ := zzc
        try have lz9 := z9.lt
        try have lz10 := z10.lt
        refine each_cons ?_ (each_nil)
        · refine wpOp_go (by rfl) (Eq.refl _) (by go_simp; done) ?_
          intro K hK
          go_simp
          try simp only [Act.put]
          have z10 := Blk.far4 z10 (z10.ne_ z9 (by decide)) (.string j.nm) (.int .i64 j.thick) (.int .i64 j.zone) (.slice (some ⟨g, 0, none⟩) j.fs.length c9)
          have zg := Blk.far4 zg (zg.ne_ z9 (by decide)) (.string j.nm) (.int .i64 j.thick) (.int .i64 j.zone) (.slice (some ⟨g, 0, none⟩) j.fs.length c9)
          have z9 := Blk.set4 z9 (.string j.nm) (.int .i64 j.thick) (.int .i64 j.zone) (.slice (some ⟨g, 0, none⟩) j.fs.length c9)
          refine hK _ _ (Below.set4 hS4 hp9) ?_
          clear hK K z0 z1 z2 z3 zf lz9 lz10 zzf x0 x1 x2 x3 x4 x5 x6 x7 x8 x9 x10
          refine wpW_branch [6] (by kernel_rfl) (by simp) ?_
          intro w5 hg5 hS5
          try have z9 := Blk.gr z9 hg5
          try have z10 := Blk.gr z10 hg5
          try have zg := Blk.gr zg hg5
          try (have zz := blk4 z9; obtain ⟨z0, z1, z2, z3, zf⟩ := zz)
          try have zzf := z10.frozen
          try have zzc := as_cells z10
          try obtain ⟨x0, x1, x2, x3, x4, x5, x6, x7, x8, x9, x10⟩ := zzc
          try have lz9 := z9.lt
          try have lz10 := z10.lt
          refine each_cons ?_ (each_nil)
          · refine wpOp_go (by rfl) (Eq.refl _) (by go_simp; done) ?_
            intro K hK
            go_simp
            try simp only [Act.put]
            have z9 := Blk.far11 z9 (z9.ne_ z10 (by decide)) (.int .i64 k) (.string sn) (.int .i64 s.at_) (.int .i64 s.side) (.int .i64 s.legs) (.int .i64 s.ln) (.int .i64 s.ld) (.int .i64 s.mn) (.int .i64 s.md) (.int .i64 s.tn) (.int .i64 s.td)
            have zg := Blk.far11 zg (zg.ne_ z10 (by decide)) (.int .i64 k) (.string sn) (.int .i64 s.at_) (.int .i64 s.side) (.int .i64 s.legs) (.int .i64 s.ln) (.int .i64 s.ld) (.int .i64 s.mn) (.int .i64 s.md) (.int .i64 s.tn) (.int .i64 s.td)
            have z10 := Blk.put11 z10 (.int .i64 k) (.string sn) (.int .i64 s.at_) (.int .i64 s.side) (.int .i64 s.legs) (.int .i64 s.ln) (.int .i64 s.ld) (.int .i64 s.mn) (.int .i64 s.md) (.int .i64 s.tn) (.int .i64 s.td)
            refine hK _ _ (Below.set11 hS5 hp10 _ _ _ _ _ _ _ _ _ _ _) ?_
            clear hK K
            refine wpW_end (by kernel_rfl) ?_
            intro wE hg hS
            unfold NQ
            dsimp only
            have z9 := z9.gr hg
            have z10 := z10.gr hg
            have zg := zg.gr hg
            exact H.out _ _ _ _ _ _ _ _ ⟨z9, z10, ⟨_, zg, hpre⟩, hp9, hp10, hgg, rfl, hc9, hc9'⟩ hS
  · refine wpOp_go (by rfl) (Eq.refl _) (by go_simp; done) ?_
    intro K hK
    go_simp
    try simp only [Act.put]
    have hp9 := Below.size hS1
    have z9 := Blk.new w1 24 #[.string ⟨#[]⟩, .int .i64 0, .int .i64 0, .slice none 0 0]
    try have z10 := Blk.alloc z10 (.cells #[.string ⟨#[]⟩, .int .i64 0, .int .i64 0, .slice none 0 0] 24 (0, 0))
    try have zg := Blk.alloc zg (.cells #[.string ⟨#[]⟩, .int .i64 0, .int .i64 0, .slice none 0 0] 24 (0, 0))
    refine hK _ _ (Below.alloc hS1 (Below.size hS1) _) ?_
    clear hK K
    refine wpW_branch [1, 4] (by kernel_rfl) (by simp) ?_
    intro w2 hg2 hS2
    try have z9 := Blk.gr z9 hg2
    try have z10 := Blk.gr z10 hg2
    try have zg := Blk.gr zg hg2
    try (have zz := blk4 z9; obtain ⟨z0, z1, z2, z3, zf⟩ := zz)
    try have zzf := z10.frozen
    try have zzc := as_cells z10
    try obtain ⟨x0, x1, x2, x3, x4, x5, x6, x7, x8, x9, x10⟩ := zzc
    try have lz9 := z9.lt
    try have lz10 := z10.lt
    refine each_cons ?_ (each_cons ?_ (each_nil))
    · refine wpOp_go (by rfl) (Eq.refl _) (by go_simp; done) ?_
      intro K hK
      go_simp
      try simp only [Act.put]
      have hj5 := HJ.out _ hS2
      refine (copyJoint_any j A c B _ hj5 HA.out hl).mono ?_
      rintro e w6 ⟨v, rfl, own6, hB6⟩
      obtain ⟨g, c9, cs, rfl, hge, zg, hpre, hc9, hc9'⟩ := copied_blk hl0 own6
      have hgg := Nat.le_trans (Below.size hS2) hge
      try have z9 := Blk.gr z9 hB6
      try have z10 := Blk.gr z10 hB6
      refine hK _ _ (Below.trans hS2 (hB6.mono (Below.size hS2))) ?_
      clear hK K own6 hj5 hge
      refine wpW_branch [4] (by kernel_rfl) (by simp) ?_
      intro w3 hg3 hS3
      try have z9 := Blk.gr z9 hg3
      try have z10 := Blk.gr z10 hg3
      try have zg := Blk.gr zg hg3
      try (have zz := blk4 z9; obtain ⟨z0, z1, z2, z3, zf⟩ := zz)
      try have zzf := z10.frozen
      try have zzc := as_cells z10
      try obtain ⟨x0, x1, x2, x3, x4, x5, x6, x7, x8, x9, x10⟩ := zzc
      try have lz9 := z9.lt
      try have lz10 := z10.lt
      refine each_cons ?_ (each_nil)
      · refine wpOp_go (by rfl) (Eq.refl _) (by go_simp; done) ?_
        intro K hK
        go_simp
        try simp only [Act.put]
        have hp10 := Below.size hS3
        have z10 := Blk.new w3 46 (asC 0 ⟨#[]⟩ ⟨0, 0, 0, 0, 0, 0, 0, 0, 0⟩)
        try have z9 := Blk.alloc z9 (.cells (asC 0 ⟨#[]⟩ ⟨0, 0, 0, 0, 0, 0, 0, 0, 0⟩) 46 (0, 0))
        try have zg := Blk.alloc zg (.cells (asC 0 ⟨#[]⟩ ⟨0, 0, 0, 0, 0, 0, 0, 0, 0⟩) 46 (0, 0))
        refine hK _ _ (Below.alloc hS3 (Below.size hS3) _) ?_
        clear hK K
        refine wpW_branch [5] (by kernel_rfl) (by simp) ?_
        intro w4 hg4 hS4
        try have z9 := Blk.gr z9 hg4
        try have z10 := Blk.gr z10 hg4
        try have zg := Blk.gr zg hg4
        try (have zz := blk4 z9; obtain ⟨z0, z1, z2, z3, zf⟩ := zz)
        try have zzf := z10.frozen
        try have zzc := as_cells z10
        try obtain ⟨x0, x1, x2, x3, x4, x5, x6, x7, x8, x9, x10⟩ := zzc
        try have lz9 := z9.lt
        try have lz10 := z10.lt
        refine each_cons ?_ (each_nil)
        · refine wpOp_go (by rfl) (Eq.refl _) (by go_simp; done) ?_
          intro K hK
          go_simp
          try simp only [Act.put]
          have z10 := Blk.far4 z10 (z10.ne_ z9 (by decide)) (.string j.nm) (.int .i64 j.thick) (.int .i64 j.zone) (.slice (some ⟨g, 0, none⟩) j.fs.length c9)
          have zg := Blk.far4 zg (zg.ne_ z9 (by decide)) (.string j.nm) (.int .i64 j.thick) (.int .i64 j.zone) (.slice (some ⟨g, 0, none⟩) j.fs.length c9)
          have z9 := Blk.set4 z9 (.string j.nm) (.int .i64 j.thick) (.int .i64 j.zone) (.slice (some ⟨g, 0, none⟩) j.fs.length c9)
          refine hK _ _ (Below.set4 hS4 hp9) ?_
          clear hK K z0 z1 z2 z3 zf lz9 lz10 zzf x0 x1 x2 x3 x4 x5 x6 x7 x8 x9 x10
          refine wpW_branch [6] (by kernel_rfl) (by simp) ?_
          intro w5 hg5 hS5
          try have z9 := Blk.gr z9 hg5
          try have z10 := Blk.gr z10 hg5
          try have zg := Blk.gr zg hg5
          try (have zz := blk4 z9; obtain ⟨z0, z1, z2, z3, zf⟩ := zz)
          try have zzf := z10.frozen
          try have zzc := as_cells z10
          try obtain ⟨x0, x1, x2, x3, x4, x5, x6, x7, x8, x9, x10⟩ := zzc
          try have lz9 := z9.lt
          try have lz10 := z10.lt
          refine each_cons ?_ (each_nil)
          · refine wpOp_go (by rfl) (Eq.refl _) (by go_simp; done) ?_
            intro K hK
            go_simp
            try simp only [Act.put]
            have z9 := Blk.far11 z9 (z9.ne_ z10 (by decide)) (.int .i64 k) (.string sn) (.int .i64 s.at_) (.int .i64 s.side) (.int .i64 s.legs) (.int .i64 s.ln) (.int .i64 s.ld) (.int .i64 s.mn) (.int .i64 s.md) (.int .i64 s.tn) (.int .i64 s.td)
            have zg := Blk.far11 zg (zg.ne_ z10 (by decide)) (.int .i64 k) (.string sn) (.int .i64 s.at_) (.int .i64 s.side) (.int .i64 s.legs) (.int .i64 s.ln) (.int .i64 s.ld) (.int .i64 s.mn) (.int .i64 s.md) (.int .i64 s.tn) (.int .i64 s.td)
            have z10 := Blk.put11 z10 (.int .i64 k) (.string sn) (.int .i64 s.at_) (.int .i64 s.side) (.int .i64 s.legs) (.int .i64 s.ln) (.int .i64 s.ld) (.int .i64 s.mn) (.int .i64 s.md) (.int .i64 s.tn) (.int .i64 s.td)
            refine hK _ _ (Below.set11 hS5 hp10 _ _ _ _ _ _ _ _ _ _ _) ?_
            clear hK K
            refine wpW_end (by kernel_rfl) ?_
            intro wE hg hS
            unfold NQ
            dsimp only
            have z9 := z9.gr hg
            have z10 := z10.gr hg
            have zg := zg.gr hg
            exact H.out _ _ _ _ _ _ _ _ ⟨z9, z10, ⟨_, zg, hpre⟩, hp9, hp10, hgg, rfl, hc9, hc9'⟩ hS
    · refine wpOp_go (by rfl) (Eq.refl _) (by go_simp; done) ?_
      intro K hK
      go_simp
      try simp only [Act.put]
      have hp10 := Below.size hS2
      have z10 := Blk.new w2 46 (asC 0 ⟨#[]⟩ ⟨0, 0, 0, 0, 0, 0, 0, 0, 0⟩)
      try have z9 := Blk.alloc z9 (.cells (asC 0 ⟨#[]⟩ ⟨0, 0, 0, 0, 0, 0, 0, 0, 0⟩) 46 (0, 0))
      try have zg := Blk.alloc zg (.cells (asC 0 ⟨#[]⟩ ⟨0, 0, 0, 0, 0, 0, 0, 0, 0⟩) 46 (0, 0))
      refine hK _ _ (Below.alloc hS2 (Below.size hS2) _) ?_
      clear hK K
      refine wpW_branch [1] (by kernel_rfl) (by simp) ?_
      intro w3 hg3 hS3
      try have z9 := Blk.gr z9 hg3
      try have z10 := Blk.gr z10 hg3
      try have zg := Blk.gr zg hg3
      try (have zz := blk4 z9; obtain ⟨z0, z1, z2, z3, zf⟩ := zz)
      try have zzf := z10.frozen
      try have zzc := as_cells z10
      try obtain ⟨x0, x1, x2, x3, x4, x5, x6, x7, x8, x9, x10⟩ := zzc
      try have lz9 := z9.lt
      try have lz10 := z10.lt
      refine each_cons ?_ (each_nil)
      · refine wpOp_go (by rfl) (Eq.refl _) (by go_simp; done) ?_
        intro K hK
        go_simp
        try simp only [Act.put]
        have hj5 := HJ.out _ hS3
        refine (copyJoint_any j A c B _ hj5 HA.out hl).mono ?_
        rintro e w6 ⟨v, rfl, own6, hB6⟩
        obtain ⟨g, c9, cs, rfl, hge, zg, hpre, hc9, hc9'⟩ := copied_blk hl0 own6
        have hgg := Nat.le_trans (Below.size hS3) hge
        try have z9 := Blk.gr z9 hB6
        try have z10 := Blk.gr z10 hB6
        refine hK _ _ (Below.trans hS3 (hB6.mono (Below.size hS3))) ?_
        clear hK K own6 hj5 hge
        refine wpW_branch [5] (by kernel_rfl) (by simp) ?_
        intro w4 hg4 hS4
        try have z9 := Blk.gr z9 hg4
        try have z10 := Blk.gr z10 hg4
        try have zg := Blk.gr zg hg4
        try (have zz := blk4 z9; obtain ⟨z0, z1, z2, z3, zf⟩ := zz)
        try have zzf := z10.frozen
        try have zzc := as_cells z10
        try obtain ⟨x0, x1, x2, x3, x4, x5, x6, x7, x8, x9, x10⟩ := zzc
        try have lz9 := z9.lt
        try have lz10 := z10.lt
        refine each_cons ?_ (each_nil)
        · refine wpOp_go (by rfl) (Eq.refl _) (by go_simp; done) ?_
          intro K hK
          go_simp
          try simp only [Act.put]
          have z10 := Blk.far4 z10 (z10.ne_ z9 (by decide)) (.string j.nm) (.int .i64 j.thick) (.int .i64 j.zone) (.slice (some ⟨g, 0, none⟩) j.fs.length c9)
          have zg := Blk.far4 zg (zg.ne_ z9 (by decide)) (.string j.nm) (.int .i64 j.thick) (.int .i64 j.zone) (.slice (some ⟨g, 0, none⟩) j.fs.length c9)
          have z9 := Blk.set4 z9 (.string j.nm) (.int .i64 j.thick) (.int .i64 j.zone) (.slice (some ⟨g, 0, none⟩) j.fs.length c9)
          refine hK _ _ (Below.set4 hS4 hp9) ?_
          clear hK K z0 z1 z2 z3 zf lz9 lz10 zzf x0 x1 x2 x3 x4 x5 x6 x7 x8 x9 x10
          refine wpW_branch [6] (by kernel_rfl) (by simp) ?_
          intro w5 hg5 hS5
          try have z9 := Blk.gr z9 hg5
          try have z10 := Blk.gr z10 hg5
          try have zg := Blk.gr zg hg5
          try (have zz := blk4 z9; obtain ⟨z0, z1, z2, z3, zf⟩ := zz)
          try have zzf := z10.frozen
          try have zzc := as_cells z10
          try obtain ⟨x0, x1, x2, x3, x4, x5, x6, x7, x8, x9, x10⟩ := zzc
          try have lz9 := z9.lt
          try have lz10 := z10.lt
          refine each_cons ?_ (each_nil)
          · refine wpOp_go (by rfl) (Eq.refl _) (by go_simp; done) ?_
            intro K hK
            go_simp
            try simp only [Act.put]
            have z9 := Blk.far11 z9 (z9.ne_ z10 (by decide)) (.int .i64 k) (.string sn) (.int .i64 s.at_) (.int .i64 s.side) (.int .i64 s.legs) (.int .i64 s.ln) (.int .i64 s.ld) (.int .i64 s.mn) (.int .i64 s.md) (.int .i64 s.tn) (.int .i64 s.td)
            have zg := Blk.far11 zg (zg.ne_ z10 (by decide)) (.int .i64 k) (.string sn) (.int .i64 s.at_) (.int .i64 s.side) (.int .i64 s.legs) (.int .i64 s.ln) (.int .i64 s.ld) (.int .i64 s.mn) (.int .i64 s.md) (.int .i64 s.tn) (.int .i64 s.td)
            have z10 := Blk.put11 z10 (.int .i64 k) (.string sn) (.int .i64 s.at_) (.int .i64 s.side) (.int .i64 s.legs) (.int .i64 s.ln) (.int .i64 s.ld) (.int .i64 s.mn) (.int .i64 s.md) (.int .i64 s.tn) (.int .i64 s.td)
            refine hK _ _ (Below.set11 hS5 hp10 _ _ _ _ _ _ _ _ _ _ _) ?_
            clear hK K
            refine wpW_end (by kernel_rfl) ?_
            intro wE hg hS
            unfold NQ
            dsimp only
            have z9 := z9.gr hg
            have z10 := z10.gr hg
            have zg := zg.gr hg
            exact H.out _ _ _ _ _ _ _ _ ⟨z9, z10, ⟨_, zg, hpre⟩, hp9, hp10, hgg, rfl, hc9, hc9'⟩ hS
  · refine wpOp_go (by rfl) (Eq.refl _) (by go_simp; done) ?_
    intro K hK
    go_simp
    try simp only [Act.put]
    have hp10 := Below.size hS1
    have z10 := Blk.new w1 46 (asC 0 ⟨#[]⟩ ⟨0, 0, 0, 0, 0, 0, 0, 0, 0⟩)
    try have z9 := Blk.alloc z9 (.cells (asC 0 ⟨#[]⟩ ⟨0, 0, 0, 0, 0, 0, 0, 0, 0⟩) 46 (0, 0))
    try have zg := Blk.alloc zg (.cells (asC 0 ⟨#[]⟩ ⟨0, 0, 0, 0, 0, 0, 0, 0, 0⟩) 46 (0, 0))
    refine hK _ _ (Below.alloc hS1 (Below.size hS1) _) ?_
    clear hK K
    refine wpW_branch [1, 3] (by kernel_rfl) (by simp) ?_
    intro w2 hg2 hS2
    try have z9 := Blk.gr z9 hg2
    try have z10 := Blk.gr z10 hg2
    try have zg := Blk.gr zg hg2
    try (have zz := blk4 z9; obtain ⟨z0, z1, z2, z3, zf⟩ := zz)
    try have zzf := z10.frozen
    try have zzc := as_cells z10
    try obtain ⟨x0, x1, x2, x3, x4, x5, x6, x7, x8, x9, x10⟩ := zzc
    try have lz9 := z9.lt
    try have lz10 := z10.lt
    refine each_cons ?_ (each_cons ?_ (each_nil))
    · refine wpOp_go (by rfl) (Eq.refl _) (by go_simp; done) ?_
      intro K hK
      go_simp
      try simp only [Act.put]
      have hj5 := HJ.out _ hS2
      refine (copyJoint_any j A c B _ hj5 HA.out hl).mono ?_
      rintro e w6 ⟨v, rfl, own6, hB6⟩
      obtain ⟨g, c9, cs, rfl, hge, zg, hpre, hc9, hc9'⟩ := copied_blk hl0 own6
      have hgg := Nat.le_trans (Below.size hS2) hge
      try have z9 := Blk.gr z9 hB6
      try have z10 := Blk.gr z10 hB6
      refine hK _ _ (Below.trans hS2 (hB6.mono (Below.size hS2))) ?_
      clear hK K own6 hj5 hge
      refine wpW_branch [3] (by kernel_rfl) (by simp) ?_
      intro w3 hg3 hS3
      try have z9 := Blk.gr z9 hg3
      try have z10 := Blk.gr z10 hg3
      try have zg := Blk.gr zg hg3
      try (have zz := blk4 z9; obtain ⟨z0, z1, z2, z3, zf⟩ := zz)
      try have zzf := z10.frozen
      try have zzc := as_cells z10
      try obtain ⟨x0, x1, x2, x3, x4, x5, x6, x7, x8, x9, x10⟩ := zzc
      try have lz9 := z9.lt
      try have lz10 := z10.lt
      refine each_cons ?_ (each_nil)
      · refine wpOp_go (by rfl) (Eq.refl _) (by go_simp; done) ?_
        intro K hK
        go_simp
        try simp only [Act.put]
        have hp9 := Below.size hS3
        have z9 := Blk.new w3 24 #[.string ⟨#[]⟩, .int .i64 0, .int .i64 0, .slice none 0 0]
        try have z10 := Blk.alloc z10 (.cells #[.string ⟨#[]⟩, .int .i64 0, .int .i64 0, .slice none 0 0] 24 (0, 0))
        try have zg := Blk.alloc zg (.cells #[.string ⟨#[]⟩, .int .i64 0, .int .i64 0, .slice none 0 0] 24 (0, 0))
        refine hK _ _ (Below.alloc hS3 (Below.size hS3) _) ?_
        clear hK K
        refine wpW_branch [5] (by kernel_rfl) (by simp) ?_
        intro w4 hg4 hS4
        try have z9 := Blk.gr z9 hg4
        try have z10 := Blk.gr z10 hg4
        try have zg := Blk.gr zg hg4
        try (have zz := blk4 z9; obtain ⟨z0, z1, z2, z3, zf⟩ := zz)
        try have zzf := z10.frozen
        try have zzc := as_cells z10
        try obtain ⟨x0, x1, x2, x3, x4, x5, x6, x7, x8, x9, x10⟩ := zzc
        try have lz9 := z9.lt
        try have lz10 := z10.lt
        refine each_cons ?_ (each_nil)
        · refine wpOp_go (by rfl) (Eq.refl _) (by go_simp; done) ?_
          intro K hK
          go_simp
          try simp only [Act.put]
          have z10 := Blk.far4 z10 (z10.ne_ z9 (by decide)) (.string j.nm) (.int .i64 j.thick) (.int .i64 j.zone) (.slice (some ⟨g, 0, none⟩) j.fs.length c9)
          have zg := Blk.far4 zg (zg.ne_ z9 (by decide)) (.string j.nm) (.int .i64 j.thick) (.int .i64 j.zone) (.slice (some ⟨g, 0, none⟩) j.fs.length c9)
          have z9 := Blk.set4 z9 (.string j.nm) (.int .i64 j.thick) (.int .i64 j.zone) (.slice (some ⟨g, 0, none⟩) j.fs.length c9)
          refine hK _ _ (Below.set4 hS4 hp9) ?_
          clear hK K z0 z1 z2 z3 zf lz9 lz10 zzf x0 x1 x2 x3 x4 x5 x6 x7 x8 x9 x10
          refine wpW_branch [6] (by kernel_rfl) (by simp) ?_
          intro w5 hg5 hS5
          try have z9 := Blk.gr z9 hg5
          try have z10 := Blk.gr z10 hg5
          try have zg := Blk.gr zg hg5
          try (have zz := blk4 z9; obtain ⟨z0, z1, z2, z3, zf⟩ := zz)
          try have zzf := z10.frozen
          try have zzc := as_cells z10
          try obtain ⟨x0, x1, x2, x3, x4, x5, x6, x7, x8, x9, x10⟩ := zzc
          try have lz9 := z9.lt
          try have lz10 := z10.lt
          refine each_cons ?_ (each_nil)
          · refine wpOp_go (by rfl) (Eq.refl _) (by go_simp; done) ?_
            intro K hK
            go_simp
            try simp only [Act.put]
            have z9 := Blk.far11 z9 (z9.ne_ z10 (by decide)) (.int .i64 k) (.string sn) (.int .i64 s.at_) (.int .i64 s.side) (.int .i64 s.legs) (.int .i64 s.ln) (.int .i64 s.ld) (.int .i64 s.mn) (.int .i64 s.md) (.int .i64 s.tn) (.int .i64 s.td)
            have zg := Blk.far11 zg (zg.ne_ z10 (by decide)) (.int .i64 k) (.string sn) (.int .i64 s.at_) (.int .i64 s.side) (.int .i64 s.legs) (.int .i64 s.ln) (.int .i64 s.ld) (.int .i64 s.mn) (.int .i64 s.md) (.int .i64 s.tn) (.int .i64 s.td)
            have z10 := Blk.put11 z10 (.int .i64 k) (.string sn) (.int .i64 s.at_) (.int .i64 s.side) (.int .i64 s.legs) (.int .i64 s.ln) (.int .i64 s.ld) (.int .i64 s.mn) (.int .i64 s.md) (.int .i64 s.tn) (.int .i64 s.td)
            refine hK _ _ (Below.set11 hS5 hp10 _ _ _ _ _ _ _ _ _ _ _) ?_
            clear hK K
            refine wpW_end (by kernel_rfl) ?_
            intro wE hg hS
            unfold NQ
            dsimp only
            have z9 := z9.gr hg
            have z10 := z10.gr hg
            have zg := zg.gr hg
            exact H.out _ _ _ _ _ _ _ _ ⟨z9, z10, ⟨_, zg, hpre⟩, hp9, hp10, hgg, rfl, hc9, hc9'⟩ hS
    · refine wpOp_go (by rfl) (Eq.refl _) (by go_simp; done) ?_
      intro K hK
      go_simp
      try simp only [Act.put]
      have hp9 := Below.size hS2
      have z9 := Blk.new w2 24 #[.string ⟨#[]⟩, .int .i64 0, .int .i64 0, .slice none 0 0]
      try have z10 := Blk.alloc z10 (.cells #[.string ⟨#[]⟩, .int .i64 0, .int .i64 0, .slice none 0 0] 24 (0, 0))
      try have zg := Blk.alloc zg (.cells #[.string ⟨#[]⟩, .int .i64 0, .int .i64 0, .slice none 0 0] 24 (0, 0))
      refine hK _ _ (Below.alloc hS2 (Below.size hS2) _) ?_
      clear hK K
      refine wpW_branch [1] (by kernel_rfl) (by simp) ?_
      intro w3 hg3 hS3
      try have z9 := Blk.gr z9 hg3
      try have z10 := Blk.gr z10 hg3
      try have zg := Blk.gr zg hg3
      try (have zz := blk4 z9; obtain ⟨z0, z1, z2, z3, zf⟩ := zz)
      try have zzf := z10.frozen
      try have zzc := as_cells z10
      try obtain ⟨x0, x1, x2, x3, x4, x5, x6, x7, x8, x9, x10⟩ := zzc
      try have lz9 := z9.lt
      try have lz10 := z10.lt
      refine each_cons ?_ (each_nil)
      · refine wpOp_go (by rfl) (Eq.refl _) (by go_simp; done) ?_
        intro K hK
        go_simp
        try simp only [Act.put]
        have hj5 := HJ.out _ hS3
        refine (copyJoint_any j A c B _ hj5 HA.out hl).mono ?_
        rintro e w6 ⟨v, rfl, own6, hB6⟩
        obtain ⟨g, c9, cs, rfl, hge, zg, hpre, hc9, hc9'⟩ := copied_blk hl0 own6
        have hgg := Nat.le_trans (Below.size hS3) hge
        try have z9 := Blk.gr z9 hB6
        try have z10 := Blk.gr z10 hB6
        refine hK _ _ (Below.trans hS3 (hB6.mono (Below.size hS3))) ?_
        clear hK K own6 hj5 hge
        refine wpW_branch [5] (by kernel_rfl) (by simp) ?_
        intro w4 hg4 hS4
        try have z9 := Blk.gr z9 hg4
        try have z10 := Blk.gr z10 hg4
        try have zg := Blk.gr zg hg4
        try (have zz := blk4 z9; obtain ⟨z0, z1, z2, z3, zf⟩ := zz)
        try have zzf := z10.frozen
        try have zzc := as_cells z10
        try obtain ⟨x0, x1, x2, x3, x4, x5, x6, x7, x8, x9, x10⟩ := zzc
        try have lz9 := z9.lt
        try have lz10 := z10.lt
        refine each_cons ?_ (each_nil)
        · refine wpOp_go (by rfl) (Eq.refl _) (by go_simp; done) ?_
          intro K hK
          go_simp
          try simp only [Act.put]
          have z10 := Blk.far4 z10 (z10.ne_ z9 (by decide)) (.string j.nm) (.int .i64 j.thick) (.int .i64 j.zone) (.slice (some ⟨g, 0, none⟩) j.fs.length c9)
          have zg := Blk.far4 zg (zg.ne_ z9 (by decide)) (.string j.nm) (.int .i64 j.thick) (.int .i64 j.zone) (.slice (some ⟨g, 0, none⟩) j.fs.length c9)
          have z9 := Blk.set4 z9 (.string j.nm) (.int .i64 j.thick) (.int .i64 j.zone) (.slice (some ⟨g, 0, none⟩) j.fs.length c9)
          refine hK _ _ (Below.set4 hS4 hp9) ?_
          clear hK K z0 z1 z2 z3 zf lz9 lz10 zzf x0 x1 x2 x3 x4 x5 x6 x7 x8 x9 x10
          refine wpW_branch [6] (by kernel_rfl) (by simp) ?_
          intro w5 hg5 hS5
          try have z9 := Blk.gr z9 hg5
          try have z10 := Blk.gr z10 hg5
          try have zg := Blk.gr zg hg5
          try (have zz := blk4 z9; obtain ⟨z0, z1, z2, z3, zf⟩ := zz)
          try have zzf := z10.frozen
          try have zzc := as_cells z10
          try obtain ⟨x0, x1, x2, x3, x4, x5, x6, x7, x8, x9, x10⟩ := zzc
          try have lz9 := z9.lt
          try have lz10 := z10.lt
          refine each_cons ?_ (each_nil)
          · refine wpOp_go (by rfl) (Eq.refl _) (by go_simp; done) ?_
            intro K hK
            go_simp
            try simp only [Act.put]
            have z9 := Blk.far11 z9 (z9.ne_ z10 (by decide)) (.int .i64 k) (.string sn) (.int .i64 s.at_) (.int .i64 s.side) (.int .i64 s.legs) (.int .i64 s.ln) (.int .i64 s.ld) (.int .i64 s.mn) (.int .i64 s.md) (.int .i64 s.tn) (.int .i64 s.td)
            have zg := Blk.far11 zg (zg.ne_ z10 (by decide)) (.int .i64 k) (.string sn) (.int .i64 s.at_) (.int .i64 s.side) (.int .i64 s.legs) (.int .i64 s.ln) (.int .i64 s.ld) (.int .i64 s.mn) (.int .i64 s.md) (.int .i64 s.tn) (.int .i64 s.td)
            have z10 := Blk.put11 z10 (.int .i64 k) (.string sn) (.int .i64 s.at_) (.int .i64 s.side) (.int .i64 s.legs) (.int .i64 s.ln) (.int .i64 s.ld) (.int .i64 s.mn) (.int .i64 s.md) (.int .i64 s.tn) (.int .i64 s.td)
            refine hK _ _ (Below.set11 hS5 hp10 _ _ _ _ _ _ _ _ _ _ _) ?_
            clear hK K
            refine wpW_end (by kernel_rfl) ?_
            intro wE hg hS
            unfold NQ
            dsimp only
            have z9 := z9.gr hg
            have z10 := z10.gr hg
            have zg := zg.gr hg
            exact H.out _ _ _ _ _ _ _ _ ⟨z9, z10, ⟨_, zg, hpre⟩, hp9, hp10, hgg, rfl, hc9, hc9'⟩ hS
end Go.Proofs.YtfbnpfhnffahdaaGreatDoor
