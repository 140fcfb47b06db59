/- Loops of the law FlawGroupsAnyOrder. Outer loops of the law FlawGroupsAnyOrder. -/
import Derived.Test.YtidgeagpgllkeaaGreatFkE
namespace Go.Proofs.YtidgeagpgllkeaaGreat
open Go.RowKit Go.Shelf

theorem FillI.at_ {n : Nat} {f : Int → Int} {Ds : List Rw} (hQ : CanonG n (Ds.map (·.ns))) (hpl : ∀ a b : Int, 0 ≤ a ∧ a < n → 0 ≤ b ∧ b < n → (f a).toNat = (f b).toNat → a = b) (hpb : ∀ a : Int, 0 ≤ a ∧ a < n → (f a).toNat < n) {i k : Nat} {G : List Int} (hi : i < Ds.length) (hk : k < Ds[i].ns.length) (h : FillI n f (Ds.map (·.ns)) i k G) : FillI n f (Ds.map (·.ns)) i (k + 1) (G.set (f Ds[i].ns[k]).toNat (1 + (i : Int))) :=
  h.store hQ hpl hpb (g := Ds[i].ns) (by rw [List.getElem?_map, List.getElem?_eq_getElem hi]; rfl) hk
theorem FillI.nextD {n : Nat} {f : Int → Int} {Ds : List Rw} {i : Nat} {G : List Int} (hi : i < Ds.length) (h : FillI n f (Ds.map (·.ns)) i Ds[i].ns.length G) : FillI n f (Ds.map (·.ns)) (i + 1) 0 G :=
  h.next (by rw [List.getElem?_map, List.getElem?_eq_getElem hi]; rfl)
theorem canD {n : Nat} {Ds : List Rw} (hQ : CanonG n (Ds.map (·.ns))) {i : Nat} (hi : i < Ds.length) : (∀ x ∈ Ds[i].ns, 0 ≤ x ∧ x < n) ∧ 0 < Ds[i].ns.length := by
  have hm : Ds[i].ns ∈ Ds.map (·.ns) := List.mem_map_of_mem (f := (·.ns)) (List.getElem_mem hi)
  exact ⟨hQ.bd hm, List.length_pos_iff.2 (hQ.pos _ hm)⟩

set_option maxRecDepth 100000 in
set_option maxHeartbeats 4000000 in
/-- The numbers of a group are stored (loop 4). -/
theorem ordLoop4 {l : List Mk} {A : Option Addr} {c : Nat} {V wr0 : World} {p q : Nat} (hpq : p ≠ q) {Ds : List Rw} {AG : Option Addr} {cG BG : Nat} (hG : RwOk Ds AG BG V) (hBG : BG ≤ V.heap.size) (HC : Hid (CanonG l.length (Ds.map (·.ns)))) (hl8 : l.length ≤ 8) (hDl : Ds.length ≤ 8) {i : Nat} (hi : i < Ds.length) (hnl : Ds[i].ns.length ≤ 8) {G G' : List Int} (HF : Hid (FillI l.length id (Ds.map (·.ns)) i 0 G)) (M : FilM V p q l.length G G' wr0) {t1 t2 t3 t4 t5 t6 t7 t8 t9 t10 t11 t12 t14 t15 t16 t18 t21 t22 t23 t24 t25 t26 t27 t28 t29 t30 t31 t32 t33 t34 t35 t36 t37 t38 t39 t40 t41 t42 t43 t44 t45 t46 t47 t48 t49 t50 t51 t52 t53 t54 t55 t56 t57 t58 t59 t60 t61 t62 t63 t64 t65 t66 t67 t68 t69 t70 t71 t72 t73 t74 t75 t76 t77 t78 t79 t80 t81 t82 t83 t84 t85 t86 t87 t88 t89 t90 t91 t92 t93 t94 t95 t96 t97 t98 t99 t100 t101 t102 t103 t104 t105 t106 t107 t108 t109 t110 t111 t112 t113 t114 t115 t116 t117 t118 t119 t120 t121 t122 t123 t124 t125 t126 t127 t128 t129 t130 t131 t132 t133 t134 t135 t136 t137 t138 t139 t140 t141 t142 t143 t144 t145 t146 t147 t148 t149 t150 t151 t152 t153 t154 t155 t156 t157 t158 t159 t160 t161 t162 t163 t164 t165 t166 t167 t168 t169 t170 t171 t172 t173 t174 t175 t176 t177 t178 t179 t180 t181 t182 t183 t184 t185 t186 t187 t188 t189 t190 t191 t192 t193 t194 t195 t196 t197 t198 t199 t200 t201 t202 t203 t204 t205 t206 t207 t208 t209 t210 t211 t212 t213 t214 t215 t216 t217 t218 t219 t220 t221 t222 t223 t224 t225 t226 t227 t228 t229 t230 t231 t232 t233 t234 t235 t236 t237 t238 t239 t240 t241 t242 t243 t244 t245 t246 t247 t248 t249 t250 t251 t252 t253 t254 t255 t256 t257 t258 t259 t260 t261 t262 t263 t264 t265 t266 t267 t268 t269 t270 t271 t272 t273 t274 t275 t276 t277 t278 t279 t280 t281 t282 t283 t284 t285 t286 : Value} {ds : List Deferred} (Q' : Exit → Act → World → Prop)
    (h : ∀ (t6 t20 t129 t130 t131 t132 t133 t134 t135 t136 t137 t138 t139 t140 t141 t142 t143 t144 t145 t146 t147 t148 t149 t150 t151 t152 t153 t154 t155 t156 t157 t158 t159 t160 : Value) (G1 : List Int) (w' : World), Hid (FillI l.length id (Ds.map (·.ns)) i Ds[i].ns.length G1) → FilM V p q l.length G1 G' w' → Q' (.exit 6) ⟨#[.slice A l.length c, t1, t2, t3, t4, t5, t6, t7, t8, t9, t10, t11, t12, .slice AG Ds.length cG, t14, t15, t16, .slice (some ⟨p, 0, none⟩) l.length l.length, t18, .int .i64 (i : Int), t20, t21, t22, t23, t24, t25, t26, t27, t28, t29, t30, t31, t32, t33, t34, t35, t36, t37, t38, t39, t40, t41, t42, t43, t44, t45, t46, t47, t48, t49, t50, t51, t52, t53, t54, t55, t56, t57, t58, t59, t60, t61, t62, t63, t64, t65, t66, t67, t68, t69, t70, t71, t72, t73, t74, t75, t76, t77, t78, t79, t80, t81, t82, t83, t84, t85, t86, t87, t88, t89, t90, t91, t92, t93, t94, t95, t96, t97, t98, t99, t100, t101, t102, t103, t104, t105, t106, t107, t108, t109, t110, t111, t112, t113, t114, t115, t116, t117, t118, t119, t120, t121, t122, t123, t124, t125, t126, t127, t128, t129, t130, t131, t132, t133, t134, t135, t136, t137, t138, t139, t140, t141, t142, t143, t144, t145, t146, t147, t148, t149, t150, t151, t152, t153, t154, t155, t156, t157, t158, t159, t160, t161, t162, t163, t164, t165, t166, t167, t168, t169, t170, t171, t172, t173, t174, t175, t176, t177, t178, t179, t180, t181, t182, t183, t184, t185, t186, t187, t188, t189, t190, t191, t192, t193, t194, t195, t196, t197, t198, t199, t200, t201, t202, t203, t204, t205, t206, t207, t208, t209, t210, t211, t212, t213, t214, t215, t216, t217, t218, t219, t220, t221, t222, t223, t224, t225, t226, t227, t228, t229, t230, t231, t232, t233, t234, t235, t236, t237, t238, t239, t240, t241, t242, t243, t244, t245, t246, t247, t248, t249, t250, t251, t252, t253, t254, t255, t256, t257, t258, t259, t260, t261, t262, t263, t264, t265, t266, t267, t268, t269, t270, t271, t272, t273, t274, t275, t276, t277, t278, t279, t280, t281, t282, t283, t284, t285, t286], ds⟩ w') :
    (Code.loop (bodyOf Tryz.f8 3)).wp Tryz.prog Q' ⟨#[.slice A l.length c, t1, t2, t3, t4, t5, t6, t7, t8, t9, t10, t11, t12, .slice AG Ds.length cG, t14, t15, t16, .slice (some ⟨p, 0, none⟩) l.length l.length, t18, .int .i64 (i : Int), .int .i64 0, t21, t22, t23, t24, t25, t26, t27, t28, t29, t30, t31, t32, t33, t34, t35, t36, t37, t38, t39, t40, t41, t42, t43, t44, t45, t46, t47, t48, t49, t50, t51, t52, t53, t54, t55, t56, t57, t58, t59, t60, t61, t62, t63, t64, t65, t66, t67, t68, t69, t70, t71, t72, t73, t74, t75, t76, t77, t78, t79, t80, t81, t82, t83, t84, t85, t86, t87, t88, t89, t90, t91, t92, t93, t94, t95, t96, t97, t98, t99, t100, t101, t102, t103, t104, t105, t106, t107, t108, t109, t110, t111, t112, t113, t114, t115, t116, t117, t118, t119, t120, t121, t122, t123, t124, t125, t126, t127, t128, t129, t130, t131, t132, t133, t134, t135, t136, t137, t138, t139, t140, t141, t142, t143, t144, t145, t146, t147, t148, t149, t150, t151, t152, t153, t154, t155, t156, t157, t158, t159, t160, t161, t162, t163, t164, t165, t166, t167, t168, t169, t170, t171, t172, t173, t174, t175, t176, t177, t178, t179, t180, t181, t182, t183, t184, t185, t186, t187, t188, t189, t190, t191, t192, t193, t194, t195, t196, t197, t198, t199, t200, t201, t202, t203, t204, t205, t206, t207, t208, t209, t210, t211, t212, t213, t214, t215, t216, t217, t218, t219, t220, t221, t222, t223, t224, t225, t226, t227, t228, t229, t230, t231, t232, t233, t234, t235, t236, t237, t238, t239, t240, t241, t242, t243, t244, t245, t246, t247, t248, t249, t250, t251, t252, t253, t254, t255, t256, t257, t258, t259, t260, t261, t262, t263, t264, t265, t266, t267, t268, t269, t270, t271, t272, t273, t274, t275, t276, t277, t278, t279, t280, t281, t282, t283, t284, t285, t286], ds⟩ wr0 := by
  have H := Lib.hid h; clear h
  have HD := Lib.hid (canD HC.out hi).1
  have HST : Hid (∀ (k : Nat) (G : List Int) (y : Nat), Ds[i].ns[k]? = some (y : Int) → FillI l.length id (Ds.map (·.ns)) i k G → FillI l.length id (Ds.map (·.ns)) i (k + 1) (G.set y (1 + (i : Int)))) := Lib.hid (fun k G y hy hf => by
    obtain ⟨hk, hy⟩ := List.getElem?_eq_some_iff.1 hy
    have := FillI.at_ HC.out (f := id) (fun a b ha hb e => by simp at e; omega) (fun a ha => by simp; omega) hi hk hf
    simp only [id_eq, hy, Int.toNat_natCast] at this
    exact this)
  obtain ⟨g, o, b, cb, hA, hg, x0, rb⟩ := hG.at_ hi
  obtain ⟨ns, hns⟩ : ∃ ns, Ds[i].ns = ns := ⟨_, rfl⟩
  simp only [hns] at HD HST x0 rb hnl H
  clear hns
  subst hA
  have lg : g < V.heap.size := by omega
  have i1 : ((i : Int) < (Ds.length : Int)) := by omega
  have HY : Hid (∀ wr, Below V.heap.size V wr → wr.cell? ⟨g, o + i, none⟩ = some (.slice (some ⟨b, 0, none⟩) ns.length cb)) := Lib.hid (fun wr h => (h.cell (p := ⟨g, o + i, none⟩) lg).trans x0)
  clear x0
  conv in (bodyOf _ _) => whnf
  dsimp only
  go_loopw [20] (fun s20 wr => ∃ (k : Nat) (G : List Int), k ≤ ns.length ∧ s20 = .int .i64 k ∧ Hid (FillI l.length id (Ds.map (·.ns)) i k G) ∧ FilM V p q l.length G G' wr) (fun s20 _ => ns.length - (intOf s20).toNat)
  case atStart => exact ⟨0, G, Nat.zero_le _, by go_num, HF, M⟩
  case round =>
    clear M HF
    obtain ⟨k, G, hk, rfl, HF, M⟩ := hrel
    have hx := M.below
    have hzx := Below.size hx
    have lg' : g < wr.heap.size := by omega
    have x0 := HY.out wr hx
    by_cases hkl : k < ns.length
    · obtain ⟨b', o', e, hb, z0⟩ := intAtQ (rb.below hx hBG) hkl
      obtain ⟨rfl, rfl⟩ : b = b' ∧ 0 = o' := by simpa using e
      clear e
      rw [Nat.zero_add] at z0
      obtain ⟨y, hy⟩ : ∃ y : Nat, ns[k] = (y : Int) := ⟨ns[k].toNat, by have := HD.out _ (List.getElem_mem hkl); omega⟩
      have hyb := HD.out _ (List.getElem_mem hkl)
      have HX := Lib.hid (HST.out k G y (by rw [List.getElem?_eq_getElem hkl, hy]) HF.out)
      rw [hy] at z0 hyb
      clear hy
      have hlen := M.len1
      obtain ⟨old, hold⟩ : ∃ z, G[y]? = some z := ⟨G[y]'(by omega), List.getElem?_eq_getElem _⟩
      obtain ⟨m0, m1, m2⟩ := M.cell1 hold
      have M2 := M.put1 hpq y (1 + (i : Int))
      have hwi : wi (y : Int) 0 ((l.length : Int) - 1) = true := by simp [wi]; omega
      have HW := Lib.hid hwi
      have i2 : ((k : Int) < (ns.length : Int)) := by omega
      have i3 : ((y : Int) < (l.length : Int)) := by omega
      have lb : b < wr.heap.size := by omega
      clear hwi hold M hlen
      go_wp2_with (go_at_call 27; refine (bWithin_any _ _ _ _).mono ?_; rw [HW.out]; rintro e w1 ⟨rfl, rfl⟩)
      exact ⟨⟨k + 1, _, by omega, by go_num, HX, M2⟩, by simp [intOf]; omega⟩
    · obtain rfl : k = ns.length := by omega
      go_wp2
      exact H.out _ _ _ _ _ _ _ _ _ _ _ _ _ _ _ _ _ _ _ _ _ _ _ _ _ _ _ _ _ _ _ _ _ _ G wr HF M

set_option maxRecDepth 100000 in
set_option maxHeartbeats 4000000 in
/-- The places of the numbers of a group are stored (loop 5). -/
theorem ordLoop5 {l : List Mk} {A : Option Addr} {c : Nat} {V wr0 : World} {p q : Nat} (hpq : p ≠ q) {pl : List Int} {A10 : Option Addr} {c10 B10 : Nat} (hP : Row V B10 1 A10 pl.length (intsC pl)) (hB10 : B10 ≤ V.heap.size) (HO : Hid (OrdP l.length pl)) {Es : List Rw} {AH : Option Addr} {cH BH : Nat} (hG : RwOk Es AH BH V) (hBG : BH ≤ V.heap.size) (HC : Hid (CanonG l.length (Es.map (·.ns)))) (hl8 : l.length ≤ 8) (hDl : Es.length ≤ 8) {i : Nat} (hi : i < Es.length) (hnl : Es[i].ns.length ≤ 8) {G G' : List Int} (HF : Hid (FillI l.length (plAt pl) (Es.map (·.ns)) i 0 G')) (M : FilM V p q l.length G G' wr0) {t1 t2 t3 t4 t5 t6 t7 t8 t9 t11 t12 t13 t14 t16 t17 t20 t22 t23 t24 t25 t26 t27 t28 t29 t30 t31 t32 t33 t34 t35 t36 t37 t38 t39 t40 t41 t42 t43 t44 t45 t46 t47 t48 t49 t50 t51 t52 t53 t54 t55 t56 t57 t58 t59 t60 t61 t62 t63 t64 t65 t66 t67 t68 t69 t70 t71 t72 t73 t74 t75 t76 t77 t78 t79 t80 t81 t82 t83 t84 t85 t86 t87 t88 t89 t90 t91 t92 t93 t94 t95 t96 t97 t98 t99 t100 t101 t102 t103 t104 t105 t106 t107 t108 t109 t110 t111 t112 t113 t114 t115 t116 t117 t118 t119 t120 t121 t122 t123 t124 t125 t126 t127 t128 t129 t130 t131 t132 t133 t134 t135 t136 t137 t138 t139 t140 t141 t142 t143 t144 t145 t146 t147 t148 t149 t150 t151 t152 t153 t154 t155 t156 t157 t158 t159 t160 t161 t162 t163 t164 t165 t166 t167 t168 t169 t170 t171 t172 t173 t174 t175 t176 t177 t178 t179 t180 t181 t182 t183 t184 t185 t186 t187 t188 t189 t190 t191 t192 t193 t194 t195 t196 t197 t198 t199 t200 t201 t202 t203 t204 t205 t206 t207 t208 t209 t210 t211 t212 t213 t214 t215 t216 t217 t218 t219 t220 t221 t222 t223 t224 t225 t226 t227 t228 t229 t230 t231 t232 t233 t234 t235 t236 t237 t238 t239 t240 t241 t242 t243 t244 t245 t246 t247 t248 t249 t250 t251 t252 t253 t254 t255 t256 t257 t258 t259 t260 t261 t262 t263 t264 t265 t266 t267 t268 t269 t270 t271 t272 t273 t274 t275 t276 t277 t278 t279 t280 t281 t282 t283 t284 t285 t286 : Value} {ds : List Deferred} (Q' : Exit → Act → World → Prop)
    (h : ∀ (t6 t21 t161 t162 t163 t164 t165 t166 t167 t168 t169 t170 t171 t172 t173 t174 t175 t176 t177 t178 t179 t180 t181 t182 t183 t184 t185 t186 t187 t188 t189 t190 t191 t192 t193 t194 t195 : Value) (G1 : List Int) (w' : World), Hid (FillI l.length (plAt pl) (Es.map (·.ns)) i Es[i].ns.length G1) → FilM V p q l.length G G1 w' → Q' (.exit 8) ⟨#[.slice A l.length c, t1, t2, t3, t4, t5, t6, t7, t8, t9, .slice A10 pl.length c10, t11, t12, t13, t14, .slice AH Es.length cH, t16, t17, .slice (some ⟨q, 0, none⟩) l.length l.length, .int .i64 (i : Int), t20, t21, t22, t23, t24, t25, t26, t27, t28, t29, t30, t31, t32, t33, t34, t35, t36, t37, t38, t39, t40, t41, t42, t43, t44, t45, t46, t47, t48, t49, t50, t51, t52, t53, t54, t55, t56, t57, t58, t59, t60, t61, t62, t63, t64, t65, t66, t67, t68, t69, t70, t71, t72, t73, t74, t75, t76, t77, t78, t79, t80, t81, t82, t83, t84, t85, t86, t87, t88, t89, t90, t91, t92, t93, t94, t95, t96, t97, t98, t99, t100, t101, t102, t103, t104, t105, t106, t107, t108, t109, t110, t111, t112, t113, t114, t115, t116, t117, t118, t119, t120, t121, t122, t123, t124, t125, t126, t127, t128, t129, t130, t131, t132, t133, t134, t135, t136, t137, t138, t139, t140, t141, t142, t143, t144, t145, t146, t147, t148, t149, t150, t151, t152, t153, t154, t155, t156, t157, t158, t159, t160, t161, t162, t163, t164, t165, t166, t167, t168, t169, t170, t171, t172, t173, t174, t175, t176, t177, t178, t179, t180, t181, t182, t183, t184, t185, t186, t187, t188, t189, t190, t191, t192, t193, t194, t195, t196, t197, t198, t199, t200, t201, t202, t203, t204, t205, t206, t207, t208, t209, t210, t211, t212, t213, t214, t215, t216, t217, t218, t219, t220, t221, t222, t223, t224, t225, t226, t227, t228, t229, t230, t231, t232, t233, t234, t235, t236, t237, t238, t239, t240, t241, t242, t243, t244, t245, t246, t247, t248, t249, t250, t251, t252, t253, t254, t255, t256, t257, t258, t259, t260, t261, t262, t263, t264, t265, t266, t267, t268, t269, t270, t271, t272, t273, t274, t275, t276, t277, t278, t279, t280, t281, t282, t283, t284, t285, t286], ds⟩ w') :
    (Code.loop (bodyOf Tryz.f8 4)).wp Tryz.prog Q' ⟨#[.slice A l.length c, t1, t2, t3, t4, t5, t6, t7, t8, t9, .slice A10 pl.length c10, t11, t12, t13, t14, .slice AH Es.length cH, t16, t17, .slice (some ⟨q, 0, none⟩) l.length l.length, .int .i64 (i : Int), t20, .int .i64 0, t22, t23, t24, t25, t26, t27, t28, t29, t30, t31, t32, t33, t34, t35, t36, t37, t38, t39, t40, t41, t42, t43, t44, t45, t46, t47, t48, t49, t50, t51, t52, t53, t54, t55, t56, t57, t58, t59, t60, t61, t62, t63, t64, t65, t66, t67, t68, t69, t70, t71, t72, t73, t74, t75, t76, t77, t78, t79, t80, t81, t82, t83, t84, t85, t86, t87, t88, t89, t90, t91, t92, t93, t94, t95, t96, t97, t98, t99, t100, t101, t102, t103, t104, t105, t106, t107, t108, t109, t110, t111, t112, t113, t114, t115, t116, t117, t118, t119, t120, t121, t122, t123, t124, t125, t126, t127, t128, t129, t130, t131, t132, t133, t134, t135, t136, t137, t138, t139, t140, t141, t142, t143, t144, t145, t146, t147, t148, t149, t150, t151, t152, t153, t154, t155, t156, t157, t158, t159, t160, t161, t162, t163, t164, t165, t166, t167, t168, t169, t170, t171, t172, t173, t174, t175, t176, t177, t178, t179, t180, t181, t182, t183, t184, t185, t186, t187, t188, t189, t190, t191, t192, t193, t194, t195, t196, t197, t198, t199, t200, t201, t202, t203, t204, t205, t206, t207, t208, t209, t210, t211, t212, t213, t214, t215, t216, t217, t218, t219, t220, t221, t222, t223, t224, t225, t226, t227, t228, t229, t230, t231, t232, t233, t234, t235, t236, t237, t238, t239, t240, t241, t242, t243, t244, t245, t246, t247, t248, t249, t250, t251, t252, t253, t254, t255, t256, t257, t258, t259, t260, t261, t262, t263, t264, t265, t266, t267, t268, t269, t270, t271, t272, t273, t274, t275, t276, t277, t278, t279, t280, t281, t282, t283, t284, t285, t286], ds⟩ wr0 := by
  have H := Lib.hid h; clear h
  have HD := Lib.hid (canD HC.out hi).1
  have hpll : pl.length = l.length := HO.out.len
  have HPL := Lib.hid hpll
  have HST : Hid (∀ (k : Nat) (G : List Int) (y z : Nat), Es[i].ns[k]? = some (y : Int) → plAt pl (y : Int) = (z : Int) → FillI l.length (plAt pl) (Es.map (·.ns)) i k G → FillI l.length (plAt pl) (Es.map (·.ns)) i (k + 1) (G.set z (1 + (i : Int)))) := Lib.hid (fun k G y z hy hz hf => by
    obtain ⟨hk, hy⟩ := List.getElem?_eq_some_iff.1 hy
    have := FillI.at_ HC.out (f := plAt pl) (fun a b ha hb e => HO.out.inj ha hb (by have := (HO.out.at_ ha).2; have := (HO.out.at_ hb).2; omega)) (fun a ha => by have := (HO.out.at_ ha).2; omega) hi hk hf
    rw [hy, hz, Int.toNat_natCast] at this
    exact this)
  clear hpll
  obtain ⟨g, o, b, cb, hA, hg, x0, rb⟩ := hG.at_ hi
  obtain ⟨ns, hns⟩ : ∃ ns, Es[i].ns = ns := ⟨_, rfl⟩
  simp only [hns] at HD HST x0 rb hnl H
  clear hns
  subst hA
  have lg : g < V.heap.size := by omega
  have i1 : ((i : Int) < (Es.length : Int)) := by omega
  have HY : Hid (∀ wr, Below V.heap.size V wr → wr.cell? ⟨g, o + i, none⟩ = some (.slice (some ⟨b, 0, none⟩) ns.length cb)) := Lib.hid (fun wr h => (h.cell (p := ⟨g, o + i, none⟩) lg).trans x0)
  clear x0
  conv in (bodyOf _ _) => whnf
  dsimp only
  go_loopw [21] (fun s21 wr => ∃ (k : Nat) (G' : List Int), k ≤ ns.length ∧ s21 = .int .i64 k ∧ Hid (FillI l.length (plAt pl) (Es.map (·.ns)) i k G') ∧ FilM V p q l.length G G' wr) (fun s21 _ => ns.length - (intOf s21).toNat)
  case atStart => exact ⟨0, G', Nat.zero_le _, by go_num, HF, M⟩
  case round =>
    clear M HF
    obtain ⟨k, G', hk, rfl, HF, M⟩ := hrel
    have hx := M.below
    have hzx := Below.size hx
    have lg' : g < wr.heap.size := by omega
    have x0 := HY.out wr hx
    by_cases hkl : k < ns.length
    · obtain ⟨b', o', e, hb, z0⟩ := intAtQ (rb.below hx hBG) hkl
      obtain ⟨rfl, rfl⟩ : b = b' ∧ 0 = o' := by simpa using e
      clear e
      rw [Nat.zero_add] at z0
      obtain ⟨y, hy⟩ : ∃ y : Nat, ns[k] = (y : Int) := ⟨ns[k].toNat, by have := HD.out _ (List.getElem_mem hkl); omega⟩
      have hyb := HD.out _ (List.getElem_mem hkl)
      obtain ⟨hat, hz1, hz2⟩ := HO.out.at_ hyb
      obtain ⟨z, hz⟩ : ∃ z : Nat, plAt pl ns[k] = (z : Int) := ⟨(plAt pl ns[k]).toNat, by omega⟩
      have HX := Lib.hid (HST.out k G' y z (by rw [List.getElem?_eq_getElem hkl, hy]) (by rw [← hy]; exact hz) HF.out)
      rw [hz] at hat hz2
      rw [hy] at z0 hyb hat
      clear hy hz hz1
      rw [Int.toNat_natCast] at hat
      have hypl : y < pl.length := by rw [HPL.out]; omega
      obtain ⟨gp, op, hAp, hgp, p0⟩ := intAtQ (hP.below hx hB10) hypl
      have hpe : pl[y] = (z : Int) := by rw [List.getElem?_eq_getElem hypl] at hat; simpa using hat
      rw [hpe] at p0
      clear hat hpe
      subst hAp
      have hlen := M.len2
      obtain ⟨old, hold⟩ : ∃ x, G'[z]? = some x := ⟨G'[z]'(by omega), List.getElem?_eq_getElem _⟩
      obtain ⟨m0, m1, m2⟩ := M.cell2 hold
      have M2 := M.put2 hpq z (1 + (i : Int))
      have hwi : wi (y : Int) 0 ((l.length : Int) - 1) = true := by simp [wi]; omega
      have HW := Lib.hid hwi
      have i2 : ((k : Int) < (ns.length : Int)) := by omega
      have i3 : ((z : Int) < (l.length : Int)) := by omega
      have i4 : ((y : Int) < (pl.length : Int)) := by omega
      have lb : b < wr.heap.size := by omega
      have lgp : gp < wr.heap.size := by omega
      clear hwi hold M hlen
      go_wp2_with (go_at_call 27; refine (bWithin_any _ _ _ _).mono ?_; rw [HW.out]; rintro e w1 ⟨rfl, rfl⟩)
      exact ⟨⟨k + 1, _, by omega, by go_num, HX, M2⟩, by simp [intOf]; omega⟩
    · obtain rfl : k = ns.length := by omega
      go_wp2
      exact H.out _ _ _ _ _ _ _ _ _ _ _ _ _ _ _ _ _ _ _ _ _ _ _ _ _ _ _ _ _ _ _ _ _ _ _ _ _ G' wr HF M
end Go.Proofs.YtidgeagpgllkeaaGreat

namespace Go.Proofs.YtidgeagpgllkeaaGreat
open Go.RowKit Go.Shelf

set_option maxRecDepth 100000 in
set_option maxHeartbeats 4000000 in
/-- The numbers of all groups (loop 3). -/
theorem ordLoop3 {l : List Mk} {A : Option Addr} {c : Nat} {V wr0 : World} {p q : Nat} (hpq : p ≠ q) {pl : List Int} {A10 : Option Addr} {c10 B10 : Nat} (hP : Row V B10 1 A10 pl.length (intsC pl)) (hB10 : B10 ≤ V.heap.size) (HO : Hid (OrdP l.length pl)) {Ds Es : List Rw} {AG AH : Option Addr} {cG BG cH BH : Nat} (hG : RwOk Ds AG BG V) (hBG : BG ≤ V.heap.size) (HC : Hid (CanonG l.length (Ds.map (·.ns)))) (hH : RwOk Es AH BH V) (hBH : BH ≤ V.heap.size) (HE : Hid (CanonG l.length (Es.map (·.ns)))) (hl8 : l.length ≤ 8) (hDl : Ds.length ≤ 8) (HEL : Hid (Es.length = Ds.length)) (HDN : Hid (∀ q ∈ Ds, q.ns.length ≤ 8)) (HEN : Hid (∀ q ∈ Es, q.ns.length ≤ 8)) {G G' : List Int} (HF : Hid (FillI l.length id (Ds.map (·.ns)) 0 0 G)) (HF' : Hid (FillI l.length (plAt pl) (Es.map (·.ns)) 0 0 G')) (M : FilM V p q l.length G G' wr0) {t1 t2 t3 t4 t5 t6 t7 t8 t9 t11 t12 t14 t16 t20 t21 t22 t23 t24 t25 t26 t27 t28 t29 t30 t31 t32 t33 t34 t35 t36 t37 t38 t39 t40 t41 t42 t43 t44 t45 t46 t47 t48 t49 t50 t51 t52 t53 t54 t55 t56 t57 t58 t59 t60 t61 t62 t63 t64 t65 t66 t67 t68 t69 t70 t71 t72 t73 t74 t75 t76 t77 t78 t79 t80 t81 t82 t83 t84 t85 t86 t87 t88 t89 t90 t91 t92 t93 t94 t95 t96 t97 t98 t99 t100 t101 t102 t103 t104 t105 t106 t107 t108 t109 t110 t111 t112 t113 t114 t115 t116 t117 t118 t119 t120 t121 t122 t123 t124 t125 t126 t127 t128 t129 t130 t131 t132 t133 t134 t135 t136 t137 t138 t139 t140 t141 t142 t143 t144 t145 t146 t147 t148 t149 t150 t151 t152 t153 t154 t155 t156 t157 t158 t159 t160 t161 t162 t163 t164 t165 t166 t167 t168 t169 t170 t171 t172 t173 t174 t175 t176 t177 t178 t179 t180 t181 t182 t183 t184 t185 t186 t187 t188 t189 t190 t191 t192 t193 t194 t195 t196 t197 t198 t199 t200 t201 t202 t203 t204 t205 t206 t207 t208 t209 t210 t211 t212 t213 t214 t215 t216 t217 t218 t219 t220 t221 t222 t223 t224 t225 t226 t227 t228 t229 t230 t231 t232 t233 t234 t235 t236 t237 t238 t239 t240 t241 t242 t243 t244 t245 t246 t247 t248 t249 t250 t251 t252 t253 t254 t255 t256 t257 t258 t259 t260 t261 t262 t263 t264 t265 t266 t267 t268 t269 t270 t271 t272 t273 t274 t275 t276 t277 t278 t279 t280 t281 t282 t283 t284 t285 t286 : Value} {ds : List Deferred} (Q' : Exit → Act → World → Prop)
    (h : ∀ (t6 t19 t20 t21 t123 t124 t125 t126 t127 t128 t129 t130 t131 t132 t133 t134 t135 t136 t137 t138 t139 t140 t141 t142 t143 t144 t145 t146 t147 t148 t149 t150 t151 t152 t153 t154 t155 t156 t157 t158 t159 t160 t161 t162 t163 t164 t165 t166 t167 t168 t169 t170 t171 t172 t173 t174 t175 t176 t177 t178 t179 t180 t181 t182 t183 t184 t185 t186 t187 t188 t189 t190 t191 t192 t193 t194 t195 t196 t197 t198 t199 t200 t201 t202 t203 t204 t205 t206 t207 t208 t209 : Value) (G1 G2 : List Int) (w' : World), Hid (FillI l.length id (Ds.map (·.ns)) Ds.length 0 G1) → Hid (FillI l.length (plAt pl) (Es.map (·.ns)) Es.length 0 G2) → FilM V p q l.length G1 G2 w' → Q' (.exit 4) ⟨#[.slice A l.length c, t1, t2, t3, t4, t5, t6, t7, t8, t9, .slice A10 pl.length c10, t11, t12, .slice AG Ds.length cG, t14, .slice AH Es.length cH, t16, .slice (some ⟨p, 0, none⟩) l.length l.length, .slice (some ⟨q, 0, none⟩) l.length l.length, t19, t20, t21, t22, t23, t24, t25, t26, t27, t28, t29, t30, t31, t32, t33, t34, t35, t36, t37, t38, t39, t40, t41, t42, t43, t44, t45, t46, t47, t48, t49, t50, t51, t52, t53, t54, t55, t56, t57, t58, t59, t60, t61, t62, t63, t64, t65, t66, t67, t68, t69, t70, t71, t72, t73, t74, t75, t76, t77, t78, t79, t80, t81, t82, t83, t84, t85, t86, t87, t88, t89, t90, t91, t92, t93, t94, t95, t96, t97, t98, t99, t100, t101, t102, t103, t104, t105, t106, t107, t108, t109, t110, t111, t112, t113, t114, t115, t116, t117, t118, t119, t120, t121, t122, t123, t124, t125, t126, t127, t128, t129, t130, t131, t132, t133, t134, t135, t136, t137, t138, t139, t140, t141, t142, t143, t144, t145, t146, t147, t148, t149, t150, t151, t152, t153, t154, t155, t156, t157, t158, t159, t160, t161, t162, t163, t164, t165, t166, t167, t168, t169, t170, t171, t172, t173, t174, t175, t176, t177, t178, t179, t180, t181, t182, t183, t184, t185, t186, t187, t188, t189, t190, t191, t192, t193, t194, t195, t196, t197, t198, t199, t200, t201, t202, t203, t204, t205, t206, t207, t208, t209, t210, t211, t212, t213, t214, t215, t216, t217, t218, t219, t220, t221, t222, t223, t224, t225, t226, t227, t228, t229, t230, t231, t232, t233, t234, t235, t236, t237, t238, t239, t240, t241, t242, t243, t244, t245, t246, t247, t248, t249, t250, t251, t252, t253, t254, t255, t256, t257, t258, t259, t260, t261, t262, t263, t264, t265, t266, t267, t268, t269, t270, t271, t272, t273, t274, t275, t276, t277, t278, t279, t280, t281, t282, t283, t284, t285, t286], ds⟩ w') :
    (Code.loop (bodyOf Tryz.f8 2)).wp Tryz.prog Q' ⟨#[.slice A l.length c, t1, t2, t3, t4, t5, t6, t7, t8, t9, .slice A10 pl.length c10, t11, t12, .slice AG Ds.length cG, t14, .slice AH Es.length cH, t16, .slice (some ⟨p, 0, none⟩) l.length l.length, .slice (some ⟨q, 0, none⟩) l.length l.length, .int .i64 0, t20, t21, t22, t23, t24, t25, t26, t27, t28, t29, t30, t31, t32, t33, t34, t35, t36, t37, t38, t39, t40, t41, t42, t43, t44, t45, t46, t47, t48, t49, t50, t51, t52, t53, t54, t55, t56, t57, t58, t59, t60, t61, t62, t63, t64, t65, t66, t67, t68, t69, t70, t71, t72, t73, t74, t75, t76, t77, t78, t79, t80, t81, t82, t83, t84, t85, t86, t87, t88, t89, t90, t91, t92, t93, t94, t95, t96, t97, t98, t99, t100, t101, t102, t103, t104, t105, t106, t107, t108, t109, t110, t111, t112, t113, t114, t115, t116, t117, t118, t119, t120, t121, t122, t123, t124, t125, t126, t127, t128, t129, t130, t131, t132, t133, t134, t135, t136, t137, t138, t139, t140, t141, t142, t143, t144, t145, t146, t147, t148, t149, t150, t151, t152, t153, t154, t155, t156, t157, t158, t159, t160, t161, t162, t163, t164, t165, t166, t167, t168, t169, t170, t171, t172, t173, t174, t175, t176, t177, t178, t179, t180, t181, t182, t183, t184, t185, t186, t187, t188, t189, t190, t191, t192, t193, t194, t195, t196, t197, t198, t199, t200, t201, t202, t203, t204, t205, t206, t207, t208, t209, t210, t211, t212, t213, t214, t215, t216, t217, t218, t219, t220, t221, t222, t223, t224, t225, t226, t227, t228, t229, t230, t231, t232, t233, t234, t235, t236, t237, t238, t239, t240, t241, t242, t243, t244, t245, t246, t247, t248, t249, t250, t251, t252, t253, t254, t255, t256, t257, t258, t259, t260, t261, t262, t263, t264, t265, t266, t267, t268, t269, t270, t271, t272, t273, t274, t275, t276, t277, t278, t279, t280, t281, t282, t283, t284, t285, t286], ds⟩ wr0 := by
  have H := Lib.hid h; clear h
  conv in (bodyOf _ _) => whnf
  dsimp only
  go_loopw [19] (fun s19 wr => ∃ (i : Nat) (G G' : List Int), i ≤ Ds.length ∧ s19 = .int .i64 i ∧ Hid (FillI l.length id (Ds.map (·.ns)) i 0 G) ∧ Hid (FillI l.length (plAt pl) (Es.map (·.ns)) i 0 G') ∧ FilM V p q l.length G G' wr) (fun s19 _ => Ds.length - (intOf s19).toNat)
  case atStart => exact ⟨0, G, G', Nat.zero_le _, by go_num, HF, HF', M⟩
  case round =>
    clear M HF HF'
    obtain ⟨i, G, G', hi, rfl, HF, HF', M⟩ := hrel
    by_cases hlt : i < Ds.length
    · have hltE : i < Es.length := by rw [HEL.out]; exact hlt
      have hx := M.below
      obtain ⟨g, o, b, cb, hA, hg, x0, _⟩ := hG.at_ hlt
      obtain ⟨g2, o2, b2, cb2, hA2, hg2, y0, _⟩ := hH.at_ hltE
      have i1 : ((i : Int) < (Ds.length : Int)) := by omega
      have i2 : ((i : Int) < (Es.length : Int)) := by omega
      have hpD := (canD HC.out hlt).2
      have hpE := (canD HE.out hltE).2
      have HNX := Lib.hid (fun (G1 : List Int) (h : FillI l.length id (Ds.map (·.ns)) i Ds[i].ns.length G1) => h.nextD hlt)
      have HNX' := Lib.hid (fun (G1 : List Int) (h : FillI l.length (plAt pl) (Es.map (·.ns)) i Es[i].ns.length G1) => h.nextD hltE)
      have lg : g < V.heap.size := by omega
      have lg2 : g2 < V.heap.size := by omega
      have HDi := HDN.out _ (List.getElem_mem hlt)
      have HEi := HEN.out _ (List.getElem_mem hltE)
      have HY : Hid (∀ wr, Below V.heap.size V wr → wr.cell? ⟨g, o + i, none⟩ = some (.slice (some ⟨b, 0, none⟩) Ds[i].ns.length cb) ∧ wr.cell? ⟨g2, o2 + i, none⟩ = some (.slice (some ⟨b2, 0, none⟩) Es[i].ns.length cb2)) := Lib.hid (fun wr h => ⟨(h.cell (p := ⟨g, o + i, none⟩) lg).trans x0, (h.cell (p := ⟨g2, o2 + i, none⟩) lg2).trans y0⟩)
      have hn1 : ((Ds[i].ns.length : Int) == 0) = false := beq_eq_false_iff_ne.2 (by omega)
      have hn2 : ((Es[i].ns.length : Int) == 0) = false := beq_eq_false_iff_ne.2 (by omega)
      clear x0 y0
      subst hA; subst hA2
      have hl4 := ordLoop4 (A := A) (c := c) (wr0 := wr) (G' := G') hpq (cG := cG) hG hBG HC hl8 hDl hlt HDi HF
      have hl5 := fun (w1 : World) (G1 : List Int) => @ordLoop5 l A c V w1 p q hpq pl A10 c10 B10 hP hB10 HO Es _ cH BH hH hBH HE hl8 (by rw [HEL.out]; exact hDl) i hltE HEi G1 G' HF'
      go_wp2
      unfold bodyOf at hl4
      conv at hl4 in (Option.getD _ Code.skip) => whnf
      refine hl4 M _ ?_
      clear hl4 M hx
      intro t6 t20 t129 t130 t131 t132 t133 t134 t135 t136 t137 t138 t139 t140 t141 t142 t143 t144 t145 t146 t147 t148 t149 t150 t151 t152 t153 t154 t155 t156 t157 t158 t159 t160 G1 w1 HG1 M
      have H1 := Lib.hid (HNX.out G1 HG1.out)
      go_wp2
      have hl5 := hl5 w1 G1
      unfold bodyOf at hl5
      conv at hl5 in (Option.getD _ Code.skip) => whnf
      refine hl5 M _ ?_
      clear hl5 M
      intro t6 t21 t161 t162 t163 t164 t165 t166 t167 t168 t169 t170 t171 t172 t173 t174 t175 t176 t177 t178 t179 t180 t181 t182 t183 t184 t185 t186 t187 t188 t189 t190 t191 t192 t193 t194 t195 G2 w2 HG2 M
      have H2 := Lib.hid (HNX'.out G2 HG2.out)
      have hx := M.below
      have hzx := Below.size hx
      have lg' : g < w2.heap.size := by omega
      have lg2' : g2 < w2.heap.size := by omega
      obtain ⟨x0, y0⟩ := HY.out w2 hx
      go_wp2
      exact ⟨⟨i + 1, G1, G2, by omega, by go_num, H1, H2, M⟩, by simp [intOf]; omega⟩
    · obtain rfl : i = Ds.length := by omega
      rw [← HEL.out] at HF'
      go_wp2
      exact H.out _ _ _ _ _ _ _ _ _ _ _ _ _ _ _ _ _ _ _ _ _ _ _ _ _ _ _ _ _ _ _ _ _ _ _ _ _ _ _ _ _ _ _ _ _ _ _ _ _ _ _ _ _ _ _ _ _ _ _ _ _ _ _ _ _ _ _ _ _ _ _ _ _ _ _ _ _ _ _ _ _ _ _ _ _ _ _ _ _ _ _ G G' wr HF HF' M

set_option maxRecDepth 100000 in
set_option maxHeartbeats 4000000 in
/-- A mark's groups are compared with the ones before (loop 7). -/
theorem ordLoop7 {l : List Mk} {A : Option Addr} {c : Nat} {V wr0 : World} {p q : Nat} {G G' : List Int} (M : FilM V p q l.length G G' wr0) (HS : Hid (∀ i k : Nat, i < l.length → k < l.length → ∃ fi fk si sk : Int, G[i]? = some fi ∧ G[k]? = some fk ∧ G'[i]? = some si ∧ G'[k]? = some sk ∧ fi ≠ 0 ∧ si ≠ 0 ∧ (fi = fk ↔ si = sk))) (hl8 : l.length ≤ 8) {i : Nat} (hi : i < l.length) {t1 t2 t3 t4 t5 t6 t7 t8 t9 t10 t11 t12 t13 t14 t15 t16 t19 t20 t21 t24 t25 t26 t27 t28 t29 t30 t31 t32 t33 t34 t35 t36 t37 t38 t39 t40 t41 t42 t43 t44 t45 t46 t47 t48 t49 t50 t51 t52 t53 t54 t55 t56 t57 t58 t59 t60 t61 t62 t63 t64 t65 t66 t67 t68 t69 t70 t71 t72 t73 t74 t75 t76 t77 t78 t79 t80 t81 t82 t83 t84 t85 t86 t87 t88 t89 t90 t91 t92 t93 t94 t95 t96 t97 t98 t99 t100 t101 t102 t103 t104 t105 t106 t107 t108 t109 t110 t111 t112 t113 t114 t115 t116 t117 t118 t119 t120 t121 t122 t123 t124 t125 t126 t127 t128 t129 t130 t131 t132 t133 t134 t135 t136 t137 t138 t139 t140 t141 t142 t143 t144 t145 t146 t147 t148 t149 t150 t151 t152 t153 t154 t155 t156 t157 t158 t159 t160 t161 t162 t163 t164 t165 t166 t167 t168 t169 t170 t171 t172 t173 t174 t175 t176 t177 t178 t179 t180 t181 t182 t183 t184 t185 t186 t187 t188 t189 t190 t191 t192 t193 t194 t195 t196 t197 t198 t199 t200 t201 t202 t203 t204 t205 t206 t207 t208 t209 t210 t211 t212 t213 t214 t215 t216 t217 t218 t219 t220 t221 t222 t223 t224 t225 t226 t227 t228 t229 t230 t231 t232 t233 t234 t235 t236 t237 t238 t239 t240 t241 t242 t243 t244 t245 t246 t247 t248 t249 t250 t251 t252 t253 t254 t255 t256 t257 t258 t259 t260 t261 t262 t263 t264 t265 t266 t267 t268 t269 t270 t271 t272 t273 t274 t275 t276 t277 t278 t279 t280 t281 t282 t283 t284 t285 t286 : Value} {ds : List Deferred} (Q' : Exit → Act → World → Prop)
    (h : ∀ (t6 t23 t216 t217 t218 t219 t220 t221 t222 t223 t224 t225 t226 t227 t228 t229 t230 t231 t232 t233 t234 t235 t236 t237 t238 t239 t240 t241 t242 t243 t244 t245 t246 t247 t248 t249 t250 t251 t252 t253 : Value) (w' : World), FilM V p q l.length G G' w' → Q' (.exit 12) ⟨#[.slice A l.length c, t1, t2, t3, t4, t5, t6, t7, t8, t9, t10, t11, t12, t13, t14, t15, t16, .slice (some ⟨p, 0, none⟩) l.length l.length, .slice (some ⟨q, 0, none⟩) l.length l.length, t19, t20, t21, .int .i64 (i : Int), t23, t24, t25, t26, t27, t28, t29, t30, t31, t32, t33, t34, t35, t36, t37, t38, t39, t40, t41, t42, t43, t44, t45, t46, t47, t48, t49, t50, t51, t52, t53, t54, t55, t56, t57, t58, t59, t60, t61, t62, t63, t64, t65, t66, t67, t68, t69, t70, t71, t72, t73, t74, t75, t76, t77, t78, t79, t80, t81, t82, t83, t84, t85, t86, t87, t88, t89, t90, t91, t92, t93, t94, t95, t96, t97, t98, t99, t100, t101, t102, t103, t104, t105, t106, t107, t108, t109, t110, t111, t112, t113, t114, t115, t116, t117, t118, t119, t120, t121, t122, t123, t124, t125, t126, t127, t128, t129, t130, t131, t132, t133, t134, t135, t136, t137, t138, t139, t140, t141, t142, t143, t144, t145, t146, t147, t148, t149, t150, t151, t152, t153, t154, t155, t156, t157, t158, t159, t160, t161, t162, t163, t164, t165, t166, t167, t168, t169, t170, t171, t172, t173, t174, t175, t176, t177, t178, t179, t180, t181, t182, t183, t184, t185, t186, t187, t188, t189, t190, t191, t192, t193, t194, t195, t196, t197, t198, t199, t200, t201, t202, t203, t204, t205, t206, t207, t208, t209, t210, t211, t212, t213, t214, t215, t216, t217, t218, t219, t220, t221, t222, t223, t224, t225, t226, t227, t228, t229, t230, t231, t232, t233, t234, t235, t236, t237, t238, t239, t240, t241, t242, t243, t244, t245, t246, t247, t248, t249, t250, t251, t252, t253, t254, t255, t256, t257, t258, t259, t260, t261, t262, t263, t264, t265, t266, t267, t268, t269, t270, t271, t272, t273, t274, t275, t276, t277, t278, t279, t280, t281, t282, t283, t284, t285, t286], ds⟩ w') :
    (Code.loop (bodyOf Tryz.f8 6)).wp Tryz.prog Q' ⟨#[.slice A l.length c, t1, t2, t3, t4, t5, t6, t7, t8, t9, t10, t11, t12, t13, t14, t15, t16, .slice (some ⟨p, 0, none⟩) l.length l.length, .slice (some ⟨q, 0, none⟩) l.length l.length, t19, t20, t21, .int .i64 (i : Int), .int .i64 0, t24, t25, t26, t27, t28, t29, t30, t31, t32, t33, t34, t35, t36, t37, t38, t39, t40, t41, t42, t43, t44, t45, t46, t47, t48, t49, t50, t51, t52, t53, t54, t55, t56, t57, t58, t59, t60, t61, t62, t63, t64, t65, t66, t67, t68, t69, t70, t71, t72, t73, t74, t75, t76, t77, t78, t79, t80, t81, t82, t83, t84, t85, t86, t87, t88, t89, t90, t91, t92, t93, t94, t95, t96, t97, t98, t99, t100, t101, t102, t103, t104, t105, t106, t107, t108, t109, t110, t111, t112, t113, t114, t115, t116, t117, t118, t119, t120, t121, t122, t123, t124, t125, t126, t127, t128, t129, t130, t131, t132, t133, t134, t135, t136, t137, t138, t139, t140, t141, t142, t143, t144, t145, t146, t147, t148, t149, t150, t151, t152, t153, t154, t155, t156, t157, t158, t159, t160, t161, t162, t163, t164, t165, t166, t167, t168, t169, t170, t171, t172, t173, t174, t175, t176, t177, t178, t179, t180, t181, t182, t183, t184, t185, t186, t187, t188, t189, t190, t191, t192, t193, t194, t195, t196, t197, t198, t199, t200, t201, t202, t203, t204, t205, t206, t207, t208, t209, t210, t211, t212, t213, t214, t215, t216, t217, t218, t219, t220, t221, t222, t223, t224, t225, t226, t227, t228, t229, t230, t231, t232, t233, t234, t235, t236, t237, t238, t239, t240, t241, t242, t243, t244, t245, t246, t247, t248, t249, t250, t251, t252, t253, t254, t255, t256, t257, t258, t259, t260, t261, t262, t263, t264, t265, t266, t267, t268, t269, t270, t271, t272, t273, t274, t275, t276, t277, t278, t279, t280, t281, t282, t283, t284, t285, t286], ds⟩ wr0 := by
  have H := Lib.hid h; clear h
  have i1 : ((i : Int) < (l.length : Int)) := by omega
  conv in (bodyOf _ _) => whnf
  dsimp only
  go_loopw [23] (fun s23 wr => ∃ (k : Nat), k ≤ i ∧ s23 = .int .i64 k ∧ FilM V p q l.length G G' wr) (fun s23 _ => i - (intOf s23).toNat)
  case atStart => exact ⟨0, Nat.zero_le _, by go_num, M⟩
  case round =>
    clear M
    obtain ⟨k, hk, rfl, M⟩ := hrel
    by_cases hlt : k < i
    · obtain ⟨fi, fk, si, sk, e1, e2, e3, e4, n1, n2, hiff⟩ := HS.out i k hi (by omega)
      obtain ⟨a0, a1, a2⟩ := M.cell1 e1
      obtain ⟨b0, b1, b2⟩ := M.cell1 e2
      obtain ⟨c0, c1, c2⟩ := M.cell2 e3
      obtain ⟨d0, d1, d2⟩ := M.cell2 e4
      have m1 : (fi == 0) = false := beq_eq_false_iff_ne.2 n1
      have m2 : (si == 0) = false := beq_eq_false_iff_ne.2 n2
      obtain ⟨D, hD⟩ : ∃ D, (fi == fk) = D := ⟨_, rfl⟩
      have hD2 : (si == sk) = D := by rw [← hD, Bool.eq_iff_iff, beq_iff_eq, beq_iff_eq]; exact hiff.symm
      have HM := Lib.hid M
      have i2 : ((k : Int) < (l.length : Int)) := by omega
      have i3 : ((k : Int) < (i : Int)) := by omega
      clear e1 e2 e3 e4 n1 n2 hiff M
      cases D
      all_goals
        go_wp2_with fail
        go_quiet (fail)
        go_wp2
        exact ⟨⟨k + 1, by omega, by go_num, ⟨HM.out.own1, HM.out.own2, below_drewN' HM.out.below _⟩⟩, by simp [intOf]; omega⟩
    · obtain rfl : k = i := by omega
      go_wp2
      exact H.out _ _ _ _ _ _ _ _ _ _ _ _ _ _ _ _ _ _ _ _ _ _ _ _ _ _ _ _ _ _ _ _ _ _ _ _ _ _ _ _ wr M

set_option maxRecDepth 100000 in
set_option maxHeartbeats 4000000 in
/-- The groups of all marks are compared (loop 6). -/
theorem ordLoop6 {l : List Mk} {A : Option Addr} {c : Nat} {V wr0 : World} {p q : Nat} {G G' : List Int} (M : FilM V p q l.length G G' wr0) (HS : Hid (∀ i k : Nat, i < l.length → k < l.length → ∃ fi fk si sk : Int, G[i]? = some fi ∧ G[k]? = some fk ∧ G'[i]? = some si ∧ G'[k]? = some sk ∧ fi ≠ 0 ∧ si ≠ 0 ∧ (fi = fk ↔ si = sk))) (hl8 : l.length ≤ 8) {t1 t2 t3 t4 t5 t6 t7 t8 t9 t10 t11 t12 t13 t14 t15 t16 t19 t20 t21 t23 t24 t25 t26 t27 t28 t29 t30 t31 t32 t33 t34 t35 t36 t37 t38 t39 t40 t41 t42 t43 t44 t45 t46 t47 t48 t49 t50 t51 t52 t53 t54 t55 t56 t57 t58 t59 t60 t61 t62 t63 t64 t65 t66 t67 t68 t69 t70 t71 t72 t73 t74 t75 t76 t77 t78 t79 t80 t81 t82 t83 t84 t85 t86 t87 t88 t89 t90 t91 t92 t93 t94 t95 t96 t97 t98 t99 t100 t101 t102 t103 t104 t105 t106 t107 t108 t109 t110 t111 t112 t113 t114 t115 t116 t117 t118 t119 t120 t121 t122 t123 t124 t125 t126 t127 t128 t129 t130 t131 t132 t133 t134 t135 t136 t137 t138 t139 t140 t141 t142 t143 t144 t145 t146 t147 t148 t149 t150 t151 t152 t153 t154 t155 t156 t157 t158 t159 t160 t161 t162 t163 t164 t165 t166 t167 t168 t169 t170 t171 t172 t173 t174 t175 t176 t177 t178 t179 t180 t181 t182 t183 t184 t185 t186 t187 t188 t189 t190 t191 t192 t193 t194 t195 t196 t197 t198 t199 t200 t201 t202 t203 t204 t205 t206 t207 t208 t209 t210 t211 t212 t213 t214 t215 t216 t217 t218 t219 t220 t221 t222 t223 t224 t225 t226 t227 t228 t229 t230 t231 t232 t233 t234 t235 t236 t237 t238 t239 t240 t241 t242 t243 t244 t245 t246 t247 t248 t249 t250 t251 t252 t253 t254 t255 t256 t257 t258 t259 t260 t261 t262 t263 t264 t265 t266 t267 t268 t269 t270 t271 t272 t273 t274 t275 t276 t277 t278 t279 t280 t281 t282 t283 t284 t285 t286 : Value} {ds : List Deferred} (Q' : Exit → Act → World → Prop)
    (h : ∀ (t6 t22 t23 t210 t211 t212 t213 t214 t215 t216 t217 t218 t219 t220 t221 t222 t223 t224 t225 t226 t227 t228 t229 t230 t231 t232 t233 t234 t235 t236 t237 t238 t239 t240 t241 t242 t243 t244 t245 t246 t247 t248 t249 t250 t251 t252 t253 : Value) (w' : World), FilM V p q l.length G G' w' → Q' (.exit 10) ⟨#[.slice A l.length c, t1, t2, t3, t4, t5, t6, t7, t8, t9, t10, t11, t12, t13, t14, t15, t16, .slice (some ⟨p, 0, none⟩) l.length l.length, .slice (some ⟨q, 0, none⟩) l.length l.length, t19, t20, t21, t22, t23, t24, t25, t26, t27, t28, t29, t30, t31, t32, t33, t34, t35, t36, t37, t38, t39, t40, t41, t42, t43, t44, t45, t46, t47, t48, t49, t50, t51, t52, t53, t54, t55, t56, t57, t58, t59, t60, t61, t62, t63, t64, t65, t66, t67, t68, t69, t70, t71, t72, t73, t74, t75, t76, t77, t78, t79, t80, t81, t82, t83, t84, t85, t86, t87, t88, t89, t90, t91, t92, t93, t94, t95, t96, t97, t98, t99, t100, t101, t102, t103, t104, t105, t106, t107, t108, t109, t110, t111, t112, t113, t114, t115, t116, t117, t118, t119, t120, t121, t122, t123, t124, t125, t126, t127, t128, t129, t130, t131, t132, t133, t134, t135, t136, t137, t138, t139, t140, t141, t142, t143, t144, t145, t146, t147, t148, t149, t150, t151, t152, t153, t154, t155, t156, t157, t158, t159, t160, t161, t162, t163, t164, t165, t166, t167, t168, t169, t170, t171, t172, t173, t174, t175, t176, t177, t178, t179, t180, t181, t182, t183, t184, t185, t186, t187, t188, t189, t190, t191, t192, t193, t194, t195, t196, t197, t198, t199, t200, t201, t202, t203, t204, t205, t206, t207, t208, t209, t210, t211, t212, t213, t214, t215, t216, t217, t218, t219, t220, t221, t222, t223, t224, t225, t226, t227, t228, t229, t230, t231, t232, t233, t234, t235, t236, t237, t238, t239, t240, t241, t242, t243, t244, t245, t246, t247, t248, t249, t250, t251, t252, t253, t254, t255, t256, t257, t258, t259, t260, t261, t262, t263, t264, t265, t266, t267, t268, t269, t270, t271, t272, t273, t274, t275, t276, t277, t278, t279, t280, t281, t282, t283, t284, t285, t286], ds⟩ w') :
    (Code.loop (bodyOf Tryz.f8 5)).wp Tryz.prog Q' ⟨#[.slice A l.length c, t1, t2, t3, t4, t5, t6, t7, t8, t9, t10, t11, t12, t13, t14, t15, t16, .slice (some ⟨p, 0, none⟩) l.length l.length, .slice (some ⟨q, 0, none⟩) l.length l.length, t19, t20, t21, .int .i64 0, t23, t24, t25, t26, t27, t28, t29, t30, t31, t32, t33, t34, t35, t36, t37, t38, t39, t40, t41, t42, t43, t44, t45, t46, t47, t48, t49, t50, t51, t52, t53, t54, t55, t56, t57, t58, t59, t60, t61, t62, t63, t64, t65, t66, t67, t68, t69, t70, t71, t72, t73, t74, t75, t76, t77, t78, t79, t80, t81, t82, t83, t84, t85, t86, t87, t88, t89, t90, t91, t92, t93, t94, t95, t96, t97, t98, t99, t100, t101, t102, t103, t104, t105, t106, t107, t108, t109, t110, t111, t112, t113, t114, t115, t116, t117, t118, t119, t120, t121, t122, t123, t124, t125, t126, t127, t128, t129, t130, t131, t132, t133, t134, t135, t136, t137, t138, t139, t140, t141, t142, t143, t144, t145, t146, t147, t148, t149, t150, t151, t152, t153, t154, t155, t156, t157, t158, t159, t160, t161, t162, t163, t164, t165, t166, t167, t168, t169, t170, t171, t172, t173, t174, t175, t176, t177, t178, t179, t180, t181, t182, t183, t184, t185, t186, t187, t188, t189, t190, t191, t192, t193, t194, t195, t196, t197, t198, t199, t200, t201, t202, t203, t204, t205, t206, t207, t208, t209, t210, t211, t212, t213, t214, t215, t216, t217, t218, t219, t220, t221, t222, t223, t224, t225, t226, t227, t228, t229, t230, t231, t232, t233, t234, t235, t236, t237, t238, t239, t240, t241, t242, t243, t244, t245, t246, t247, t248, t249, t250, t251, t252, t253, t254, t255, t256, t257, t258, t259, t260, t261, t262, t263, t264, t265, t266, t267, t268, t269, t270, t271, t272, t273, t274, t275, t276, t277, t278, t279, t280, t281, t282, t283, t284, t285, t286], ds⟩ wr0 := by
  have H := Lib.hid h; clear h
  conv in (bodyOf _ _) => whnf
  dsimp only
  go_loopw [22] (fun s22 wr => ∃ (i : Nat), i ≤ l.length ∧ s22 = .int .i64 i ∧ FilM V p q l.length G G' wr) (fun s22 _ => l.length - (intOf s22).toNat)
  case atStart => exact ⟨0, Nat.zero_le _, by go_num, M⟩
  case round =>
    clear M
    obtain ⟨i, hi, rfl, M⟩ := hrel
    by_cases hlt : i < l.length
    · have i1 : ((i : Int) < (l.length : Int)) := by omega
      have hl7 := fun (M : FilM V p q l.length G G' wr) => @ordLoop7 l A c V wr p q G G' M HS hl8 i hlt
      go_wp2
      unfold bodyOf at hl7
      conv at hl7 in (Option.getD _ Code.skip) => whnf
      refine hl7 M _ ?_
      clear hl7 M
      intro t6 t23 t216 t217 t218 t219 t220 t221 t222 t223 t224 t225 t226 t227 t228 t229 t230 t231 t232 t233 t234 t235 t236 t237 t238 t239 t240 t241 t242 t243 t244 t245 t246 t247 t248 t249 t250 t251 t252 t253 w1 M
      go_wp2
      exact ⟨⟨i + 1, by omega, by go_num, M⟩, by simp [intOf]; omega⟩
    · obtain rfl : i = l.length := by omega
      go_wp2
      exact H.out _ _ _ _ _ _ _ _ _ _ _ _ _ _ _ _ _ _ _ _ _ _ _ _ _ _ _ _ _ _ _ _ _ _ _ _ _ _ _ _ _ _ _ _ _ _ _ wr M

set_option maxRecDepth 100000 in
set_option maxHeartbeats 4000000 in
/-- A group's hull does not interact with those before (loop 9). -/
theorem ordLoop9 (l : List Mk) (A : Option Addr) (c B : Nat) (r : Ru) {V wr0 : World} {b : Nat} (hl : MkOk l A B V) (hB : B ≤ V.heap.size) (b4 : Blk V b 62 (ruC r)) (HRN : Hid (W64 r.num)) (HRD : Hid (W64 r.den)) (HRE : Hid (ruleE r = 0)) (HMR : Hid (∀ m ∈ l, MarkR m)) {Ds : List Rw} {AG : Option Addr} {cG BG : Nat} (hG : RwOk Ds AG BG V) (hBG : BG ≤ V.heap.size) (HRG : Hid (ResG l r (Ds.map (·.ns)))) (hDl : Ds.length ≤ 8) (HDN : Hid (∀ q ∈ Ds, q.ns.length ≤ 8)) (hx : Below V.heap.size V wr0) {i : Nat} (hi : i < Ds.length) {t1 t2 t3 t5 t6 t7 t8 t9 t10 t11 t12 t14 t15 t16 t17 t18 t19 t20 t21 t22 t23 t26 t27 t28 t29 t30 t31 t32 t33 t34 t35 t36 t37 t38 t39 t40 t41 t42 t43 t44 t45 t46 t47 t48 t49 t50 t51 t52 t53 t54 t55 t56 t57 t58 t59 t60 t61 t62 t63 t64 t65 t66 t67 t68 t69 t70 t71 t72 t73 t74 t75 t76 t77 t78 t79 t80 t81 t82 t83 t84 t85 t86 t87 t88 t89 t90 t91 t92 t93 t94 t95 t96 t97 t98 t99 t100 t101 t102 t103 t104 t105 t106 t107 t108 t109 t110 t111 t112 t113 t114 t115 t116 t117 t118 t119 t120 t121 t122 t123 t124 t125 t126 t127 t128 t129 t130 t131 t132 t133 t134 t135 t136 t137 t138 t139 t140 t141 t142 t143 t144 t145 t146 t147 t148 t149 t150 t151 t152 t153 t154 t155 t156 t157 t158 t159 t160 t161 t162 t163 t164 t165 t166 t167 t168 t169 t170 t171 t172 t173 t174 t175 t176 t177 t178 t179 t180 t181 t182 t183 t184 t185 t186 t187 t188 t189 t190 t191 t192 t193 t194 t195 t196 t197 t198 t199 t200 t201 t202 t203 t204 t205 t206 t207 t208 t209 t210 t211 t212 t213 t214 t215 t216 t217 t218 t219 t220 t221 t222 t223 t224 t225 t226 t227 t228 t229 t230 t231 t232 t233 t234 t235 t236 t237 t238 t239 t240 t241 t242 t243 t244 t245 t246 t247 t248 t249 t250 t251 t252 t253 t254 t255 t256 t257 t258 t259 t260 t261 t262 t263 t264 t265 t266 t267 t268 t269 t270 t271 t272 t273 t274 t275 t276 t277 t278 t279 t280 t281 t282 t283 t284 t285 t286 : Value} {ds : List Deferred} (Q' : Exit → Act → World → Prop)
    (h : ∀ (t6 t25 t26 t27 t260 t261 t262 t263 t264 t265 t266 t267 t268 t269 t270 t271 t272 t273 t274 t275 t276 t277 t278 t279 t280 t281 t282 t283 t284 t285 t286 : Value) (w' : World), Below V.heap.size V w' → Q' (.exit 16) ⟨#[.slice A l.length c, t1, t2, t3, .pointer (some ⟨b, 0, none⟩), t5, t6, t7, t8, t9, t10, t11, t12, .slice AG Ds.length cG, t14, t15, t16, t17, t18, t19, t20, t21, t22, t23, .int .i64 (i : Int), t25, t26, t27, t28, t29, t30, t31, t32, t33, t34, t35, t36, t37, t38, t39, t40, t41, t42, t43, t44, t45, t46, t47, t48, t49, t50, t51, t52, t53, t54, t55, t56, t57, t58, t59, t60, t61, t62, t63, t64, t65, t66, t67, t68, t69, t70, t71, t72, t73, t74, t75, t76, t77, t78, t79, t80, t81, t82, t83, t84, t85, t86, t87, t88, t89, t90, t91, t92, t93, t94, t95, t96, t97, t98, t99, t100, t101, t102, t103, t104, t105, t106, t107, t108, t109, t110, t111, t112, t113, t114, t115, t116, t117, t118, t119, t120, t121, t122, t123, t124, t125, t126, t127, t128, t129, t130, t131, t132, t133, t134, t135, t136, t137, t138, t139, t140, t141, t142, t143, t144, t145, t146, t147, t148, t149, t150, t151, t152, t153, t154, t155, t156, t157, t158, t159, t160, t161, t162, t163, t164, t165, t166, t167, t168, t169, t170, t171, t172, t173, t174, t175, t176, t177, t178, t179, t180, t181, t182, t183, t184, t185, t186, t187, t188, t189, t190, t191, t192, t193, t194, t195, t196, t197, t198, t199, t200, t201, t202, t203, t204, t205, t206, t207, t208, t209, t210, t211, t212, t213, t214, t215, t216, t217, t218, t219, t220, t221, t222, t223, t224, t225, t226, t227, t228, t229, t230, t231, t232, t233, t234, t235, t236, t237, t238, t239, t240, t241, t242, t243, t244, t245, t246, t247, t248, t249, t250, t251, t252, t253, t254, t255, t256, t257, t258, t259, t260, t261, t262, t263, t264, t265, t266, t267, t268, t269, t270, t271, t272, t273, t274, t275, t276, t277, t278, t279, t280, t281, t282, t283, t284, t285, t286], ds⟩ w') :
    (Code.loop (bodyOf Tryz.f8 8)).wp Tryz.prog Q' ⟨#[.slice A l.length c, t1, t2, t3, .pointer (some ⟨b, 0, none⟩), t5, t6, t7, t8, t9, t10, t11, t12, .slice AG Ds.length cG, t14, t15, t16, t17, t18, t19, t20, t21, t22, t23, .int .i64 (i : Int), .int .i64 0, t26, t27, t28, t29, t30, t31, t32, t33, t34, t35, t36, t37, t38, t39, t40, t41, t42, t43, t44, t45, t46, t47, t48, t49, t50, t51, t52, t53, t54, t55, t56, t57, t58, t59, t60, t61, t62, t63, t64, t65, t66, t67, t68, t69, t70, t71, t72, t73, t74, t75, t76, t77, t78, t79, t80, t81, t82, t83, t84, t85, t86, t87, t88, t89, t90, t91, t92, t93, t94, t95, t96, t97, t98, t99, t100, t101, t102, t103, t104, t105, t106, t107, t108, t109, t110, t111, t112, t113, t114, t115, t116, t117, t118, t119, t120, t121, t122, t123, t124, t125, t126, t127, t128, t129, t130, t131, t132, t133, t134, t135, t136, t137, t138, t139, t140, t141, t142, t143, t144, t145, t146, t147, t148, t149, t150, t151, t152, t153, t154, t155, t156, t157, t158, t159, t160, t161, t162, t163, t164, t165, t166, t167, t168, t169, t170, t171, t172, t173, t174, t175, t176, t177, t178, t179, t180, t181, t182, t183, t184, t185, t186, t187, t188, t189, t190, t191, t192, t193, t194, t195, t196, t197, t198, t199, t200, t201, t202, t203, t204, t205, t206, t207, t208, t209, t210, t211, t212, t213, t214, t215, t216, t217, t218, t219, t220, t221, t222, t223, t224, t225, t226, t227, t228, t229, t230, t231, t232, t233, t234, t235, t236, t237, t238, t239, t240, t241, t242, t243, t244, t245, t246, t247, t248, t249, t250, t251, t252, t253, t254, t255, t256, t257, t258, t259, t260, t261, t262, t263, t264, t265, t266, t267, t268, t269, t270, t271, t272, t273, t274, t275, t276, t277, t278, t279, t280, t281, t282, t283, t284, t285, t286], ds⟩ wr0 := by
  have H := Lib.hid h; clear h
  conv in (bodyOf _ _) => whnf
  dsimp only
  go_loopw [25] (fun s25 wr => ∃ (k : Nat), k ≤ i ∧ s25 = .int .i64 k ∧ Below V.heap.size V wr) (fun s25 _ => i - (intOf s25).toNat)
  case atStart => exact ⟨0, Nat.zero_le _, by go_num, hx⟩
  case round =>
    clear hx
    obtain ⟨k, hk, rfl, hx⟩ := hrel
    have hzx := Below.size hx
    by_cases hlt : k < i
    · have hkD : k < Ds.length := by omega
      have hno := HRG.out.no HMR.out HRE.out (i := i) (k := k) (by simpa using hi) (by simpa using hkD) (by omega)
      simp only [List.getElem_map] at hno
      obtain ⟨u1, u2⟩ := canD HRG.out.canon hi
      obtain ⟨v1, v2⟩ := canD HRG.out.canon hkD
      have hs1 := (MarkR.hullR HMR.out (g := Ds[i].ns) (List.length_pos_iff.1 u2) u1).name
      have hs2 := (MarkR.hullR HMR.out (g := Ds[k].ns) (List.length_pos_iff.1 v2) v1).name
      have hd1 := HDN.out _ (List.getElem_mem hi)
      have hd2 := HDN.out _ (List.getElem_mem hkD)
      go_upto_region 53 with fail
      refine intReg53 l A c B r (hl.below hx hB) (by omega) (b4.gr hx) HRN HRD (hG.below hx hBG) (by omega) hi hkD u2 v2 (by omega) (by omega) (Lib.hid u1) (Lib.hid v1) (Lib.hid ⟨hs1, hs2⟩) (Lib.hid hno) _ ?_
      intro t265 t266 t267 t268 t269 t270 t271 t272 t273 t274 t275 t276 t277 t278 t279 t280 t281 w1 hB1
      try dsimp only
      replace hx := hx.trans (hB1.mono hzx)
      clear hB1 hzx hno u1 u2 v1 v2 hs1 hs2 hd1 hd2
      go_wp2
      exact ⟨⟨k + 1, by omega, by go_num, hx⟩, by simp [intOf]; omega⟩
    · obtain rfl : k = i := by omega
      go_wp2
      exact H.out _ _ _ _ _ _ _ _ _ _ _ _ _ _ _ _ _ _ _ _ _ _ _ _ _ _ _ _ _ _ _ wr hx

set_option maxRecDepth 100000 in
set_option maxHeartbeats 4000000 in
/-- The hulls of no two groups interact (loop 8). -/
theorem ordLoop8 (l : List Mk) (A : Option Addr) (c B : Nat) (r : Ru) {V wr0 : World} {b : Nat} (hl : MkOk l A B V) (hB : B ≤ V.heap.size) (b4 : Blk V b 62 (ruC r)) (HRN : Hid (W64 r.num)) (HRD : Hid (W64 r.den)) (HRE : Hid (ruleE r = 0)) (HMR : Hid (∀ m ∈ l, MarkR m)) {Ds : List Rw} {AG : Option Addr} {cG BG : Nat} (hG : RwOk Ds AG BG V) (hBG : BG ≤ V.heap.size) (HRG : Hid (ResG l r (Ds.map (·.ns)))) (hDl : Ds.length ≤ 8) (HDN : Hid (∀ q ∈ Ds, q.ns.length ≤ 8)) (hx : Below V.heap.size V wr0) {t1 t2 t3 t5 t6 t7 t8 t9 t10 t11 t12 t14 t15 t16 t17 t18 t19 t20 t21 t22 t23 t25 t26 t27 t28 t29 t30 t31 t32 t33 t34 t35 t36 t37 t38 t39 t40 t41 t42 t43 t44 t45 t46 t47 t48 t49 t50 t51 t52 t53 t54 t55 t56 t57 t58 t59 t60 t61 t62 t63 t64 t65 t66 t67 t68 t69 t70 t71 t72 t73 t74 t75 t76 t77 t78 t79 t80 t81 t82 t83 t84 t85 t86 t87 t88 t89 t90 t91 t92 t93 t94 t95 t96 t97 t98 t99 t100 t101 t102 t103 t104 t105 t106 t107 t108 t109 t110 t111 t112 t113 t114 t115 t116 t117 t118 t119 t120 t121 t122 t123 t124 t125 t126 t127 t128 t129 t130 t131 t132 t133 t134 t135 t136 t137 t138 t139 t140 t141 t142 t143 t144 t145 t146 t147 t148 t149 t150 t151 t152 t153 t154 t155 t156 t157 t158 t159 t160 t161 t162 t163 t164 t165 t166 t167 t168 t169 t170 t171 t172 t173 t174 t175 t176 t177 t178 t179 t180 t181 t182 t183 t184 t185 t186 t187 t188 t189 t190 t191 t192 t193 t194 t195 t196 t197 t198 t199 t200 t201 t202 t203 t204 t205 t206 t207 t208 t209 t210 t211 t212 t213 t214 t215 t216 t217 t218 t219 t220 t221 t222 t223 t224 t225 t226 t227 t228 t229 t230 t231 t232 t233 t234 t235 t236 t237 t238 t239 t240 t241 t242 t243 t244 t245 t246 t247 t248 t249 t250 t251 t252 t253 t254 t255 t256 t257 t258 t259 t260 t261 t262 t263 t264 t265 t266 t267 t268 t269 t270 t271 t272 t273 t274 t275 t276 t277 t278 t279 t280 t281 t282 t283 t284 t285 t286 : Value} {ds : List Deferred} (Q' : Exit → Act → World → Prop)
    (h : ∀ (t6 t24 t25 t26 t27 t254 t255 t256 t257 t258 t259 t260 t261 t262 t263 t264 t265 t266 t267 t268 t269 t270 t271 t272 t273 t274 t275 t276 t277 t278 t279 t280 t281 t282 t283 t284 t285 t286 : Value) (w' : World), Below V.heap.size V w' → Q' (.exit 14) ⟨#[.slice A l.length c, t1, t2, t3, .pointer (some ⟨b, 0, none⟩), t5, t6, t7, t8, t9, t10, t11, t12, .slice AG Ds.length cG, t14, t15, t16, t17, t18, t19, t20, t21, t22, t23, t24, t25, t26, t27, t28, t29, t30, t31, t32, t33, t34, t35, t36, t37, t38, t39, t40, t41, t42, t43, t44, t45, t46, t47, t48, t49, t50, t51, t52, t53, t54, t55, t56, t57, t58, t59, t60, t61, t62, t63, t64, t65, t66, t67, t68, t69, t70, t71, t72, t73, t74, t75, t76, t77, t78, t79, t80, t81, t82, t83, t84, t85, t86, t87, t88, t89, t90, t91, t92, t93, t94, t95, t96, t97, t98, t99, t100, t101, t102, t103, t104, t105, t106, t107, t108, t109, t110, t111, t112, t113, t114, t115, t116, t117, t118, t119, t120, t121, t122, t123, t124, t125, t126, t127, t128, t129, t130, t131, t132, t133, t134, t135, t136, t137, t138, t139, t140, t141, t142, t143, t144, t145, t146, t147, t148, t149, t150, t151, t152, t153, t154, t155, t156, t157, t158, t159, t160, t161, t162, t163, t164, t165, t166, t167, t168, t169, t170, t171, t172, t173, t174, t175, t176, t177, t178, t179, t180, t181, t182, t183, t184, t185, t186, t187, t188, t189, t190, t191, t192, t193, t194, t195, t196, t197, t198, t199, t200, t201, t202, t203, t204, t205, t206, t207, t208, t209, t210, t211, t212, t213, t214, t215, t216, t217, t218, t219, t220, t221, t222, t223, t224, t225, t226, t227, t228, t229, t230, t231, t232, t233, t234, t235, t236, t237, t238, t239, t240, t241, t242, t243, t244, t245, t246, t247, t248, t249, t250, t251, t252, t253, t254, t255, t256, t257, t258, t259, t260, t261, t262, t263, t264, t265, t266, t267, t268, t269, t270, t271, t272, t273, t274, t275, t276, t277, t278, t279, t280, t281, t282, t283, t284, t285, t286], ds⟩ w') :
    (Code.loop (bodyOf Tryz.f8 7)).wp Tryz.prog Q' ⟨#[.slice A l.length c, t1, t2, t3, .pointer (some ⟨b, 0, none⟩), t5, t6, t7, t8, t9, t10, t11, t12, .slice AG Ds.length cG, t14, t15, t16, t17, t18, t19, t20, t21, t22, t23, .int .i64 0, t25, t26, t27, t28, t29, t30, t31, t32, t33, t34, t35, t36, t37, t38, t39, t40, t41, t42, t43, t44, t45, t46, t47, t48, t49, t50, t51, t52, t53, t54, t55, t56, t57, t58, t59, t60, t61, t62, t63, t64, t65, t66, t67, t68, t69, t70, t71, t72, t73, t74, t75, t76, t77, t78, t79, t80, t81, t82, t83, t84, t85, t86, t87, t88, t89, t90, t91, t92, t93, t94, t95, t96, t97, t98, t99, t100, t101, t102, t103, t104, t105, t106, t107, t108, t109, t110, t111, t112, t113, t114, t115, t116, t117, t118, t119, t120, t121, t122, t123, t124, t125, t126, t127, t128, t129, t130, t131, t132, t133, t134, t135, t136, t137, t138, t139, t140, t141, t142, t143, t144, t145, t146, t147, t148, t149, t150, t151, t152, t153, t154, t155, t156, t157, t158, t159, t160, t161, t162, t163, t164, t165, t166, t167, t168, t169, t170, t171, t172, t173, t174, t175, t176, t177, t178, t179, t180, t181, t182, t183, t184, t185, t186, t187, t188, t189, t190, t191, t192, t193, t194, t195, t196, t197, t198, t199, t200, t201, t202, t203, t204, t205, t206, t207, t208, t209, t210, t211, t212, t213, t214, t215, t216, t217, t218, t219, t220, t221, t222, t223, t224, t225, t226, t227, t228, t229, t230, t231, t232, t233, t234, t235, t236, t237, t238, t239, t240, t241, t242, t243, t244, t245, t246, t247, t248, t249, t250, t251, t252, t253, t254, t255, t256, t257, t258, t259, t260, t261, t262, t263, t264, t265, t266, t267, t268, t269, t270, t271, t272, t273, t274, t275, t276, t277, t278, t279, t280, t281, t282, t283, t284, t285, t286], ds⟩ wr0 := by
  have H := Lib.hid h; clear h
  conv in (bodyOf _ _) => whnf
  dsimp only
  go_loopw [24] (fun s24 wr => ∃ (i : Nat), i ≤ Ds.length ∧ s24 = .int .i64 i ∧ Below V.heap.size V wr) (fun s24 _ => Ds.length - (intOf s24).toNat)
  case atStart => exact ⟨0, Nat.zero_le _, by go_num, hx⟩
  case round =>
    clear hx
    obtain ⟨i, hi, rfl, hx⟩ := hrel
    by_cases hlt : i < Ds.length
    · have i1 : ((i : Int) < (Ds.length : Int)) := by omega
      have hl9 := ordLoop9 l A c B r hl hB b4 HRN HRD HRE HMR (cG := cG) hG hBG HRG hDl HDN hx (i := i)
      go_wp2
      unfold bodyOf at hl9
      conv at hl9 in (Option.getD _ Code.skip) => whnf
      refine hl9 hlt _ ?_
      clear hl9 hx
      intro t6 t25 t26 t27 t260 t261 t262 t263 t264 t265 t266 t267 t268 t269 t270 t271 t272 t273 t274 t275 t276 t277 t278 t279 t280 t281 t282 t283 t284 t285 t286 w1 hx
      go_wp2
      exact ⟨⟨i + 1, by omega, by go_num, hx⟩, by simp [intOf]; omega⟩
    · obtain rfl : i = Ds.length := by omega
      go_wp2
      exact H.out _ _ _ _ _ _ _ _ _ _ _ _ _ _ _ _ _ _ _ _ _ _ _ _ _ _ _ _ _ _ _ _ _ _ _ _ _ _ wr hx
end Go.Proofs.YtidgeagpgllkeaaGreat
