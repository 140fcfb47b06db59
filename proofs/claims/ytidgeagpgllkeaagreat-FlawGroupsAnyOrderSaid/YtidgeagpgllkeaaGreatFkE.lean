/- Parts of the law FlawGroupsAnyOrder: an order built up; the groups of the marks; two rows of zeros; the hulls of two groups. The law FlawGroupsAnyOrder answers true. The law FlawGroupsAnyOrder answers true. -/
import Derived.Test.YtidgeagpgllkeaaGreatFkB
import Derived.Test.YtidgeagpgllkeaaGreatFkW
import Derived.Test.YtidgeagpgllkeaaGreatFhD
namespace Go.Proofs.YtidgeagpgllkeaaGreat
open Go.RowKit Go.Shelf

theorem sameB_comm (a b : ByteArray) : sameB a b = sameB b a := by
  unfold sameB
  rw [Bool.eq_iff_iff, beq_iff_eq, beq_iff_eq]
  exact ⟨Eq.symm, Eq.symm⟩
/-- An order, so far. -/
structure PlO (l : List Mk) (pl : List Int) (ot : List Mk) : Prop where
  bd : ∀ x ∈ pl, 0 ≤ x ∧ x < l.length
  nodup : pl.Nodup
  len : ot.length = pl.length
  at_ : ∀ (i : Nat) x, pl[i]? = some x → ot[i]? = l[x.toNat]?
theorem PlO.start (l : List Mk) : PlO l [] [] := ⟨by simp, by simp, rfl, by simp⟩
theorem PlO.snoc {l : List Mk} {pl : List Int} {ot : List Mk} (h : PlO l pl ot) {n : Nat} (hn : n < l.length) (hm : (n : Int) ∉ pl) : PlO l (pl ++ [(n : Int)]) (ot ++ [l[n]]) := by
  refine ⟨fun x hx => ?_, ?_, by simp [h.len], fun i x hi => ?_⟩
  · rcases List.mem_append.1 hx with hx | hx
    · exact h.bd x hx
    · obtain rfl : x = (n : Int) := by simpa using hx
      omega
  · rw [List.nodup_append]
    refine ⟨h.nodup, by simp, fun a ha b hb => ?_⟩
    obtain rfl : b = (n : Int) := by simpa using hb
    rintro rfl
    exact hm ha
  · rw [List.getElem?_append] at hi ⊢
    rw [h.len]
    split at hi
    · rename_i hlt
      rw [if_pos hlt]
      exact h.at_ i x hi
    · rename_i hge
      rw [if_neg hge]
      have h0 : i - pl.length = 0 := by
        rcases Nat.eq_zero_or_pos (i - pl.length) with e | e
        · exact e
        · rw [List.getElem?_eq_none (by simp; omega)] at hi; cases hi
      rw [h0] at hi ⊢
      obtain rfl : (n : Int) = x := by simpa using hi
      rw [Int.toNat_natCast, List.getElem?_eq_getElem hn]; rfl
theorem PlO.free {l : List Mk} {pl : List Int} {ot : List Mk} (_h : PlO l pl ot) (hk : pl.length < l.length) : ∃ f : Nat, f < l.length ∧ (f : Int) ∉ pl := by
  refine Classical.byContradiction fun hc => ?_
  have h2 := nodup_len (numsTo l.length) pl (numsTo_nodup _) fun x hx => by
    have hb := mem_numsTo.1 hx
    refine Classical.byContradiction fun hn => hc ⟨x.toNat, by omega, ?_⟩
    rwa [show ((x.toNat : Nat) : Int) = x by omega]
  have h3 : (numsTo l.length).length = l.length := by simp [numsTo]
  omega
theorem PlO.moved {l : List Mk} {pl : List Int} {ot : List Mk} (h : PlO l pl ot) (hk : pl.length = l.length) : MovedL l ot pl := by
  refine ⟨⟨hk, h.bd, h.nodup⟩, by rw [h.len, hk], fun i hi => ?_⟩
  have hip : i < pl.length := by omega
  have e : pl[i]? = some pl[i] := List.getElem?_eq_getElem hip
  rw [h.at_ i _ e]
  unfold plAt
  rw [Int.toNat_natCast, e]; rfl
theorem MovedL.mem {l l' : List Mk} {pl : List Int} (h : MovedL l l' pl) : ∀ m ∈ l', m ∈ l := fun m hm => by
  obtain ⟨i, hi, rfl⟩ := List.getElem_of_mem hm
  have := h.at_ i (by rw [← h.len]; exact hi)
  rw [List.getElem?_eq_getElem hi] at this
  exact List.mem_of_getElem? this.symm
theorem MovedL.marks {l l' : List Mk} {pl : List Int} (h : MovedL l l' pl) (hz : (marksE l).2 = 0) : marksE l' = (0, 0) := by
  obtain ⟨h20, hT⟩ := marksE_zero hz
  have hl := h.len
  have at' : ∀ (j : Nat) (hj : j < l'.length), ∃ hp : (plAt pl (j : Int)).toNat < l.length, l'[j] = l[(plAt pl (j : Int)).toNat] := fun j hj => by
    have hp := (h.ord.at_ (i := (j : Int)) (by omega)).2
    have := h.at_ j (by omega)
    rw [List.getElem?_eq_getElem hj, List.getElem?_eq_getElem (show (plAt pl (j : Int)).toNat < l.length by omega)] at this
    exact ⟨by omega, by simpa using this⟩
  refine marksE_end (by omega) fun j hj _ => ?_
  obtain ⟨hp, e⟩ := at' j hj
  rw [e]
  refine ⟨(hT _ hp hp).1, ?_⟩
  cases hc : (l'.take j).any (fun p => sameB p.nm l[(plAt pl (j : Int)).toNat].nm)
  · rfl
  · obtain ⟨p, hpm, hs⟩ := List.any_eq_true.1 hc
    obtain ⟨i, hi, rfl⟩ := List.mem_take_iff_getElem.1 hpm
    obtain ⟨hq, e2⟩ := at' i (by omega)
    rw [e2] at hs
    have hne : (plAt pl (i : Int)).toNat ≠ (plAt pl (j : Int)).toNat := fun e3 => by
      have h1 := (h.ord.at_ (i := (i : Int)) (by omega)).2
      have h2 := (h.ord.at_ (i := (j : Int)) (by omega)).2
      have := h.ord.inj (i := (i : Int)) (k := (j : Int)) (by omega) (by omega) (by omega)
      omega
    have key : ∀ a b (ha : a < l.length) (hb : b < l.length), a < b → sameB l[a].nm l[b].nm = true → False := fun a b ha hb hab hsm => by
      have := (hT b hb hb).2
      rw [List.any_eq_true.2 ⟨l[a], List.mem_take_iff_getElem.2 ⟨a, by omega, rfl⟩, hsm⟩] at this
      cases this
    rcases Nat.lt_or_gt_of_ne hne with hlt | hlt
    · exact (key _ _ hq hp hlt hs).elim
    · rw [sameB_comm] at hs
      exact (key _ _ hp hq hlt hs).elim
/-- How far a number is from a free one, going up and round. -/
def dstN (N f : Nat) (n : Int) : Nat := (if n ≤ f then f - n else f - n + N).toNat
def nextN (N n : Nat) : Nat := if n + 1 = N then 0 else n + 1
theorem nextN_mod {N n : Nat} (h : n < N) : ((n : Int) + 1) % (N : Int) = (nextN N n : Int) := by
  unfold nextN
  split
  · rename_i e
    rw [show (n : Int) + 1 = (N : Int) by omega, Int.emod_self]; rfl
  · rw [Int.emod_eq_of_lt (by omega) (by omega)]; omega
theorem nextN_dst {N f n : Nat} (hn : n < N) (hf : f < N) (hne : n ≠ f) : nextN N n < N ∧ dstN N f (nextN N n) < dstN N f n := by
  unfold nextN dstN
  split <;> (refine ⟨by omega, ?_⟩; split <;> split <;> omega)

theorem wp_make_full {P : Program} (w : World) {o : Oper} {a : Act} {K : Act → World → Prop} {Q : Exit → Act → World → Prop}
    (l c : Operand) (t : TypeId) (hop : o.op = Op.makeSlice t l c)
    (base : Nat) (e : TypeId) (i : TypeInfo) (z : Value) (size : Nat) (h1 : P.underlying t = some (.slice e)) (h2 : P.info? e = some i) (h3 : i.zero = some z) (h4 : i.size = size)
    (kl kc : IntKind) (L C : Int) (n : Nat) (hl : a.eval l = .int kl L) (hc : a.eval c = .int kc C) (hL : L = (n : Int)) (hC : C = (n : Int)) (b2 : i.bytes * n ≤ 281474976710656) (b3 : n ≤ maxLen) (b4 : base ≤ w.heap.size)
    (hK : ∀ w', w'.ownsRow base e size (.slice (some ⟨w.heap.size, 0, none⟩) n n) n (madeCells z.cells (n * size)).toList → w.grownBy w' none → K (a.put o.dst (.slice (some ⟨w.heap.size, 0, none⟩) n n)) w') :
    o.wp P a w K Q := by
  obtain ⟨w', hrun, r1, r2⟩ := run_make_full (P := P) w base t e i z size h1 h2 h3 h4 kl kc n b2 b3 b4
  subst hL
  subst hC
  unfold Oper.wp
  simp [execOp, hop, hl, hc, hrun, Result.andThen]
  exact hK w' r1 r2
theorem made_ints (n : Nat) : (madeCells (Value.int IntKind.i64 0).cells (n * 1)).toList = intsC (List.replicate n 0) := by
  rw [Nat.mul_one]
  show (madeCells #[Value.int IntKind.i64 0] n).toList = _
  rw [toList_madeCells_one]
  simp [intsC]

set_option maxRecDepth 100000 in
set_option maxHeartbeats 4000000 in
/-- Two rows of zeros (region 21). -/
theorem makeReg21 {W : World} {A : Option Addr} {N c : Nat} (hN : N ≤ 100) {t1 t2 t3 t4 t5 t6 t7 t8 t9 t10 t11 t12 t13 t14 t15 t16 t17 t18 t19 t20 t21 t22 t23 t24 t25 t26 t27 t28 t29 t30 t31 t32 t33 t34 t35 t36 t37 t38 t39 t40 t41 t42 t43 t44 t45 t46 t47 t48 t49 t50 t51 t52 t53 t54 t55 t56 t57 t58 t59 t60 t61 t62 t63 t64 t65 t66 t67 t68 t69 t70 t71 t72 t73 t74 t75 t76 t77 t78 t79 t80 t81 t82 t83 t84 t85 t86 t87 t88 t89 t90 t91 t92 t93 t94 t95 t96 t97 t98 t99 t100 t101 t102 t103 t104 t105 t106 t107 t108 t109 t110 t111 t112 t113 t114 t115 t116 t117 t118 t119 t120 t121 t122 t123 t124 t125 t126 t127 t128 t129 t130 t131 t132 t133 t134 t135 t136 t137 t138 t139 t140 t141 t142 t143 t144 t145 t146 t147 t148 t149 t150 t151 t152 t153 t154 t155 t156 t157 t158 t159 t160 t161 t162 t163 t164 t165 t166 t167 t168 t169 t170 t171 t172 t173 t174 t175 t176 t177 t178 t179 t180 t181 t182 t183 t184 t185 t186 t187 t188 t189 t190 t191 t192 t193 t194 t195 t196 t197 t198 t199 t200 t201 t202 t203 t204 t205 t206 t207 t208 t209 t210 t211 t212 t213 t214 t215 t216 t217 t218 t219 t220 t221 t222 t223 t224 t225 t226 t227 t228 t229 t230 t231 t232 t233 t234 t235 t236 t237 t238 t239 t240 t241 t242 t243 t244 t245 t246 t247 t248 t249 t250 t251 t252 t253 t254 t255 t256 t257 t258 t259 t260 t261 t262 t263 t264 t265 t266 t267 t268 t269 t270 t271 t272 t273 t274 t275 t276 t277 t278 t279 t280 t281 t282 t283 t284 t285 t286 : Value} {ds : List Deferred} (Q : Exit → Act → World → Prop)
    (h : ∀ (t117 t118 t119 t120 t121 t122 : Value) (p q : Nat) (w' : World), w'.ownsRow W.heap.size 3 1 (.slice (some ⟨p, 0, none⟩) N N) N (intsC (List.replicate N 0)) → w'.ownsRow W.heap.size 3 1 (.slice (some ⟨q, 0, none⟩) N N) N (intsC (List.replicate N 0)) → p ≠ q → Below W.heap.size W w' → Q .normal ⟨#[.slice A N c, t1, t2, t3, t4, t5, t6, t7, t8, t9, t10, t11, t12, t13, t14, t15, t16, .slice (some ⟨p, 0, none⟩) N N, .slice (some ⟨q, 0, none⟩) N N, t19, t20, t21, t22, t23, t24, t25, t26, t27, t28, t29, t30, t31, t32, t33, t34, t35, t36, t37, t38, t39, t40, t41, t42, t43, t44, t45, t46, t47, t48, t49, t50, t51, t52, t53, t54, t55, t56, t57, t58, t59, t60, t61, t62, t63, t64, t65, t66, t67, t68, t69, t70, t71, t72, t73, t74, t75, t76, t77, t78, t79, t80, t81, t82, t83, t84, t85, t86, t87, t88, t89, t90, t91, t92, t93, t94, t95, t96, t97, t98, t99, t100, t101, t102, t103, t104, t105, t106, t107, t108, t109, t110, t111, t112, t113, t114, t115, t116, t117, t118, t119, t120, t121, t122, t123, t124, t125, t126, t127, t128, t129, t130, t131, t132, t133, t134, t135, t136, t137, t138, t139, t140, t141, t142, t143, t144, t145, t146, t147, t148, t149, t150, t151, t152, t153, t154, t155, t156, t157, t158, t159, t160, t161, t162, t163, t164, t165, t166, t167, t168, t169, t170, t171, t172, t173, t174, t175, t176, t177, t178, t179, t180, t181, t182, t183, t184, t185, t186, t187, t188, t189, t190, t191, t192, t193, t194, t195, t196, t197, t198, t199, t200, t201, t202, t203, t204, t205, t206, t207, t208, t209, t210, t211, t212, t213, t214, t215, t216, t217, t218, t219, t220, t221, t222, t223, t224, t225, t226, t227, t228, t229, t230, t231, t232, t233, t234, t235, t236, t237, t238, t239, t240, t241, t242, t243, t244, t245, t246, t247, t248, t249, t250, t251, t252, t253, t254, t255, t256, t257, t258, t259, t260, t261, t262, t263, t264, t265, t266, t267, t268, t269, t270, t271, t272, t273, t274, t275, t276, t277, t278, t279, t280, t281, t282, t283, t284, t285, t286], ds⟩ w') :
    (regOf Tryz.f8 21).wp Tryz.prog Q ⟨#[.slice A N c, t1, t2, t3, t4, t5, t6, t7, t8, t9, t10, t11, t12, t13, t14, t15, t16, t17, t18, t19, t20, t21, t22, t23, t24, t25, t26, t27, t28, t29, t30, t31, t32, t33, t34, t35, t36, t37, t38, t39, t40, t41, t42, t43, t44, t45, t46, t47, t48, t49, t50, t51, t52, t53, t54, t55, t56, t57, t58, t59, t60, t61, t62, t63, t64, t65, t66, t67, t68, t69, t70, t71, t72, t73, t74, t75, t76, t77, t78, t79, t80, t81, t82, t83, t84, t85, t86, t87, t88, t89, t90, t91, t92, t93, t94, t95, t96, t97, t98, t99, t100, t101, t102, t103, t104, t105, t106, t107, t108, t109, t110, t111, t112, t113, t114, t115, t116, t117, t118, t119, t120, t121, t122, t123, t124, t125, t126, t127, t128, t129, t130, t131, t132, t133, t134, t135, t136, t137, t138, t139, t140, t141, t142, t143, t144, t145, t146, t147, t148, t149, t150, t151, t152, t153, t154, t155, t156, t157, t158, t159, t160, t161, t162, t163, t164, t165, t166, t167, t168, t169, t170, t171, t172, t173, t174, t175, t176, t177, t178, t179, t180, t181, t182, t183, t184, t185, t186, t187, t188, t189, t190, t191, t192, t193, t194, t195, t196, t197, t198, t199, t200, t201, t202, t203, t204, t205, t206, t207, t208, t209, t210, t211, t212, t213, t214, t215, t216, t217, t218, t219, t220, t221, t222, t223, t224, t225, t226, t227, t228, t229, t230, t231, t232, t233, t234, t235, t236, t237, t238, t239, t240, t241, t242, t243, t244, t245, t246, t247, t248, t249, t250, t251, t252, t253, t254, t255, t256, t257, t258, t259, t260, t261, t262, t263, t264, t265, t266, t267, t268, t269, t270, t271, t272, t273, t274, t275, t276, t277, t278, t279, t280, t281, t282, t283, t284, t285, t286], ds⟩ W := by
  have H := Lib.hid h; clear h
  obtain ⟨i0, hi, hz0, hz1, hz2⟩ := info_parts infoInt
  conv in (regOf _ _) => whnf
  refine wp_region_w (Gr _) (by kernel_rfl) (Below.refl _ _).drew ?_
  refine wpW_det (t' := ?ct0R85) 0 (by rfl) (by kernel_rfl) (NQ_free _) (by kernel_rfl) ?cw0R85 ?ch0R85 ?ca0R85 (Eq.refl _) ?cH0R85
  case cw0R85 => (go_simp; done)
  case ch0R85 =>
    intro ds w' hS K hK
    have hc := (bcell hS).1
    have hf := (bcell hS).2
    have hz := hS.size
    try simp at hz
    go_simp
    try go_bits
    first
      | exact hK _ hS (Gr.refl _)
      | exact hK _ (by repeat (first | (with_reducible exact Below.refl _ _) | (with_reducible assumption) | ((with_reducible refine Below.setCell ?_ ?_ _); rotate_left; · (first | exact Nat.le_refl _ | (simp; done) | (simp; omega) | omega)) | ((with_reducible refine Below.alloc ?_ ?_ _); rotate_left; · (first | exact Nat.le_refl _ | (simp; done) | (simp; omega) | omega)) | (with_reducible apply Below.drew) | (with_reducible apply below_drewN') | (refine Below.trans ?_ (Below.mono (by assumption) (by first | exact Nat.le_refl _ | (simp; done) | (simp; omega) | omega))) | exact Below.refl _ _ | assumption)) (by repeat (first | (with_reducible exact Below.refl _ _) | (with_reducible assumption) | ((with_reducible refine Below.setCell ?_ ?_ _); rotate_left; · (first | exact Nat.le_refl _ | (simp; done) | (simp; omega) | omega)) | ((with_reducible refine Below.alloc ?_ ?_ _); rotate_left; · (first | exact Nat.le_refl _ | (simp; done) | (simp; omega) | omega)) | (with_reducible apply Below.drew) | (with_reducible apply below_drewN') | (refine Below.trans ?_ (Below.mono (by assumption) (by first | exact Nat.le_refl _ | (simp; done) | (simp; omega) | omega))) | exact Below.refl _ _ | assumption))
  case ca0R85 => (first | (simp [Act.put]; done) | (simp [Act.put, *]; done))
  try dsimp only
  refine wpW_det (t' := ?ct1R85) 1 (by rfl) (by kernel_rfl) (NQ_free _) (by kernel_rfl) ?cw1R85 ?ch1R85 ?ca1R85 (Eq.refl _) ?cH1R85
  case cw1R85 => (go_simp; done)
  case ch1R85 =>
    intro ds w' hS K hK
    have hc := (bcell hS).1
    have hf := (bcell hS).2
    have hz := hS.size
    try simp at hz
    go_simp
    try go_bits
    first
      | exact hK _ hS (Gr.refl _)
      | exact hK _ (by repeat (first | (with_reducible exact Below.refl _ _) | (with_reducible assumption) | ((with_reducible refine Below.setCell ?_ ?_ _); rotate_left; · (first | exact Nat.le_refl _ | (simp; done) | (simp; omega) | omega)) | ((with_reducible refine Below.alloc ?_ ?_ _); rotate_left; · (first | exact Nat.le_refl _ | (simp; done) | (simp; omega) | omega)) | (with_reducible apply Below.drew) | (with_reducible apply below_drewN') | (refine Below.trans ?_ (Below.mono (by assumption) (by first | exact Nat.le_refl _ | (simp; done) | (simp; omega) | omega))) | exact Below.refl _ _ | assumption)) (by repeat (first | (with_reducible exact Below.refl _ _) | (with_reducible assumption) | ((with_reducible refine Below.setCell ?_ ?_ _); rotate_left; · (first | exact Nat.le_refl _ | (simp; done) | (simp; omega) | omega)) | ((with_reducible refine Below.alloc ?_ ?_ _); rotate_left; · (first | exact Nat.le_refl _ | (simp; done) | (simp; omega) | omega)) | (with_reducible apply Below.drew) | (with_reducible apply below_drewN') | (refine Below.trans ?_ (Below.mono (by assumption) (by first | exact Nat.le_refl _ | (simp; done) | (simp; omega) | omega))) | exact Below.refl _ _ | assumption))
  case ca1R85 => (first | (simp [Act.put]; done) | (simp [Act.put, *]; done))
  try dsimp only
  refine wpW_det (t' := ?ct3R85) 3 (by rfl) (by kernel_rfl) (NQ_free _) (by kernel_rfl) ?cw3R85 ?ch3R85 ?ca3R85 (Eq.refl _) ?cH3R85
  case cw3R85 => (go_simp; done)
  case ch3R85 =>
    intro ds w' hS K hK
    have hc := (bcell hS).1
    have hf := (bcell hS).2
    have hz := hS.size
    try simp at hz
    go_simp
    try go_bits
    first
      | exact hK _ hS (Gr.refl _)
      | exact hK _ (by repeat (first | (with_reducible exact Below.refl _ _) | (with_reducible assumption) | ((with_reducible refine Below.setCell ?_ ?_ _); rotate_left; · (first | exact Nat.le_refl _ | (simp; done) | (simp; omega) | omega)) | ((with_reducible refine Below.alloc ?_ ?_ _); rotate_left; · (first | exact Nat.le_refl _ | (simp; done) | (simp; omega) | omega)) | (with_reducible apply Below.drew) | (with_reducible apply below_drewN') | (refine Below.trans ?_ (Below.mono (by assumption) (by first | exact Nat.le_refl _ | (simp; done) | (simp; omega) | omega))) | exact Below.refl _ _ | assumption)) (by repeat (first | (with_reducible exact Below.refl _ _) | (with_reducible assumption) | ((with_reducible refine Below.setCell ?_ ?_ _); rotate_left; · (first | exact Nat.le_refl _ | (simp; done) | (simp; omega) | omega)) | ((with_reducible refine Below.alloc ?_ ?_ _); rotate_left; · (first | exact Nat.le_refl _ | (simp; done) | (simp; omega) | omega)) | (with_reducible apply Below.drew) | (with_reducible apply below_drewN') | (refine Below.trans ?_ (Below.mono (by assumption) (by first | exact Nat.le_refl _ | (simp; done) | (simp; omega) | omega))) | exact Below.refl _ _ | assumption))
  case ca3R85 => (first | (simp [Act.put]; done) | (simp [Act.put, *]; done))
  try dsimp only
  refine wpW_det (t' := ?ct4R85) 4 (by rfl) (by kernel_rfl) (NQ_free _) (by kernel_rfl) ?cw4R85 ?ch4R85 ?ca4R85 (Eq.refl _) ?cH4R85
  case cw4R85 => (go_simp; done)
  case ch4R85 =>
    intro ds w' hS K hK
    have hc := (bcell hS).1
    have hf := (bcell hS).2
    have hz := hS.size
    try simp at hz
    go_simp
    try go_bits
    first
      | exact hK _ hS (Gr.refl _)
      | exact hK _ (by repeat (first | (with_reducible exact Below.refl _ _) | (with_reducible assumption) | ((with_reducible refine Below.setCell ?_ ?_ _); rotate_left; · (first | exact Nat.le_refl _ | (simp; done) | (simp; omega) | omega)) | ((with_reducible refine Below.alloc ?_ ?_ _); rotate_left; · (first | exact Nat.le_refl _ | (simp; done) | (simp; omega) | omega)) | (with_reducible apply Below.drew) | (with_reducible apply below_drewN') | (refine Below.trans ?_ (Below.mono (by assumption) (by first | exact Nat.le_refl _ | (simp; done) | (simp; omega) | omega))) | exact Below.refl _ _ | assumption)) (by repeat (first | (with_reducible exact Below.refl _ _) | (with_reducible assumption) | ((with_reducible refine Below.setCell ?_ ?_ _); rotate_left; · (first | exact Nat.le_refl _ | (simp; done) | (simp; omega) | omega)) | ((with_reducible refine Below.alloc ?_ ?_ _); rotate_left; · (first | exact Nat.le_refl _ | (simp; done) | (simp; omega) | omega)) | (with_reducible apply Below.drew) | (with_reducible apply below_drewN') | (refine Below.trans ?_ (Below.mono (by assumption) (by first | exact Nat.le_refl _ | (simp; done) | (simp; omega) | omega))) | exact Below.refl _ _ | assumption))
  case ca4R85 => (first | (simp [Act.put]; done) | (simp [Act.put, *]; done))
  try dsimp only
  refine wpW_branch [2, 5] (by kernel_rfl) (by simp) ?_
  intro w1 hg1 hS1
  try replace own1 := own_below own1 hg1
  try replace own2 := own_below own2 hg1
  refine each_cons ?_ (each_cons ?_ (each_nil))
  · refine wpOp_go (by rfl) (Eq.refl _) (by go_simp; done) ?_
    intro K hK
    refine wp_make_full _ (.tmp 118) (.tmp 118) 37 rfl W.heap.size 3 i0 (.int .i64 0) 1 Tryz.underlying37 hi hz0 hz1 .i64 .i64 _ _ N rfl rfl rfl rfl (by rw [hz2]; omega) (by unfold maxLen; omega) (Below.size hS1) ?_
    try have own2' := own2
    intro wa own1 hgrow
    try simp only [Act.put]
    try simp only [List.setIfInBounds_toArray]
    rw [made_ints] at own1
    try replace own2 := own2.kept hgrow (.inr (by simp [Value.ownBlock]))
    obtain ⟨p, hp⟩ : ∃ p, w1.heap.size = p := ⟨_, rfl⟩
    try have hpq : p ≠ q := by have := (own2'.lt q rfl).2; omega
    rw [hp] at own1 ⊢
    refine hK _ _ (Below.grown hS1 hgrow (Below.size hS1) (fun q e => by cases e)) ?_
    clear hK K hgrow hp
    try clear own2'
    refine wpW_branch [5, 6] (by kernel_rfl) (by simp) ?_
    intro w2 hg2 hS2
    try replace own1 := own_below own1 hg2
    try replace own2 := own_below own2 hg2
    refine each_cons ?_ (each_cons ?_ (each_nil))
    · refine wpOp_go (by rfl) (Eq.refl _) (by go_simp; done) ?_
      intro K hK
      refine wp_make_full _ (.tmp 121) (.tmp 121) 37 rfl W.heap.size 3 i0 (.int .i64 0) 1 Tryz.underlying37 hi hz0 hz1 .i64 .i64 _ _ N rfl rfl rfl rfl (by rw [hz2]; omega) (by unfold maxLen; omega) (Below.size hS2) ?_
      try have own1' := own1
      intro wb own2 hgrow
      try simp only [Act.put]
      try simp only [List.setIfInBounds_toArray]
      rw [made_ints] at own2
      try replace own1 := own1.kept hgrow (.inr (by simp [Value.ownBlock]))
      obtain ⟨q, hq⟩ : ∃ p, w2.heap.size = p := ⟨_, rfl⟩
      try have hpq : p ≠ q := by have := (own1'.lt p rfl).2; omega
      rw [hq] at own2 ⊢
      refine hK _ _ (Below.grown hS2 hgrow (Below.size hS2) (fun q e => by cases e)) ?_
      clear hK K hgrow hq
      try clear own1'
      refine wpW_branch [6] (by kernel_rfl) (by simp) ?_
      intro w3 hg3 hS3
      try replace own1 := own_below own1 hg3
      try replace own2 := own_below own2 hg3
      refine each_cons ?_ (each_nil)
      · refine wpOp_go (by rfl) (Eq.refl _) (by go_simp; done) ?_
        intro K hK
        go_simp
        try simp only [Act.put]
        refine hK _ _ hS3 ?_
        clear hK K
        refine wpW_det (t' := ?ct7R86) 7 (by rfl) (by kernel_rfl) (NQ_free _) (by kernel_rfl) ?cw7R86 ?ch7R86 ?ca7R86 (Eq.refl _) ?cH7R86
        case cw7R86 => (go_simp; done)
        case ch7R86 =>
          intro ds w' hS K hK
          have hc := (bcell hS).1
          have hf := (bcell hS).2
          have hz := hS.size
          try simp at hz
          go_simp
          try go_bits
          first
            | exact hK _ hS (Gr.refl _)
            | exact hK _ (by repeat (first | (with_reducible exact Below.refl _ _) | (with_reducible assumption) | ((with_reducible refine Below.setCell ?_ ?_ _); rotate_left; · (first | exact Nat.le_refl _ | (simp; done) | (simp; omega) | omega)) | ((with_reducible refine Below.alloc ?_ ?_ _); rotate_left; · (first | exact Nat.le_refl _ | (simp; done) | (simp; omega) | omega)) | (with_reducible apply Below.drew) | (with_reducible apply below_drewN') | (refine Below.trans ?_ (Below.mono (by assumption) (by first | exact Nat.le_refl _ | (simp; done) | (simp; omega) | omega))) | exact Below.refl _ _ | assumption)) (by repeat (first | (with_reducible exact Below.refl _ _) | (with_reducible assumption) | ((with_reducible refine Below.setCell ?_ ?_ _); rotate_left; · (first | exact Nat.le_refl _ | (simp; done) | (simp; omega) | omega)) | ((with_reducible refine Below.alloc ?_ ?_ _); rotate_left; · (first | exact Nat.le_refl _ | (simp; done) | (simp; omega) | omega)) | (with_reducible apply Below.drew) | (with_reducible apply below_drewN') | (refine Below.trans ?_ (Below.mono (by assumption) (by first | exact Nat.le_refl _ | (simp; done) | (simp; omega) | omega))) | exact Below.refl _ _ | assumption))
        case ca7R86 => (first | (simp [Act.put]; done) | (simp [Act.put, *]; done))
        try dsimp only
        refine wpW_end (by kernel_rfl) ?_
        intro we hg hS
        unfold NQ
        dsimp only
        exact H.out _ _ _ _ _ _ p q we (own_below own1 hg) (own_below own2 hg) hpq hS
    · refine wpOp_go (by rfl) (Eq.refl _) (by go_simp; done) ?_
      intro K hK
      go_simp
      try simp only [Act.put]
      refine hK _ _ hS2 ?_
      clear hK K
      refine wpW_branch [5] (by kernel_rfl) (by simp) ?_
      intro w3 hg3 hS3
      try replace own1 := own_below own1 hg3
      try replace own2 := own_below own2 hg3
      refine each_cons ?_ (each_nil)
      · refine wpOp_go (by rfl) (Eq.refl _) (by go_simp; done) ?_
        intro K hK
        refine wp_make_full _ (.tmp 121) (.tmp 121) 37 rfl W.heap.size 3 i0 (.int .i64 0) 1 Tryz.underlying37 hi hz0 hz1 .i64 .i64 _ _ N rfl rfl rfl rfl (by rw [hz2]; omega) (by unfold maxLen; omega) (Below.size hS3) ?_
        try have own1' := own1
        intro wb own2 hgrow
        try simp only [Act.put]
        try simp only [List.setIfInBounds_toArray]
        rw [made_ints] at own2
        try replace own1 := own1.kept hgrow (.inr (by simp [Value.ownBlock]))
        obtain ⟨q, hq⟩ : ∃ p, w3.heap.size = p := ⟨_, rfl⟩
        try have hpq : p ≠ q := by have := (own1'.lt p rfl).2; omega
        rw [hq] at own2 ⊢
        refine hK _ _ (Below.grown hS3 hgrow (Below.size hS3) (fun q e => by cases e)) ?_
        clear hK K hgrow hq
        try clear own1'
        refine wpW_det (t' := ?ct7R87) 7 (by rfl) (by kernel_rfl) (NQ_free _) (by kernel_rfl) ?cw7R87 ?ch7R87 ?ca7R87 (Eq.refl _) ?cH7R87
        case cw7R87 => (go_simp; done)
        case ch7R87 =>
          intro ds w' hS K hK
          have hc := (bcell hS).1
          have hf := (bcell hS).2
          have hz := hS.size
          try simp at hz
          go_simp
          try go_bits
          first
            | exact hK _ hS (Gr.refl _)
            | exact hK _ (by repeat (first | (with_reducible exact Below.refl _ _) | (with_reducible assumption) | ((with_reducible refine Below.setCell ?_ ?_ _); rotate_left; · (first | exact Nat.le_refl _ | (simp; done) | (simp; omega) | omega)) | ((with_reducible refine Below.alloc ?_ ?_ _); rotate_left; · (first | exact Nat.le_refl _ | (simp; done) | (simp; omega) | omega)) | (with_reducible apply Below.drew) | (with_reducible apply below_drewN') | (refine Below.trans ?_ (Below.mono (by assumption) (by first | exact Nat.le_refl _ | (simp; done) | (simp; omega) | omega))) | exact Below.refl _ _ | assumption)) (by repeat (first | (with_reducible exact Below.refl _ _) | (with_reducible assumption) | ((with_reducible refine Below.setCell ?_ ?_ _); rotate_left; · (first | exact Nat.le_refl _ | (simp; done) | (simp; omega) | omega)) | ((with_reducible refine Below.alloc ?_ ?_ _); rotate_left; · (first | exact Nat.le_refl _ | (simp; done) | (simp; omega) | omega)) | (with_reducible apply Below.drew) | (with_reducible apply below_drewN') | (refine Below.trans ?_ (Below.mono (by assumption) (by first | exact Nat.le_refl _ | (simp; done) | (simp; omega) | omega))) | exact Below.refl _ _ | assumption))
        case ca7R87 => (first | (simp [Act.put]; done) | (simp [Act.put, *]; done))
        try dsimp only
        refine wpW_end (by kernel_rfl) ?_
        intro we hg hS
        unfold NQ
        dsimp only
        exact H.out _ _ _ _ _ _ p q we (own_below own1 hg) (own_below own2 hg) hpq hS
  · refine wpOp_go (by rfl) (Eq.refl _) (by go_simp; done) ?_
    intro K hK
    refine wp_make_full _ (.tmp 121) (.tmp 121) 37 rfl W.heap.size 3 i0 (.int .i64 0) 1 Tryz.underlying37 hi hz0 hz1 .i64 .i64 _ _ N rfl rfl rfl rfl (by rw [hz2]; omega) (by unfold maxLen; omega) (Below.size hS1) ?_
    try have own1' := own1
    intro wb own2 hgrow
    try simp only [Act.put]
    try simp only [List.setIfInBounds_toArray]
    rw [made_ints] at own2
    try replace own1 := own1.kept hgrow (.inr (by simp [Value.ownBlock]))
    obtain ⟨q, hq⟩ : ∃ p, w1.heap.size = p := ⟨_, rfl⟩
    try have hpq : p ≠ q := by have := (own1'.lt p rfl).2; omega
    rw [hq] at own2 ⊢
    refine hK _ _ (Below.grown hS1 hgrow (Below.size hS1) (fun q e => by cases e)) ?_
    clear hK K hgrow hq
    try clear own1'
    refine wpW_branch [2] (by kernel_rfl) (by simp) ?_
    intro w2 hg2 hS2
    try replace own1 := own_below own1 hg2
    try replace own2 := own_below own2 hg2
    refine each_cons ?_ (each_nil)
    · refine wpOp_go (by rfl) (Eq.refl _) (by go_simp; done) ?_
      intro K hK
      refine wp_make_full _ (.tmp 118) (.tmp 118) 37 rfl W.heap.size 3 i0 (.int .i64 0) 1 Tryz.underlying37 hi hz0 hz1 .i64 .i64 _ _ N rfl rfl rfl rfl (by rw [hz2]; omega) (by unfold maxLen; omega) (Below.size hS2) ?_
      try have own2' := own2
      intro wa own1 hgrow
      try simp only [Act.put]
      try simp only [List.setIfInBounds_toArray]
      rw [made_ints] at own1
      try replace own2 := own2.kept hgrow (.inr (by simp [Value.ownBlock]))
      obtain ⟨p, hp⟩ : ∃ p, w2.heap.size = p := ⟨_, rfl⟩
      try have hpq : p ≠ q := by have := (own2'.lt q rfl).2; omega
      rw [hp] at own1 ⊢
      refine hK _ _ (Below.grown hS2 hgrow (Below.size hS2) (fun q e => by cases e)) ?_
      clear hK K hgrow hp
      try clear own2'
      refine wpW_branch [6] (by kernel_rfl) (by simp) ?_
      intro w3 hg3 hS3
      try replace own1 := own_below own1 hg3
      try replace own2 := own_below own2 hg3
      refine each_cons ?_ (each_nil)
      · refine wpOp_go (by rfl) (Eq.refl _) (by go_simp; done) ?_
        intro K hK
        go_simp
        try simp only [Act.put]
        refine hK _ _ hS3 ?_
        clear hK K
        refine wpW_det (t' := ?ct7R88) 7 (by rfl) (by kernel_rfl) (NQ_free _) (by kernel_rfl) ?cw7R88 ?ch7R88 ?ca7R88 (Eq.refl _) ?cH7R88
        case cw7R88 => (go_simp; done)
        case ch7R88 =>
          intro ds w' hS K hK
          have hc := (bcell hS).1
          have hf := (bcell hS).2
          have hz := hS.size
          try simp at hz
          go_simp
          try go_bits
          first
            | exact hK _ hS (Gr.refl _)
            | exact hK _ (by repeat (first | (with_reducible exact Below.refl _ _) | (with_reducible assumption) | ((with_reducible refine Below.setCell ?_ ?_ _); rotate_left; · (first | exact Nat.le_refl _ | (simp; done) | (simp; omega) | omega)) | ((with_reducible refine Below.alloc ?_ ?_ _); rotate_left; · (first | exact Nat.le_refl _ | (simp; done) | (simp; omega) | omega)) | (with_reducible apply Below.drew) | (with_reducible apply below_drewN') | (refine Below.trans ?_ (Below.mono (by assumption) (by first | exact Nat.le_refl _ | (simp; done) | (simp; omega) | omega))) | exact Below.refl _ _ | assumption)) (by repeat (first | (with_reducible exact Below.refl _ _) | (with_reducible assumption) | ((with_reducible refine Below.setCell ?_ ?_ _); rotate_left; · (first | exact Nat.le_refl _ | (simp; done) | (simp; omega) | omega)) | ((with_reducible refine Below.alloc ?_ ?_ _); rotate_left; · (first | exact Nat.le_refl _ | (simp; done) | (simp; omega) | omega)) | (with_reducible apply Below.drew) | (with_reducible apply below_drewN') | (refine Below.trans ?_ (Below.mono (by assumption) (by first | exact Nat.le_refl _ | (simp; done) | (simp; omega) | omega))) | exact Below.refl _ _ | assumption))
        case ca7R88 => (first | (simp [Act.put]; done) | (simp [Act.put, *]; done))
        try dsimp only
        refine wpW_end (by kernel_rfl) ?_
        intro we hg hS
        unfold NQ
        dsimp only
        exact H.out _ _ _ _ _ _ p q we (own_below own1 hg) (own_below own2 hg) hpq hS
end Go.Proofs.YtidgeagpgllkeaaGreat

namespace Go.Proofs.YtidgeagpgllkeaaGreat
open Go.RowKit Go.Shelf

set_option maxRecDepth 100000 in
set_option maxHeartbeats 4000000 in
/-- The groups of the marks, of a copy (region 17). -/
theorem grpReg17 (l : List Mk) (A : Option Addr) (c B : Nat) (r : Ru) {W : World} {q : Nat} (HL : Hid (∀ w', Below W.heap.size W w' → MkOk l A B w')) (hB : B ≤ W.heap.size) (hc : l.length ≤ c) (HA : Hid (A = none → c = 0)) (hl8 : l.length ≤ 8) (HSZ : Hid (∀ m ∈ l, m.nm.size ≤ 1000000000000)) (b4 : Blk W q 62 (ruC r)) (HRN : Hid (W64 r.num)) (HRD : Hid (W64 r.den)) (HGZ : Hid (groupedE l r = 0)) (HRS : Hid (RuS r)) {t1 t2 t3 t5 t6 t7 t8 t9 t10 t11 t12 t13 t14 t15 t16 t17 t18 t19 t20 t21 t22 t23 t24 t25 t26 t27 t28 t29 t30 t31 t32 t33 t34 t35 t36 t37 t38 t39 t40 t41 t42 t43 t44 t45 t46 t47 t48 t49 t50 t51 t52 t53 t54 t55 t56 t57 t58 t59 t60 t61 t62 t63 t64 t65 t66 t67 t68 t69 t70 t71 t72 t73 t74 t75 t76 t77 t78 t79 t80 t81 t82 t83 t84 t85 t86 t87 t88 t89 t90 t91 t92 t93 t94 t95 t96 t97 t98 t99 t100 t101 t102 t103 t104 t105 t106 t107 t108 t109 t110 t111 t112 t113 t114 t115 t116 t117 t118 t119 t120 t121 t122 t123 t124 t125 t126 t127 t128 t129 t130 t131 t132 t133 t134 t135 t136 t137 t138 t139 t140 t141 t142 t143 t144 t145 t146 t147 t148 t149 t150 t151 t152 t153 t154 t155 t156 t157 t158 t159 t160 t161 t162 t163 t164 t165 t166 t167 t168 t169 t170 t171 t172 t173 t174 t175 t176 t177 t178 t179 t180 t181 t182 t183 t184 t185 t186 t187 t188 t189 t190 t191 t192 t193 t194 t195 t196 t197 t198 t199 t200 t201 t202 t203 t204 t205 t206 t207 t208 t209 t210 t211 t212 t213 t214 t215 t216 t217 t218 t219 t220 t221 t222 t223 t224 t225 t226 t227 t228 t229 t230 t231 t232 t233 t234 t235 t236 t237 t238 t239 t240 t241 t242 t243 t244 t245 t246 t247 t248 t249 t250 t251 t252 t253 t254 t255 t256 t257 t258 t259 t260 t261 t262 t263 t264 t265 t266 t267 t268 t269 t270 t271 t272 t273 t274 t275 t276 t277 t278 t279 t280 t281 t282 t283 t284 t285 t286 : Value} {ds : List Deferred} (Q : Exit → Act → World → Prop)
    (h : ∀ (t84 t85 t86 t87 t88 t89 t90 : Value) (AG : Option Addr) (cG BG : Nat) (Ds : List Rw) (w' : World), ResG l r (Ds.map (·.ns)) → RwOk Ds AG BG w' → BG ≤ w'.heap.size → Below W.heap.size W w' → Q .normal ⟨#[.slice A l.length c, t1, t2, t3, .pointer (some ⟨q, 0, none⟩), t5, t6, t7, t8, t9, t10, t11, t12, .slice AG Ds.length cG, .int .i64 0, t15, t16, t17, t18, t19, t20, t21, t22, t23, t24, t25, t26, t27, t28, t29, t30, t31, t32, t33, t34, t35, t36, t37, t38, t39, t40, t41, t42, t43, t44, t45, t46, t47, t48, t49, t50, t51, t52, t53, t54, t55, t56, t57, t58, t59, t60, t61, t62, t63, t64, t65, t66, t67, t68, t69, t70, t71, t72, t73, t74, t75, t76, t77, t78, t79, t80, t81, t82, t83, t84, t85, t86, t87, t88, t89, t90, t91, t92, t93, t94, t95, t96, t97, t98, t99, t100, t101, t102, t103, t104, t105, t106, t107, t108, t109, t110, t111, t112, t113, t114, t115, t116, t117, t118, t119, t120, t121, t122, t123, t124, t125, t126, t127, t128, t129, t130, t131, t132, t133, t134, t135, t136, t137, t138, t139, t140, t141, t142, t143, t144, t145, t146, t147, t148, t149, t150, t151, t152, t153, t154, t155, t156, t157, t158, t159, t160, t161, t162, t163, t164, t165, t166, t167, t168, t169, t170, t171, t172, t173, t174, t175, t176, t177, t178, t179, t180, t181, t182, t183, t184, t185, t186, t187, t188, t189, t190, t191, t192, t193, t194, t195, t196, t197, t198, t199, t200, t201, t202, t203, t204, t205, t206, t207, t208, t209, t210, t211, t212, t213, t214, t215, t216, t217, t218, t219, t220, t221, t222, t223, t224, t225, t226, t227, t228, t229, t230, t231, t232, t233, t234, t235, t236, t237, t238, t239, t240, t241, t242, t243, t244, t245, t246, t247, t248, t249, t250, t251, t252, t253, t254, t255, t256, t257, t258, t259, t260, t261, t262, t263, t264, t265, t266, t267, t268, t269, t270, t271, t272, t273, t274, t275, t276, t277, t278, t279, t280, t281, t282, t283, t284, t285, t286], ds⟩ w') :
    (regOf Tryz.f8 17).wp Tryz.prog Q ⟨#[.slice A l.length c, t1, t2, t3, .pointer (some ⟨q, 0, none⟩), t5, t6, t7, t8, t9, t10, t11, t12, t13, t14, t15, t16, t17, t18, t19, t20, t21, t22, t23, t24, t25, t26, t27, t28, t29, t30, t31, t32, t33, t34, t35, t36, t37, t38, t39, t40, t41, t42, t43, t44, t45, t46, t47, t48, t49, t50, t51, t52, t53, t54, t55, t56, t57, t58, t59, t60, t61, t62, t63, t64, t65, t66, t67, t68, t69, t70, t71, t72, t73, t74, t75, t76, t77, t78, t79, t80, t81, t82, t83, t84, t85, t86, t87, t88, t89, t90, t91, t92, t93, t94, t95, t96, t97, t98, t99, t100, t101, t102, t103, t104, t105, t106, t107, t108, t109, t110, t111, t112, t113, t114, t115, t116, t117, t118, t119, t120, t121, t122, t123, t124, t125, t126, t127, t128, t129, t130, t131, t132, t133, t134, t135, t136, t137, t138, t139, t140, t141, t142, t143, t144, t145, t146, t147, t148, t149, t150, t151, t152, t153, t154, t155, t156, t157, t158, t159, t160, t161, t162, t163, t164, t165, t166, t167, t168, t169, t170, t171, t172, t173, t174, t175, t176, t177, t178, t179, t180, t181, t182, t183, t184, t185, t186, t187, t188, t189, t190, t191, t192, t193, t194, t195, t196, t197, t198, t199, t200, t201, t202, t203, t204, t205, t206, t207, t208, t209, t210, t211, t212, t213, t214, t215, t216, t217, t218, t219, t220, t221, t222, t223, t224, t225, t226, t227, t228, t229, t230, t231, t232, t233, t234, t235, t236, t237, t238, t239, t240, t241, t242, t243, t244, t245, t246, t247, t248, t249, t250, t251, t252, t253, t254, t255, t256, t257, t258, t259, t260, t261, t262, t263, t264, t265, t266, t267, t268, t269, t270, t271, t272, t273, t274, t275, t276, t277, t278, t279, t280, t281, t282, t283, t284, t285, t286], ds⟩ W := by
  have H := Lib.hid h; clear h
  obtain ⟨c0, c1, c2, c3, f4⟩ := blk4r b4
  have l4 := b4.lt
  conv in (regOf _ _) => whnf
  refine wp_region_w (Gr _) (by kernel_rfl) (Below.refl _ _).drew ?_
  refine wpW_det (t' := ?ct0R89) 0 (by rfl) (by kernel_rfl) (NQ_free _) (by kernel_rfl) ?cw0R89 ?ch0R89 ?ca0R89 (Eq.refl _) ?cH0R89
  case cw0R89 => (go_simp; done)
  case ch0R89 =>
    intro ds w' hS K hK
    have hc := (bcell hS).1
    have hf := (bcell hS).2
    have hz := hS.size
    try simp at hz
    go_simp
    try go_bits
    first
      | exact hK _ hS (Gr.refl _)
      | exact hK _ (by repeat (first | (with_reducible exact Below.refl _ _) | (with_reducible assumption) | ((with_reducible refine Below.setCell ?_ ?_ _); rotate_left; · (first | exact Nat.le_refl _ | (simp; done) | (simp; omega) | omega)) | ((with_reducible refine Below.alloc ?_ ?_ _); rotate_left; · (first | exact Nat.le_refl _ | (simp; done) | (simp; omega) | omega)) | (with_reducible apply Below.drew) | (with_reducible apply below_drewN') | (refine Below.trans ?_ (Below.mono (by assumption) (by first | exact Nat.le_refl _ | (simp; done) | (simp; omega) | omega))) | exact Below.refl _ _ | assumption)) (by repeat (first | (with_reducible exact Below.refl _ _) | (with_reducible assumption) | ((with_reducible refine Below.setCell ?_ ?_ _); rotate_left; · (first | exact Nat.le_refl _ | (simp; done) | (simp; omega) | omega)) | ((with_reducible refine Below.alloc ?_ ?_ _); rotate_left; · (first | exact Nat.le_refl _ | (simp; done) | (simp; omega) | omega)) | (with_reducible apply Below.drew) | (with_reducible apply below_drewN') | (refine Below.trans ?_ (Below.mono (by assumption) (by first | exact Nat.le_refl _ | (simp; done) | (simp; omega) | omega))) | exact Below.refl _ _ | assumption))
  case ca0R89 => (first | (simp [Act.put]; done) | (simp [Act.put, *]; done))
  try dsimp only
  refine wpW_det (t' := ?ct2R89) 2 (by rfl) (by kernel_rfl) (NQ_free _) (by kernel_rfl) ?cw2R89 ?ch2R89 ?ca2R89 (Eq.refl _) ?cH2R89
  case cw2R89 => (go_simp; done)
  case ch2R89 =>
    intro ds w' hS K hK
    have hc := (bcell hS).1
    have hf := (bcell hS).2
    have hz := hS.size
    try simp at hz
    go_simp
    try go_bits
    first
      | exact hK _ hS (Gr.refl _)
      | exact hK _ (by repeat (first | (with_reducible exact Below.refl _ _) | (with_reducible assumption) | ((with_reducible refine Below.setCell ?_ ?_ _); rotate_left; · (first | exact Nat.le_refl _ | (simp; done) | (simp; omega) | omega)) | ((with_reducible refine Below.alloc ?_ ?_ _); rotate_left; · (first | exact Nat.le_refl _ | (simp; done) | (simp; omega) | omega)) | (with_reducible apply Below.drew) | (with_reducible apply below_drewN') | (refine Below.trans ?_ (Below.mono (by assumption) (by first | exact Nat.le_refl _ | (simp; done) | (simp; omega) | omega))) | exact Below.refl _ _ | assumption)) (by repeat (first | (with_reducible exact Below.refl _ _) | (with_reducible assumption) | ((with_reducible refine Below.setCell ?_ ?_ _); rotate_left; · (first | exact Nat.le_refl _ | (simp; done) | (simp; omega) | omega)) | ((with_reducible refine Below.alloc ?_ ?_ _); rotate_left; · (first | exact Nat.le_refl _ | (simp; done) | (simp; omega) | omega)) | (with_reducible apply Below.drew) | (with_reducible apply below_drewN') | (refine Below.trans ?_ (Below.mono (by assumption) (by first | exact Nat.le_refl _ | (simp; done) | (simp; omega) | omega))) | exact Below.refl _ _ | assumption))
  case ca2R89 => (first | (simp [Act.put]; done) | (simp [Act.put, *]; done))
  try dsimp only
  refine wpW_branch [1] (by kernel_rfl) (by simp) ?_
  intro v1 hg_v1 hS_v1
  refine each_cons ?_ each_nil
  refine wpOp_go (by rfl) (Eq.refl _) (by go_simp; done) ?_
  intro K hK
  go_simp
  try simp only [Act.put]
  refine (copyMarks_any l A c B _ (HL.out _ hS_v1) hc (by have := Below.size hS_v1; omega) HA.out).mono ?_
  rintro e ws1 ⟨v3, rfl, own3, hBs⟩
  obtain ⟨Am, cm, rfl, hl3, hc3⟩ := copied own3 (by omega) HSZ.out
  refine hK _ _ (Below.trans hS_v1 (hBs.mono (Below.size hS_v1))) ?_
  clear hK K own3 hBs
  refine wpW_branch [3] (by kernel_rfl) (by simp) ?_
  intro v2 hg_v2 hS_v2
  refine each_cons ?_ each_nil
  refine wpOp_go (by rfl) (Eq.refl _) (by go_simp; done) ?_
  intro K hK
  go_simp
  try simp only [Act.put]
  refine (grouped_ok l Am cm _ r _ (hl3.below hg_v2 (Nat.le_refl _)) hc3 (Below.size hg_v2) HRN.out HRD.out HGZ.out).mono ?_
  rintro e ws2 ⟨vG, Ds, rfl, hperm, hpw, ownG, eachG, hBs⟩
  have hresG : ResG l r (Ds.map (·.ns)) := (groups_gi HRS.out).res hperm (List.pairwise_map.2 (hpw.imp (fun h => h)))
  obtain ⟨AG, cG, rfl, hG⟩ := own_rws ownG eachG
  refine hK _ _ (Below.trans hS_v2 (hBs.mono (Below.size hS_v2))) ?_
  clear hK K ownG eachG hBs hl3 hperm hpw
  refine wpW_det (t' := ?ct4R90) 4 (by rfl) (by kernel_rfl) (NQ_free _) (by kernel_rfl) ?cw4R90 ?ch4R90 ?ca4R90 (Eq.refl _) ?cH4R90
  case cw4R90 => (go_simp; done)
  case ch4R90 =>
    intro ds w' hS K hK
    have hc := (bcell hS).1
    have hf := (bcell hS).2
    have hz := hS.size
    try simp at hz
    go_simp
    try go_bits
    first
      | exact hK _ hS (Gr.refl _)
      | exact hK _ (by repeat (first | (with_reducible exact Below.refl _ _) | (with_reducible assumption) | ((with_reducible refine Below.setCell ?_ ?_ _); rotate_left; · (first | exact Nat.le_refl _ | (simp; done) | (simp; omega) | omega)) | ((with_reducible refine Below.alloc ?_ ?_ _); rotate_left; · (first | exact Nat.le_refl _ | (simp; done) | (simp; omega) | omega)) | (with_reducible apply Below.drew) | (with_reducible apply below_drewN') | (refine Below.trans ?_ (Below.mono (by assumption) (by first | exact Nat.le_refl _ | (simp; done) | (simp; omega) | omega))) | exact Below.refl _ _ | assumption)) (by repeat (first | (with_reducible exact Below.refl _ _) | (with_reducible assumption) | ((with_reducible refine Below.setCell ?_ ?_ _); rotate_left; · (first | exact Nat.le_refl _ | (simp; done) | (simp; omega) | omega)) | ((with_reducible refine Below.alloc ?_ ?_ _); rotate_left; · (first | exact Nat.le_refl _ | (simp; done) | (simp; omega) | omega)) | (with_reducible apply Below.drew) | (with_reducible apply below_drewN') | (refine Below.trans ?_ (Below.mono (by assumption) (by first | exact Nat.le_refl _ | (simp; done) | (simp; omega) | omega))) | exact Below.refl _ _ | assumption))
  case ca4R90 => (first | (simp [Act.put]; done) | (simp [Act.put, *]; done))
  try dsimp only
  refine wpW_det (t' := ?ct5R90) 5 (by rfl) (by kernel_rfl) (NQ_free _) (by kernel_rfl) ?cw5R90 ?ch5R90 ?ca5R90 (Eq.refl _) ?cH5R90
  case cw5R90 => (go_simp; done)
  case ch5R90 =>
    intro ds w' hS K hK
    have hc := (bcell hS).1
    have hf := (bcell hS).2
    have hz := hS.size
    try simp at hz
    go_simp
    try go_bits
    first
      | exact hK _ hS (Gr.refl _)
      | exact hK _ (by repeat (first | (with_reducible exact Below.refl _ _) | (with_reducible assumption) | ((with_reducible refine Below.setCell ?_ ?_ _); rotate_left; · (first | exact Nat.le_refl _ | (simp; done) | (simp; omega) | omega)) | ((with_reducible refine Below.alloc ?_ ?_ _); rotate_left; · (first | exact Nat.le_refl _ | (simp; done) | (simp; omega) | omega)) | (with_reducible apply Below.drew) | (with_reducible apply below_drewN') | (refine Below.trans ?_ (Below.mono (by assumption) (by first | exact Nat.le_refl _ | (simp; done) | (simp; omega) | omega))) | exact Below.refl _ _ | assumption)) (by repeat (first | (with_reducible exact Below.refl _ _) | (with_reducible assumption) | ((with_reducible refine Below.setCell ?_ ?_ _); rotate_left; · (first | exact Nat.le_refl _ | (simp; done) | (simp; omega) | omega)) | ((with_reducible refine Below.alloc ?_ ?_ _); rotate_left; · (first | exact Nat.le_refl _ | (simp; done) | (simp; omega) | omega)) | (with_reducible apply Below.drew) | (with_reducible apply below_drewN') | (refine Below.trans ?_ (Below.mono (by assumption) (by first | exact Nat.le_refl _ | (simp; done) | (simp; omega) | omega))) | exact Below.refl _ _ | assumption))
  case ca5R90 => (first | (simp [Act.put]; done) | (simp [Act.put, *]; done))
  try dsimp only
  refine wpW_det (t' := ?ct6R90) 6 (by rfl) (by kernel_rfl) (NQ_free _) (by kernel_rfl) ?cw6R90 ?ch6R90 ?ca6R90 (Eq.refl _) ?cH6R90
  case cw6R90 => (go_simp; done)
  case ch6R90 =>
    intro ds w' hS K hK
    have hc := (bcell hS).1
    have hf := (bcell hS).2
    have hz := hS.size
    try simp at hz
    go_simp
    try go_bits
    first
      | exact hK _ hS (Gr.refl _)
      | exact hK _ (by repeat (first | (with_reducible exact Below.refl _ _) | (with_reducible assumption) | ((with_reducible refine Below.setCell ?_ ?_ _); rotate_left; · (first | exact Nat.le_refl _ | (simp; done) | (simp; omega) | omega)) | ((with_reducible refine Below.alloc ?_ ?_ _); rotate_left; · (first | exact Nat.le_refl _ | (simp; done) | (simp; omega) | omega)) | (with_reducible apply Below.drew) | (with_reducible apply below_drewN') | (refine Below.trans ?_ (Below.mono (by assumption) (by first | exact Nat.le_refl _ | (simp; done) | (simp; omega) | omega))) | exact Below.refl _ _ | assumption)) (by repeat (first | (with_reducible exact Below.refl _ _) | (with_reducible assumption) | ((with_reducible refine Below.setCell ?_ ?_ _); rotate_left; · (first | exact Nat.le_refl _ | (simp; done) | (simp; omega) | omega)) | ((with_reducible refine Below.alloc ?_ ?_ _); rotate_left; · (first | exact Nat.le_refl _ | (simp; done) | (simp; omega) | omega)) | (with_reducible apply Below.drew) | (with_reducible apply below_drewN') | (refine Below.trans ?_ (Below.mono (by assumption) (by first | exact Nat.le_refl _ | (simp; done) | (simp; omega) | omega))) | exact Below.refl _ _ | assumption))
  case ca6R90 => (first | (simp [Act.put]; done) | (simp [Act.put, *]; done))
  try dsimp only
  refine wpW_det (t' := ?ct7R90) 7 (by rfl) (by kernel_rfl) (NQ_free _) (by kernel_rfl) ?cw7R90 ?ch7R90 ?ca7R90 (Eq.refl _) ?cH7R90
  case cw7R90 => (go_simp; done)
  case ch7R90 =>
    intro ds w' hS K hK
    have hc := (bcell hS).1
    have hf := (bcell hS).2
    have hz := hS.size
    try simp at hz
    go_simp
    try go_bits
    first
      | exact hK _ hS (Gr.refl _)
      | exact hK _ (by repeat (first | (with_reducible exact Below.refl _ _) | (with_reducible assumption) | ((with_reducible refine Below.setCell ?_ ?_ _); rotate_left; · (first | exact Nat.le_refl _ | (simp; done) | (simp; omega) | omega)) | ((with_reducible refine Below.alloc ?_ ?_ _); rotate_left; · (first | exact Nat.le_refl _ | (simp; done) | (simp; omega) | omega)) | (with_reducible apply Below.drew) | (with_reducible apply below_drewN') | (refine Below.trans ?_ (Below.mono (by assumption) (by first | exact Nat.le_refl _ | (simp; done) | (simp; omega) | omega))) | exact Below.refl _ _ | assumption)) (by repeat (first | (with_reducible exact Below.refl _ _) | (with_reducible assumption) | ((with_reducible refine Below.setCell ?_ ?_ _); rotate_left; · (first | exact Nat.le_refl _ | (simp; done) | (simp; omega) | omega)) | ((with_reducible refine Below.alloc ?_ ?_ _); rotate_left; · (first | exact Nat.le_refl _ | (simp; done) | (simp; omega) | omega)) | (with_reducible apply Below.drew) | (with_reducible apply below_drewN') | (refine Below.trans ?_ (Below.mono (by assumption) (by first | exact Nat.le_refl _ | (simp; done) | (simp; omega) | omega))) | exact Below.refl _ _ | assumption))
  case ca7R90 => (first | (simp [Act.put]; done) | (simp [Act.put, *]; done))
  try dsimp only
  refine wpW_det (t' := ?ct8R90) 8 (by rfl) (by kernel_rfl) (NQ_free _) (by kernel_rfl) ?cw8R90 ?ch8R90 ?ca8R90 (Eq.refl _) ?cH8R90
  case cw8R90 => (go_simp; done)
  case ch8R90 =>
    intro ds w' hS K hK
    have hc := (bcell hS).1
    have hf := (bcell hS).2
    have hz := hS.size
    try simp at hz
    go_simp
    try go_bits
    first
      | exact hK _ hS (Gr.refl _)
      | exact hK _ (by repeat (first | (with_reducible exact Below.refl _ _) | (with_reducible assumption) | ((with_reducible refine Below.setCell ?_ ?_ _); rotate_left; · (first | exact Nat.le_refl _ | (simp; done) | (simp; omega) | omega)) | ((with_reducible refine Below.alloc ?_ ?_ _); rotate_left; · (first | exact Nat.le_refl _ | (simp; done) | (simp; omega) | omega)) | (with_reducible apply Below.drew) | (with_reducible apply below_drewN') | (refine Below.trans ?_ (Below.mono (by assumption) (by first | exact Nat.le_refl _ | (simp; done) | (simp; omega) | omega))) | exact Below.refl _ _ | assumption)) (by repeat (first | (with_reducible exact Below.refl _ _) | (with_reducible assumption) | ((with_reducible refine Below.setCell ?_ ?_ _); rotate_left; · (first | exact Nat.le_refl _ | (simp; done) | (simp; omega) | omega)) | ((with_reducible refine Below.alloc ?_ ?_ _); rotate_left; · (first | exact Nat.le_refl _ | (simp; done) | (simp; omega) | omega)) | (with_reducible apply Below.drew) | (with_reducible apply below_drewN') | (refine Below.trans ?_ (Below.mono (by assumption) (by first | exact Nat.le_refl _ | (simp; done) | (simp; omega) | omega))) | exact Below.refl _ _ | assumption))
  case ca8R90 => (first | (simp [Act.put]; done) | (simp [Act.put, *]; done))
  try dsimp only
  refine wpW_end (by kernel_rfl) ?_
  intro we hg hS
  unfold NQ
  dsimp only
  exact H.out _ _ _ _ _ _ _ AG cG _ Ds we hresG (hG.below hg (Nat.le_refl _)) (Below.size hg) hS

set_option maxRecDepth 100000 in
set_option maxHeartbeats 4000000 in
/-- Whether the hulls of two groups interact (region 53). -/
theorem intReg53 (l : List Mk) (A : Option Addr) (c B : Nat) (r : Ru) {W : World} {q : Nat} (hl : MkOk l A B W) (hB : B ≤ W.heap.size) (b4 : Blk W q 62 (ruC r)) (HRN : Hid (W64 r.num)) (HRD : Hid (W64 r.den)) {Ds : List Rw} {AG : Option Addr} {cG BG : Nat} (hG : RwOk Ds AG BG W) (hBG : BG ≤ W.heap.size) {i k : Nat} (hi : i < Ds.length) (hk : k < Ds.length) (hni : 0 < Ds[i].ns.length) (hnk : 0 < Ds[k].ns.length) (hmi : Ds[i].ns.length ≤ 1000) (hmk : Ds[k].ns.length ≤ 1000)
    (HBI : Hid (∀ x ∈ Ds[i].ns, 0 ≤ x ∧ x < (l.length : Int))) (HBK : Hid (∀ x ∈ Ds[k].ns, 0 ≤ x ∧ x < (l.length : Int))) (HSI : Hid ((hullR l Ds[i].ns).nm.size ≤ 1000000000000 ∧ (hullR l Ds[k].ns).nm.size ≤ 1000000000000)) (HNO : Hid (pairE (hullR l Ds[i].ns) (hullR l Ds[k].ns) r = 0 ∧ interactV (hullR l Ds[i].ns) (hullR l Ds[k].ns) r = false)) {t1 t2 t3 t5 t6 t7 t8 t9 t10 t11 t12 t14 t15 t16 t17 t18 t19 t20 t21 t22 t23 t26 t27 t28 t29 t30 t31 t32 t33 t34 t35 t36 t37 t38 t39 t40 t41 t42 t43 t44 t45 t46 t47 t48 t49 t50 t51 t52 t53 t54 t55 t56 t57 t58 t59 t60 t61 t62 t63 t64 t65 t66 t67 t68 t69 t70 t71 t72 t73 t74 t75 t76 t77 t78 t79 t80 t81 t82 t83 t84 t85 t86 t87 t88 t89 t90 t91 t92 t93 t94 t95 t96 t97 t98 t99 t100 t101 t102 t103 t104 t105 t106 t107 t108 t109 t110 t111 t112 t113 t114 t115 t116 t117 t118 t119 t120 t121 t122 t123 t124 t125 t126 t127 t128 t129 t130 t131 t132 t133 t134 t135 t136 t137 t138 t139 t140 t141 t142 t143 t144 t145 t146 t147 t148 t149 t150 t151 t152 t153 t154 t155 t156 t157 t158 t159 t160 t161 t162 t163 t164 t165 t166 t167 t168 t169 t170 t171 t172 t173 t174 t175 t176 t177 t178 t179 t180 t181 t182 t183 t184 t185 t186 t187 t188 t189 t190 t191 t192 t193 t194 t195 t196 t197 t198 t199 t200 t201 t202 t203 t204 t205 t206 t207 t208 t209 t210 t211 t212 t213 t214 t215 t216 t217 t218 t219 t220 t221 t222 t223 t224 t225 t226 t227 t228 t229 t230 t231 t232 t233 t234 t235 t236 t237 t238 t239 t240 t241 t242 t243 t244 t245 t246 t247 t248 t249 t250 t251 t252 t253 t254 t255 t256 t257 t258 t259 t260 t261 t262 t263 t264 t265 t266 t267 t268 t269 t270 t271 t272 t273 t274 t275 t276 t277 t278 t279 t280 t281 t282 t283 t284 t285 t286 : Value} {ds : List Deferred} (Q : Exit → Act → World → Prop)
    (h : ∀ (t265 t266 t267 t268 t269 t270 t271 t272 t273 t274 t275 t276 t277 t278 t279 t280 t281 : Value) (w' : World), Below W.heap.size W w' → Q .normal ⟨#[.slice A l.length c, t1, t2, t3, .pointer (some ⟨q, 0, none⟩), t5, t6, t7, t8, t9, t10, t11, t12, .slice AG Ds.length cG, t14, t15, t16, t17, t18, t19, t20, t21, t22, t23, .int .i64 (i : Int), .int .i64 (k : Int), .bool false, .int .i64 0, t28, t29, t30, t31, t32, t33, t34, t35, t36, t37, t38, t39, t40, t41, t42, t43, t44, t45, t46, t47, t48, t49, t50, t51, t52, t53, t54, t55, t56, t57, t58, t59, t60, t61, t62, t63, t64, t65, t66, t67, t68, t69, t70, t71, t72, t73, t74, t75, t76, t77, t78, t79, t80, t81, t82, t83, t84, t85, t86, t87, t88, t89, t90, t91, t92, t93, t94, t95, t96, t97, t98, t99, t100, t101, t102, t103, t104, t105, t106, t107, t108, t109, t110, t111, t112, t113, t114, t115, t116, t117, t118, t119, t120, t121, t122, t123, t124, t125, t126, t127, t128, t129, t130, t131, t132, t133, t134, t135, t136, t137, t138, t139, t140, t141, t142, t143, t144, t145, t146, t147, t148, t149, t150, t151, t152, t153, t154, t155, t156, t157, t158, t159, t160, t161, t162, t163, t164, t165, t166, t167, t168, t169, t170, t171, t172, t173, t174, t175, t176, t177, t178, t179, t180, t181, t182, t183, t184, t185, t186, t187, t188, t189, t190, t191, t192, t193, t194, t195, t196, t197, t198, t199, t200, t201, t202, t203, t204, t205, t206, t207, t208, t209, t210, t211, t212, t213, t214, t215, t216, t217, t218, t219, t220, t221, t222, t223, t224, t225, t226, t227, t228, t229, t230, t231, t232, t233, t234, t235, t236, t237, t238, t239, t240, t241, t242, t243, t244, t245, t246, t247, t248, t249, t250, t251, t252, t253, t254, t255, t256, t257, t258, t259, t260, t261, t262, t263, t264, t265, t266, t267, t268, t269, t270, t271, t272, t273, t274, t275, t276, t277, t278, t279, t280, t281, t282, t283, t284, t285, t286], ds⟩ w') :
    (regOf Tryz.f8 53).wp Tryz.prog Q ⟨#[.slice A l.length c, t1, t2, t3, .pointer (some ⟨q, 0, none⟩), t5, t6, t7, t8, t9, t10, t11, t12, .slice AG Ds.length cG, t14, t15, t16, t17, t18, t19, t20, t21, t22, t23, .int .i64 (i : Int), .int .i64 (k : Int), t26, t27, t28, t29, t30, t31, t32, t33, t34, t35, t36, t37, t38, t39, t40, t41, t42, t43, t44, t45, t46, t47, t48, t49, t50, t51, t52, t53, t54, t55, t56, t57, t58, t59, t60, t61, t62, t63, t64, t65, t66, t67, t68, t69, t70, t71, t72, t73, t74, t75, t76, t77, t78, t79, t80, t81, t82, t83, t84, t85, t86, t87, t88, t89, t90, t91, t92, t93, t94, t95, t96, t97, t98, t99, t100, t101, t102, t103, t104, t105, t106, t107, t108, t109, t110, t111, t112, t113, t114, t115, t116, t117, t118, t119, t120, t121, t122, t123, t124, t125, t126, t127, t128, t129, t130, t131, t132, t133, t134, t135, t136, t137, t138, t139, t140, t141, t142, t143, t144, t145, t146, t147, t148, t149, t150, t151, t152, t153, t154, t155, t156, t157, t158, t159, t160, t161, t162, t163, t164, t165, t166, t167, t168, t169, t170, t171, t172, t173, t174, t175, t176, t177, t178, t179, t180, t181, t182, t183, t184, t185, t186, t187, t188, t189, t190, t191, t192, t193, t194, t195, t196, t197, t198, t199, t200, t201, t202, t203, t204, t205, t206, t207, t208, t209, t210, t211, t212, t213, t214, t215, t216, t217, t218, t219, t220, t221, t222, t223, t224, t225, t226, t227, t228, t229, t230, t231, t232, t233, t234, t235, t236, t237, t238, t239, t240, t241, t242, t243, t244, t245, t246, t247, t248, t249, t250, t251, t252, t253, t254, t255, t256, t257, t258, t259, t260, t261, t262, t263, t264, t265, t266, t267, t268, t269, t270, t271, t272, t273, t274, t275, t276, t277, t278, t279, t280, t281, t282, t283, t284, t285, t286], ds⟩ W := by
  have H := Lib.hid h; clear h
  obtain ⟨c0, c1, c2, c3, f4⟩ := blk4r b4
  have l4 := b4.lt
  obtain ⟨g1, o1, hA1, hg1, x1⟩ := hG.cell hi
  obtain ⟨g2, o2, hA2, hg2, x2⟩ := hG.cell hk
  have ri := hG.each _ (List.getElem_mem hi)
  have rk := hG.each _ (List.getElem_mem hk)
  have i1 : ((i : Int) < (Ds.length : Int)) := by omega
  have i2 : ((k : Int) < (Ds.length : Int)) := by omega
  generalize Ds[i] = D at *
  generalize Ds[k] = E at *
  obtain ⟨db, dc, dn⟩ := D
  obtain ⟨eb, ec, en⟩ := E
  unfold rwV at x1 x2
  dsimp only at *
  subst hA1
  obtain ⟨rfl, rfl⟩ : g1 = g2 ∧ o1 = o2 := by simpa using hA2
  clear hA2
  have lx : g1 < W.heap.size := by omega
  conv in (regOf _ _) => whnf
  refine wp_region_w (Gr _) (by kernel_rfl) (Below.refl _ _).drew ?_
  refine wpW_det (t' := ?ct0R91) 0 (by rfl) (by kernel_rfl) (NQ_free _) (by kernel_rfl) ?cw0R91 ?ch0R91 ?ca0R91 (Eq.refl _) ?cH0R91
  case cw0R91 => (go_simp; done)
  case ch0R91 =>
    intro ds w' hS K hK
    have hc := (bcell hS).1
    have hf := (bcell hS).2
    have hz := hS.size
    try simp at hz
    go_simp
    try go_bits
    first
      | exact hK _ hS (Gr.refl _)
      | exact hK _ (by repeat (first | (with_reducible exact Below.refl _ _) | (with_reducible assumption) | ((with_reducible refine Below.setCell ?_ ?_ _); rotate_left; · (first | exact Nat.le_refl _ | (simp; done) | (simp; omega) | omega)) | ((with_reducible refine Below.alloc ?_ ?_ _); rotate_left; · (first | exact Nat.le_refl _ | (simp; done) | (simp; omega) | omega)) | (with_reducible apply Below.drew) | (with_reducible apply below_drewN') | (refine Below.trans ?_ (Below.mono (by assumption) (by first | exact Nat.le_refl _ | (simp; done) | (simp; omega) | omega))) | exact Below.refl _ _ | assumption)) (by repeat (first | (with_reducible exact Below.refl _ _) | (with_reducible assumption) | ((with_reducible refine Below.setCell ?_ ?_ _); rotate_left; · (first | exact Nat.le_refl _ | (simp; done) | (simp; omega) | omega)) | ((with_reducible refine Below.alloc ?_ ?_ _); rotate_left; · (first | exact Nat.le_refl _ | (simp; done) | (simp; omega) | omega)) | (with_reducible apply Below.drew) | (with_reducible apply below_drewN') | (refine Below.trans ?_ (Below.mono (by assumption) (by first | exact Nat.le_refl _ | (simp; done) | (simp; omega) | omega))) | exact Below.refl _ _ | assumption))
  case ca0R91 => (first | (simp [Act.put]; done) | (simp [Act.put, *]; done))
  try dsimp only
  refine wpW_det (t' := ?ct1R91) 1 (by rfl) (by kernel_rfl) (NQ_free _) (by kernel_rfl) ?cw1R91 ?ch1R91 ?ca1R91 (Eq.refl _) ?cH1R91
  case cw1R91 => (go_simp; done)
  case ch1R91 =>
    intro ds w' hS K hK
    have hc := (bcell hS).1
    have hf := (bcell hS).2
    have hz := hS.size
    try simp at hz
    go_simp
    try go_bits
    first
      | exact hK _ hS (Gr.refl _)
      | exact hK _ (by repeat (first | (with_reducible exact Below.refl _ _) | (with_reducible assumption) | ((with_reducible refine Below.setCell ?_ ?_ _); rotate_left; · (first | exact Nat.le_refl _ | (simp; done) | (simp; omega) | omega)) | ((with_reducible refine Below.alloc ?_ ?_ _); rotate_left; · (first | exact Nat.le_refl _ | (simp; done) | (simp; omega) | omega)) | (with_reducible apply Below.drew) | (with_reducible apply below_drewN') | (refine Below.trans ?_ (Below.mono (by assumption) (by first | exact Nat.le_refl _ | (simp; done) | (simp; omega) | omega))) | exact Below.refl _ _ | assumption)) (by repeat (first | (with_reducible exact Below.refl _ _) | (with_reducible assumption) | ((with_reducible refine Below.setCell ?_ ?_ _); rotate_left; · (first | exact Nat.le_refl _ | (simp; done) | (simp; omega) | omega)) | ((with_reducible refine Below.alloc ?_ ?_ _); rotate_left; · (first | exact Nat.le_refl _ | (simp; done) | (simp; omega) | omega)) | (with_reducible apply Below.drew) | (with_reducible apply below_drewN') | (refine Below.trans ?_ (Below.mono (by assumption) (by first | exact Nat.le_refl _ | (simp; done) | (simp; omega) | omega))) | exact Below.refl _ _ | assumption))
  case ca1R91 => (first | (simp [Act.put]; done) | (simp [Act.put, *]; done))
  try dsimp only
  refine wpW_det (t' := ?ct2R91) 2 (by rfl) (by kernel_rfl) (NQ_free _) (by kernel_rfl) ?cw2R91 ?ch2R91 ?ca2R91 (Eq.refl _) ?cH2R91
  case cw2R91 => (go_simp; done)
  case ch2R91 =>
    intro ds w' hS K hK
    have hc := (bcell hS).1
    have hf := (bcell hS).2
    have hz := hS.size
    try simp at hz
    go_simp
    try go_bits
    first
      | exact hK _ hS (Gr.refl _)
      | exact hK _ (by repeat (first | (with_reducible exact Below.refl _ _) | (with_reducible assumption) | ((with_reducible refine Below.setCell ?_ ?_ _); rotate_left; · (first | exact Nat.le_refl _ | (simp; done) | (simp; omega) | omega)) | ((with_reducible refine Below.alloc ?_ ?_ _); rotate_left; · (first | exact Nat.le_refl _ | (simp; done) | (simp; omega) | omega)) | (with_reducible apply Below.drew) | (with_reducible apply below_drewN') | (refine Below.trans ?_ (Below.mono (by assumption) (by first | exact Nat.le_refl _ | (simp; done) | (simp; omega) | omega))) | exact Below.refl _ _ | assumption)) (by repeat (first | (with_reducible exact Below.refl _ _) | (with_reducible assumption) | ((with_reducible refine Below.setCell ?_ ?_ _); rotate_left; · (first | exact Nat.le_refl _ | (simp; done) | (simp; omega) | omega)) | ((with_reducible refine Below.alloc ?_ ?_ _); rotate_left; · (first | exact Nat.le_refl _ | (simp; done) | (simp; omega) | omega)) | (with_reducible apply Below.drew) | (with_reducible apply below_drewN') | (refine Below.trans ?_ (Below.mono (by assumption) (by first | exact Nat.le_refl _ | (simp; done) | (simp; omega) | omega))) | exact Below.refl _ _ | assumption))
  case ca2R91 => (first | (simp [Act.put]; done) | (simp [Act.put, *]; done))
  try dsimp only
  refine wpW_det (t' := ?ct3R91) 3 (by rfl) (by kernel_rfl) (NQ_free _) (by kernel_rfl) ?cw3R91 ?ch3R91 ?ca3R91 (Eq.refl _) ?cH3R91
  case cw3R91 => (go_simp; done)
  case ch3R91 =>
    intro ds w' hS K hK
    have hc := (bcell hS).1
    have hf := (bcell hS).2
    have hz := hS.size
    try simp at hz
    go_simp
    try go_bits
    first
      | exact hK _ hS (Gr.refl _)
      | exact hK _ (by repeat (first | (with_reducible exact Below.refl _ _) | (with_reducible assumption) | ((with_reducible refine Below.setCell ?_ ?_ _); rotate_left; · (first | exact Nat.le_refl _ | (simp; done) | (simp; omega) | omega)) | ((with_reducible refine Below.alloc ?_ ?_ _); rotate_left; · (first | exact Nat.le_refl _ | (simp; done) | (simp; omega) | omega)) | (with_reducible apply Below.drew) | (with_reducible apply below_drewN') | (refine Below.trans ?_ (Below.mono (by assumption) (by first | exact Nat.le_refl _ | (simp; done) | (simp; omega) | omega))) | exact Below.refl _ _ | assumption)) (by repeat (first | (with_reducible exact Below.refl _ _) | (with_reducible assumption) | ((with_reducible refine Below.setCell ?_ ?_ _); rotate_left; · (first | exact Nat.le_refl _ | (simp; done) | (simp; omega) | omega)) | ((with_reducible refine Below.alloc ?_ ?_ _); rotate_left; · (first | exact Nat.le_refl _ | (simp; done) | (simp; omega) | omega)) | (with_reducible apply Below.drew) | (with_reducible apply below_drewN') | (refine Below.trans ?_ (Below.mono (by assumption) (by first | exact Nat.le_refl _ | (simp; done) | (simp; omega) | omega))) | exact Below.refl _ _ | assumption))
  case ca3R91 => (first | (simp [Act.put]; done) | (simp [Act.put, *]; done))
  try dsimp only
  refine wpW_det (t' := ?ct4R91) 4 (by rfl) (by kernel_rfl) (NQ_free _) (by kernel_rfl) ?cw4R91 ?ch4R91 ?ca4R91 (Eq.refl _) ?cH4R91
  case cw4R91 => (go_simp; done)
  case ch4R91 =>
    intro ds w' hS K hK
    have hc := (bcell hS).1
    have hf := (bcell hS).2
    have hz := hS.size
    try simp at hz
    go_simp
    try go_bits
    first
      | exact hK _ hS (Gr.refl _)
      | exact hK _ (by repeat (first | (with_reducible exact Below.refl _ _) | (with_reducible assumption) | ((with_reducible refine Below.setCell ?_ ?_ _); rotate_left; · (first | exact Nat.le_refl _ | (simp; done) | (simp; omega) | omega)) | ((with_reducible refine Below.alloc ?_ ?_ _); rotate_left; · (first | exact Nat.le_refl _ | (simp; done) | (simp; omega) | omega)) | (with_reducible apply Below.drew) | (with_reducible apply below_drewN') | (refine Below.trans ?_ (Below.mono (by assumption) (by first | exact Nat.le_refl _ | (simp; done) | (simp; omega) | omega))) | exact Below.refl _ _ | assumption)) (by repeat (first | (with_reducible exact Below.refl _ _) | (with_reducible assumption) | ((with_reducible refine Below.setCell ?_ ?_ _); rotate_left; · (first | exact Nat.le_refl _ | (simp; done) | (simp; omega) | omega)) | ((with_reducible refine Below.alloc ?_ ?_ _); rotate_left; · (first | exact Nat.le_refl _ | (simp; done) | (simp; omega) | omega)) | (with_reducible apply Below.drew) | (with_reducible apply below_drewN') | (refine Below.trans ?_ (Below.mono (by assumption) (by first | exact Nat.le_refl _ | (simp; done) | (simp; omega) | omega))) | exact Below.refl _ _ | assumption))
  case ca4R91 => (first | (simp [Act.put]; done) | (simp [Act.put, *]; done))
  try dsimp only
  refine wpW_det (t' := ?ct6R91) 6 (by rfl) (by kernel_rfl) (NQ_free _) (by kernel_rfl) ?cw6R91 ?ch6R91 ?ca6R91 (Eq.refl _) ?cH6R91
  case cw6R91 => (go_simp; done)
  case ch6R91 =>
    intro ds w' hS K hK
    have hc := (bcell hS).1
    have hf := (bcell hS).2
    have hz := hS.size
    try simp at hz
    go_simp
    try go_bits
    first
      | exact hK _ hS (Gr.refl _)
      | exact hK _ (by repeat (first | (with_reducible exact Below.refl _ _) | (with_reducible assumption) | ((with_reducible refine Below.setCell ?_ ?_ _); rotate_left; · (first | exact Nat.le_refl _ | (simp; done) | (simp; omega) | omega)) | ((with_reducible refine Below.alloc ?_ ?_ _); rotate_left; · (first | exact Nat.le_refl _ | (simp; done) | (simp; omega) | omega)) | (with_reducible apply Below.drew) | (with_reducible apply below_drewN') | (refine Below.trans ?_ (Below.mono (by assumption) (by first | exact Nat.le_refl _ | (simp; done) | (simp; omega) | omega))) | exact Below.refl _ _ | assumption)) (by repeat (first | (with_reducible exact Below.refl _ _) | (with_reducible assumption) | ((with_reducible refine Below.setCell ?_ ?_ _); rotate_left; · (first | exact Nat.le_refl _ | (simp; done) | (simp; omega) | omega)) | ((with_reducible refine Below.alloc ?_ ?_ _); rotate_left; · (first | exact Nat.le_refl _ | (simp; done) | (simp; omega) | omega)) | (with_reducible apply Below.drew) | (with_reducible apply below_drewN') | (refine Below.trans ?_ (Below.mono (by assumption) (by first | exact Nat.le_refl _ | (simp; done) | (simp; omega) | omega))) | exact Below.refl _ _ | assumption))
  case ca6R91 => (first | (simp [Act.put]; done) | (simp [Act.put, *]; done))
  try dsimp only
  refine wpW_det (t' := ?ct7R91) 7 (by rfl) (by kernel_rfl) (NQ_free _) (by kernel_rfl) ?cw7R91 ?ch7R91 ?ca7R91 (Eq.refl _) ?cH7R91
  case cw7R91 => (go_simp; done)
  case ch7R91 =>
    intro ds w' hS K hK
    have hc := (bcell hS).1
    have hf := (bcell hS).2
    have hz := hS.size
    try simp at hz
    go_simp
    try go_bits
    first
      | exact hK _ hS (Gr.refl _)
      | exact hK _ (by repeat (first | (with_reducible exact Below.refl _ _) | (with_reducible assumption) | ((with_reducible refine Below.setCell ?_ ?_ _); rotate_left; · (first | exact Nat.le_refl _ | (simp; done) | (simp; omega) | omega)) | ((with_reducible refine Below.alloc ?_ ?_ _); rotate_left; · (first | exact Nat.le_refl _ | (simp; done) | (simp; omega) | omega)) | (with_reducible apply Below.drew) | (with_reducible apply below_drewN') | (refine Below.trans ?_ (Below.mono (by assumption) (by first | exact Nat.le_refl _ | (simp; done) | (simp; omega) | omega))) | exact Below.refl _ _ | assumption)) (by repeat (first | (with_reducible exact Below.refl _ _) | (with_reducible assumption) | ((with_reducible refine Below.setCell ?_ ?_ _); rotate_left; · (first | exact Nat.le_refl _ | (simp; done) | (simp; omega) | omega)) | ((with_reducible refine Below.alloc ?_ ?_ _); rotate_left; · (first | exact Nat.le_refl _ | (simp; done) | (simp; omega) | omega)) | (with_reducible apply Below.drew) | (with_reducible apply below_drewN') | (refine Below.trans ?_ (Below.mono (by assumption) (by first | exact Nat.le_refl _ | (simp; done) | (simp; omega) | omega))) | exact Below.refl _ _ | assumption))
  case ca7R91 => (first | (simp [Act.put]; done) | (simp [Act.put, *]; done))
  try dsimp only
  refine wpW_det (t' := ?ct8R91) 8 (by rfl) (by kernel_rfl) (NQ_free _) (by kernel_rfl) ?cw8R91 ?ch8R91 ?ca8R91 (Eq.refl _) ?cH8R91
  case cw8R91 => (go_simp; done)
  case ch8R91 =>
    intro ds w' hS K hK
    have hc := (bcell hS).1
    have hf := (bcell hS).2
    have hz := hS.size
    try simp at hz
    go_simp
    try go_bits
    first
      | exact hK _ hS (Gr.refl _)
      | exact hK _ (by repeat (first | (with_reducible exact Below.refl _ _) | (with_reducible assumption) | ((with_reducible refine Below.setCell ?_ ?_ _); rotate_left; · (first | exact Nat.le_refl _ | (simp; done) | (simp; omega) | omega)) | ((with_reducible refine Below.alloc ?_ ?_ _); rotate_left; · (first | exact Nat.le_refl _ | (simp; done) | (simp; omega) | omega)) | (with_reducible apply Below.drew) | (with_reducible apply below_drewN') | (refine Below.trans ?_ (Below.mono (by assumption) (by first | exact Nat.le_refl _ | (simp; done) | (simp; omega) | omega))) | exact Below.refl _ _ | assumption)) (by repeat (first | (with_reducible exact Below.refl _ _) | (with_reducible assumption) | ((with_reducible refine Below.setCell ?_ ?_ _); rotate_left; · (first | exact Nat.le_refl _ | (simp; done) | (simp; omega) | omega)) | ((with_reducible refine Below.alloc ?_ ?_ _); rotate_left; · (first | exact Nat.le_refl _ | (simp; done) | (simp; omega) | omega)) | (with_reducible apply Below.drew) | (with_reducible apply below_drewN') | (refine Below.trans ?_ (Below.mono (by assumption) (by first | exact Nat.le_refl _ | (simp; done) | (simp; omega) | omega))) | exact Below.refl _ _ | assumption))
  case ca8R91 => (first | (simp [Act.put]; done) | (simp [Act.put, *]; done))
  try dsimp only
  refine wpW_det (t' := ?ct9R91) 9 (by rfl) (by kernel_rfl) (NQ_free _) (by kernel_rfl) ?cw9R91 ?ch9R91 ?ca9R91 (Eq.refl _) ?cH9R91
  case cw9R91 => (go_simp; done)
  case ch9R91 =>
    intro ds w' hS K hK
    have hc := (bcell hS).1
    have hf := (bcell hS).2
    have hz := hS.size
    try simp at hz
    go_simp
    try go_bits
    first
      | exact hK _ hS (Gr.refl _)
      | exact hK _ (by repeat (first | (with_reducible exact Below.refl _ _) | (with_reducible assumption) | ((with_reducible refine Below.setCell ?_ ?_ _); rotate_left; · (first | exact Nat.le_refl _ | (simp; done) | (simp; omega) | omega)) | ((with_reducible refine Below.alloc ?_ ?_ _); rotate_left; · (first | exact Nat.le_refl _ | (simp; done) | (simp; omega) | omega)) | (with_reducible apply Below.drew) | (with_reducible apply below_drewN') | (refine Below.trans ?_ (Below.mono (by assumption) (by first | exact Nat.le_refl _ | (simp; done) | (simp; omega) | omega))) | exact Below.refl _ _ | assumption)) (by repeat (first | (with_reducible exact Below.refl _ _) | (with_reducible assumption) | ((with_reducible refine Below.setCell ?_ ?_ _); rotate_left; · (first | exact Nat.le_refl _ | (simp; done) | (simp; omega) | omega)) | ((with_reducible refine Below.alloc ?_ ?_ _); rotate_left; · (first | exact Nat.le_refl _ | (simp; done) | (simp; omega) | omega)) | (with_reducible apply Below.drew) | (with_reducible apply below_drewN') | (refine Below.trans ?_ (Below.mono (by assumption) (by first | exact Nat.le_refl _ | (simp; done) | (simp; omega) | omega))) | exact Below.refl _ _ | assumption))
  case ca9R91 => (first | (simp [Act.put]; done) | (simp [Act.put, *]; done))
  try dsimp only
  refine wpW_det (t' := ?ct10R91) 10 (by rfl) (by kernel_rfl) (NQ_free _) (by kernel_rfl) ?cw10R91 ?ch10R91 ?ca10R91 (Eq.refl _) ?cH10R91
  case cw10R91 => (go_simp; done)
  case ch10R91 =>
    intro ds w' hS K hK
    have hc := (bcell hS).1
    have hf := (bcell hS).2
    have hz := hS.size
    try simp at hz
    go_simp
    try go_bits
    first
      | exact hK _ hS (Gr.refl _)
      | exact hK _ (by repeat (first | (with_reducible exact Below.refl _ _) | (with_reducible assumption) | ((with_reducible refine Below.setCell ?_ ?_ _); rotate_left; · (first | exact Nat.le_refl _ | (simp; done) | (simp; omega) | omega)) | ((with_reducible refine Below.alloc ?_ ?_ _); rotate_left; · (first | exact Nat.le_refl _ | (simp; done) | (simp; omega) | omega)) | (with_reducible apply Below.drew) | (with_reducible apply below_drewN') | (refine Below.trans ?_ (Below.mono (by assumption) (by first | exact Nat.le_refl _ | (simp; done) | (simp; omega) | omega))) | exact Below.refl _ _ | assumption)) (by repeat (first | (with_reducible exact Below.refl _ _) | (with_reducible assumption) | ((with_reducible refine Below.setCell ?_ ?_ _); rotate_left; · (first | exact Nat.le_refl _ | (simp; done) | (simp; omega) | omega)) | ((with_reducible refine Below.alloc ?_ ?_ _); rotate_left; · (first | exact Nat.le_refl _ | (simp; done) | (simp; omega) | omega)) | (with_reducible apply Below.drew) | (with_reducible apply below_drewN') | (refine Below.trans ?_ (Below.mono (by assumption) (by first | exact Nat.le_refl _ | (simp; done) | (simp; omega) | omega))) | exact Below.refl _ _ | assumption))
  case ca10R91 => (first | (simp [Act.put]; done) | (simp [Act.put, *]; done))
  try dsimp only
  refine wpW_det (t' := ?ct12R91) 12 (by rfl) (by kernel_rfl) (NQ_free _) (by kernel_rfl) ?cw12R91 ?ch12R91 ?ca12R91 (Eq.refl _) ?cH12R91
  case cw12R91 => (go_simp; done)
  case ch12R91 =>
    intro ds w' hS K hK
    have hc := (bcell hS).1
    have hf := (bcell hS).2
    have hz := hS.size
    try simp at hz
    go_simp
    try go_bits
    first
      | exact hK _ hS (Gr.refl _)
      | exact hK _ (by repeat (first | (with_reducible exact Below.refl _ _) | (with_reducible assumption) | ((with_reducible refine Below.setCell ?_ ?_ _); rotate_left; · (first | exact Nat.le_refl _ | (simp; done) | (simp; omega) | omega)) | ((with_reducible refine Below.alloc ?_ ?_ _); rotate_left; · (first | exact Nat.le_refl _ | (simp; done) | (simp; omega) | omega)) | (with_reducible apply Below.drew) | (with_reducible apply below_drewN') | (refine Below.trans ?_ (Below.mono (by assumption) (by first | exact Nat.le_refl _ | (simp; done) | (simp; omega) | omega))) | exact Below.refl _ _ | assumption)) (by repeat (first | (with_reducible exact Below.refl _ _) | (with_reducible assumption) | ((with_reducible refine Below.setCell ?_ ?_ _); rotate_left; · (first | exact Nat.le_refl _ | (simp; done) | (simp; omega) | omega)) | ((with_reducible refine Below.alloc ?_ ?_ _); rotate_left; · (first | exact Nat.le_refl _ | (simp; done) | (simp; omega) | omega)) | (with_reducible apply Below.drew) | (with_reducible apply below_drewN') | (refine Below.trans ?_ (Below.mono (by assumption) (by first | exact Nat.le_refl _ | (simp; done) | (simp; omega) | omega))) | exact Below.refl _ _ | assumption))
  case ca12R91 => (first | (simp [Act.put]; done) | (simp [Act.put, *]; done))
  try dsimp only
  refine wpW_branch [5] (by kernel_rfl) (by simp) ?_
  intro v1 hg_v1 hS_v1
  refine each_cons ?_ each_nil
  refine wpOp_go (by rfl) (Eq.refl _) (by go_simp; done) ?_
  intro K hK
  go_simp
  try simp only [Act.put]
  have hz := Below.size hS_v1
  refine (refHullOf_any l A c B dn _ dc BG _ (hl.below hS_v1 hB) (by omega) (ri.below hS_v1 hBG) (by omega) (by omega) hni HBI).mono ?_
  rintro e ws1 ⟨rfl, hBs⟩
  refine hK _ _ (Below.trans hS_v1 (hBs.mono (Below.size hS_v1))) ?_
  clear hK K hBs hg_v1 hz
  refine wpW_branch [11] (by kernel_rfl) (by simp) ?_
  intro v2 hg_v2 hS_v2
  refine each_cons ?_ each_nil
  refine wpOp_go (by rfl) (Eq.refl _) (by go_simp; done) ?_
  intro K hK
  go_simp
  try simp only [Act.put]
  have hz := Below.size hS_v2
  refine (refHullOf_any l A c B en _ ec BG _ (hl.below hS_v2 hB) (by omega) (rk.below hS_v2 hBG) (by omega) (by omega) hnk HBK).mono ?_
  rintro e ws1 ⟨rfl, hBs⟩
  refine hK _ _ (Below.trans hS_v2 (hBs.mono (Below.size hS_v2))) ?_
  clear hK K hBs hg_v2 hz
  refine wpW_branch [13] (by kernel_rfl) (by simp) ?_
  intro v3 hg_v3 hS_v3
  refine each_cons ?_ each_nil
  refine wpOp_go (by rfl) (Eq.refl _) (by go_simp; done) ?_
  intro K hK
  go_simp
  try simp only [Act.put]
  refine (pubInteract_any (hullR l dn) (hullR l en) r HSI.out.1 HSI.out.2 HRN.out HRD.out _).mono ?_
  rw [HNO.out.1, if_pos rfl, HNO.out.2]
  rintro e ws1 ⟨rfl, hBs⟩
  refine hK _ _ (Below.trans hS_v3 (hBs.mono (Below.size hS_v3))) ?_
  clear hK K hBs hg_v3
  refine wpW_det (t' := ?ct14R92) 14 (by rfl) (by kernel_rfl) (NQ_free _) (by kernel_rfl) ?cw14R92 ?ch14R92 ?ca14R92 (Eq.refl _) ?cH14R92
  case cw14R92 => (go_simp; done)
  case ch14R92 =>
    intro ds w' hS K hK
    have hc := (bcell hS).1
    have hf := (bcell hS).2
    have hz := hS.size
    try simp at hz
    go_simp
    try go_bits
    first
      | exact hK _ hS (Gr.refl _)
      | exact hK _ (by repeat (first | (with_reducible exact Below.refl _ _) | (with_reducible assumption) | ((with_reducible refine Below.setCell ?_ ?_ _); rotate_left; · (first | exact Nat.le_refl _ | (simp; done) | (simp; omega) | omega)) | ((with_reducible refine Below.alloc ?_ ?_ _); rotate_left; · (first | exact Nat.le_refl _ | (simp; done) | (simp; omega) | omega)) | (with_reducible apply Below.drew) | (with_reducible apply below_drewN') | (refine Below.trans ?_ (Below.mono (by assumption) (by first | exact Nat.le_refl _ | (simp; done) | (simp; omega) | omega))) | exact Below.refl _ _ | assumption)) (by repeat (first | (with_reducible exact Below.refl _ _) | (with_reducible assumption) | ((with_reducible refine Below.setCell ?_ ?_ _); rotate_left; · (first | exact Nat.le_refl _ | (simp; done) | (simp; omega) | omega)) | ((with_reducible refine Below.alloc ?_ ?_ _); rotate_left; · (first | exact Nat.le_refl _ | (simp; done) | (simp; omega) | omega)) | (with_reducible apply Below.drew) | (with_reducible apply below_drewN') | (refine Below.trans ?_ (Below.mono (by assumption) (by first | exact Nat.le_refl _ | (simp; done) | (simp; omega) | omega))) | exact Below.refl _ _ | assumption))
  case ca14R92 => (first | (simp [Act.put]; done) | (simp [Act.put, *]; done))
  try dsimp only
  refine wpW_det (t' := ?ct15R92) 15 (by rfl) (by kernel_rfl) (NQ_free _) (by kernel_rfl) ?cw15R92 ?ch15R92 ?ca15R92 (Eq.refl _) ?cH15R92
  case cw15R92 => (go_simp; done)
  case ch15R92 =>
    intro ds w' hS K hK
    have hc := (bcell hS).1
    have hf := (bcell hS).2
    have hz := hS.size
    try simp at hz
    go_simp
    try go_bits
    first
      | exact hK _ hS (Gr.refl _)
      | exact hK _ (by repeat (first | (with_reducible exact Below.refl _ _) | (with_reducible assumption) | ((with_reducible refine Below.setCell ?_ ?_ _); rotate_left; · (first | exact Nat.le_refl _ | (simp; done) | (simp; omega) | omega)) | ((with_reducible refine Below.alloc ?_ ?_ _); rotate_left; · (first | exact Nat.le_refl _ | (simp; done) | (simp; omega) | omega)) | (with_reducible apply Below.drew) | (with_reducible apply below_drewN') | (refine Below.trans ?_ (Below.mono (by assumption) (by first | exact Nat.le_refl _ | (simp; done) | (simp; omega) | omega))) | exact Below.refl _ _ | assumption)) (by repeat (first | (with_reducible exact Below.refl _ _) | (with_reducible assumption) | ((with_reducible refine Below.setCell ?_ ?_ _); rotate_left; · (first | exact Nat.le_refl _ | (simp; done) | (simp; omega) | omega)) | ((with_reducible refine Below.alloc ?_ ?_ _); rotate_left; · (first | exact Nat.le_refl _ | (simp; done) | (simp; omega) | omega)) | (with_reducible apply Below.drew) | (with_reducible apply below_drewN') | (refine Below.trans ?_ (Below.mono (by assumption) (by first | exact Nat.le_refl _ | (simp; done) | (simp; omega) | omega))) | exact Below.refl _ _ | assumption))
  case ca15R92 => (first | (simp [Act.put]; done) | (simp [Act.put, *]; done))
  try dsimp only
  refine wpW_det (t' := ?ct16R92) 16 (by rfl) (by kernel_rfl) (NQ_free _) (by kernel_rfl) ?cw16R92 ?ch16R92 ?ca16R92 (Eq.refl _) ?cH16R92
  case cw16R92 => (go_simp; done)
  case ch16R92 =>
    intro ds w' hS K hK
    have hc := (bcell hS).1
    have hf := (bcell hS).2
    have hz := hS.size
    try simp at hz
    go_simp
    try go_bits
    first
      | exact hK _ hS (Gr.refl _)
      | exact hK _ (by repeat (first | (with_reducible exact Below.refl _ _) | (with_reducible assumption) | ((with_reducible refine Below.setCell ?_ ?_ _); rotate_left; · (first | exact Nat.le_refl _ | (simp; done) | (simp; omega) | omega)) | ((with_reducible refine Below.alloc ?_ ?_ _); rotate_left; · (first | exact Nat.le_refl _ | (simp; done) | (simp; omega) | omega)) | (with_reducible apply Below.drew) | (with_reducible apply below_drewN') | (refine Below.trans ?_ (Below.mono (by assumption) (by first | exact Nat.le_refl _ | (simp; done) | (simp; omega) | omega))) | exact Below.refl _ _ | assumption)) (by repeat (first | (with_reducible exact Below.refl _ _) | (with_reducible assumption) | ((with_reducible refine Below.setCell ?_ ?_ _); rotate_left; · (first | exact Nat.le_refl _ | (simp; done) | (simp; omega) | omega)) | ((with_reducible refine Below.alloc ?_ ?_ _); rotate_left; · (first | exact Nat.le_refl _ | (simp; done) | (simp; omega) | omega)) | (with_reducible apply Below.drew) | (with_reducible apply below_drewN') | (refine Below.trans ?_ (Below.mono (by assumption) (by first | exact Nat.le_refl _ | (simp; done) | (simp; omega) | omega))) | exact Below.refl _ _ | assumption))
  case ca16R92 => (first | (simp [Act.put]; done) | (simp [Act.put, *]; done))
  try dsimp only
  refine wpW_det (t' := ?ct17R92) 17 (by rfl) (by kernel_rfl) (NQ_free _) (by kernel_rfl) ?cw17R92 ?ch17R92 ?ca17R92 (Eq.refl _) ?cH17R92
  case cw17R92 => (go_simp; done)
  case ch17R92 =>
    intro ds w' hS K hK
    have hc := (bcell hS).1
    have hf := (bcell hS).2
    have hz := hS.size
    try simp at hz
    go_simp
    try go_bits
    first
      | exact hK _ hS (Gr.refl _)
      | exact hK _ (by repeat (first | (with_reducible exact Below.refl _ _) | (with_reducible assumption) | ((with_reducible refine Below.setCell ?_ ?_ _); rotate_left; · (first | exact Nat.le_refl _ | (simp; done) | (simp; omega) | omega)) | ((with_reducible refine Below.alloc ?_ ?_ _); rotate_left; · (first | exact Nat.le_refl _ | (simp; done) | (simp; omega) | omega)) | (with_reducible apply Below.drew) | (with_reducible apply below_drewN') | (refine Below.trans ?_ (Below.mono (by assumption) (by first | exact Nat.le_refl _ | (simp; done) | (simp; omega) | omega))) | exact Below.refl _ _ | assumption)) (by repeat (first | (with_reducible exact Below.refl _ _) | (with_reducible assumption) | ((with_reducible refine Below.setCell ?_ ?_ _); rotate_left; · (first | exact Nat.le_refl _ | (simp; done) | (simp; omega) | omega)) | ((with_reducible refine Below.alloc ?_ ?_ _); rotate_left; · (first | exact Nat.le_refl _ | (simp; done) | (simp; omega) | omega)) | (with_reducible apply Below.drew) | (with_reducible apply below_drewN') | (refine Below.trans ?_ (Below.mono (by assumption) (by first | exact Nat.le_refl _ | (simp; done) | (simp; omega) | omega))) | exact Below.refl _ _ | assumption))
  case ca17R92 => (first | (simp [Act.put]; done) | (simp [Act.put, *]; done))
  try dsimp only
  refine wpW_det (t' := ?ct18R92) 18 (by rfl) (by kernel_rfl) (NQ_free _) (by kernel_rfl) ?cw18R92 ?ch18R92 ?ca18R92 (Eq.refl _) ?cH18R92
  case cw18R92 => (go_simp; done)
  case ch18R92 =>
    intro ds w' hS K hK
    have hc := (bcell hS).1
    have hf := (bcell hS).2
    have hz := hS.size
    try simp at hz
    go_simp
    try go_bits
    first
      | exact hK _ hS (Gr.refl _)
      | exact hK _ (by repeat (first | (with_reducible exact Below.refl _ _) | (with_reducible assumption) | ((with_reducible refine Below.setCell ?_ ?_ _); rotate_left; · (first | exact Nat.le_refl _ | (simp; done) | (simp; omega) | omega)) | ((with_reducible refine Below.alloc ?_ ?_ _); rotate_left; · (first | exact Nat.le_refl _ | (simp; done) | (simp; omega) | omega)) | (with_reducible apply Below.drew) | (with_reducible apply below_drewN') | (refine Below.trans ?_ (Below.mono (by assumption) (by first | exact Nat.le_refl _ | (simp; done) | (simp; omega) | omega))) | exact Below.refl _ _ | assumption)) (by repeat (first | (with_reducible exact Below.refl _ _) | (with_reducible assumption) | ((with_reducible refine Below.setCell ?_ ?_ _); rotate_left; · (first | exact Nat.le_refl _ | (simp; done) | (simp; omega) | omega)) | ((with_reducible refine Below.alloc ?_ ?_ _); rotate_left; · (first | exact Nat.le_refl _ | (simp; done) | (simp; omega) | omega)) | (with_reducible apply Below.drew) | (with_reducible apply below_drewN') | (refine Below.trans ?_ (Below.mono (by assumption) (by first | exact Nat.le_refl _ | (simp; done) | (simp; omega) | omega))) | exact Below.refl _ _ | assumption))
  case ca18R92 => (first | (simp [Act.put]; done) | (simp [Act.put, *]; done))
  try dsimp only
  refine wpW_end (by kernel_rfl) ?_
  intro we hg hS
  unfold NQ
  dsimp only
  exact H.out _ _ _ _ _ _ _ _ _ _ _ _ _ _ _ _ _ we hS
end Go.Proofs.YtidgeagpgllkeaaGreat

namespace Go.Proofs.YtidgeagpgllkeaaGreat
open Go.RowKit Go.Shelf

def MarkR (m : Mk) : Prop := MkS m ∧ nameB m.nm = true ∧ m.al ≤ m.ah ∧ m.dl ≤ m.dh ∧ 0 ≤ m.lv ∧ m.lv ≤ 1000000000
theorem MarkR.e {m : Mk} (h : MarkR m) : markE m = 0 := by
  obtain ⟨⟨h1, h2, h3, h4⟩, h5, h6, h7, h8, h9⟩ := h
  unfold Sm at *
  refine (firstE_zero _).2 fun e he => ?_
  simp only [List.mem_cons, List.not_mem_nil, or_false] at he
  rcases he with rfl | rfl | rfl | rfl
  · rw [h5]; rfl
  · rw [show endsB m = true by unfold endsB; simp [wi]; omega]; rfl
  · rw [show ordB m = true by unfold ordB; simp; omega]; rfl
  · unfold levelE; rw [show wi m.lv 0 1000000000 = true by simp [wi]; omega]; rfl
theorem MarkR.name {m : Mk} (h : MarkR m) : m.nm.size ≤ 1000000000000 := by
  have := h.2.1
  unfold nameB at this
  simp only [Bool.and_eq_true, decide_eq_true_eq] at this
  omega
theorem MarkR.hull {a b : Mk} (h : MarkR a) (h' : MarkR b) : MarkR (hullV a b) := by
  obtain ⟨h1, h2, h3, h4, h5, h6⟩ := h
  obtain ⟨k1, k2, k3, k4, k5, k6⟩ := h'
  refine ⟨h1.hull k1, h2, ?_, ?_, ?_, ?_⟩ <;> (unfold hullV; dsimp only; omega)
theorem MarkR.hullR {l : List Mk} (hm : ∀ m ∈ l, MarkR m) {g : List Int} (hp : g ≠ []) (hb : ∀ i ∈ g, 0 ≤ i ∧ i < l.length) : MarkR (Proofs.YtidgeagpgllkeaaGreat.hullR l g) := by
  cases g with
  | nil => exact absurd rfl hp
  | cons i t =>
    have hi := hb i (by simp)
    have e : l[i.toNat]? = some (l[i.toNat]'(by omega)) := List.getElem?_eq_getElem _
    unfold Proofs.YtidgeagpgllkeaaGreat.hullR
    dsimp only
    rw [e]
    show MarkR (t.foldl (fun o j => hullV o (l[j.toNat]?.getD o)) (l[i.toNat]'(by omega)))
    have key : ∀ (t : List Int) (o : Mk), MarkR o → (∀ i ∈ t, 0 ≤ i ∧ i < l.length) → MarkR (t.foldl (fun o j => hullV o (l[j.toNat]?.getD o)) o) := by
      intro t
      induction t with
      | nil => intro o h _; exact h
      | cons j t ih =>
        intro o h hb
        have hj := hb j (by simp)
        simp only [List.foldl_cons]
        have e : l[j.toNat]? = some (l[j.toNat]'(by omega)) := List.getElem?_eq_getElem _
        rw [e]
        exact ih _ (h.hull (hm _ (List.getElem_mem _))) fun i hi => hb i (List.mem_cons_of_mem _ hi)
    exact key t _ (hm _ (List.getElem_mem _)) fun j hj => hb j (List.mem_cons_of_mem _ hj)
theorem marksR {l : List Mk} (h : (marksE l).2 = 0) : ∀ m ∈ l, MarkR m := fun m hm => by
  obtain ⟨k, hk, rfl⟩ := List.getElem_of_mem hm
  exact markE_zero ((marksE_zero h).2 k hk hk).1
theorem groupedE_zero {l : List Mk} {r : Ru} (h1 : (marksE l).2 = 0) (h2 : ruleE r = 0) : groupedE l r = 0 := by
  refine (firstE_zero _).2 fun e he => ?_
  simp only [List.mem_cons, List.not_mem_nil, or_false] at he
  rcases he with rfl | rfl
  · exact h1
  · exact h2
/-- Hulls of two groups do not interact. -/
theorem ResG.no {l : List Mk} {r : Ru} (hm : ∀ m ∈ l, MarkR m) (hr : ruleE r = 0) {D : List (List Int)} (h : ResG l r D) {i k : Nat} (hi : i < D.length) (hk : k < D.length) (hne : i ≠ k) :
    pairE (hullR l D[i]) (hullR l D[k]) r = 0 ∧ interactV (hullR l D[i]) (hullR l D[k]) r = false := by
  have hgi := List.getElem_mem hi
  have hgk := List.getElem_mem hk
  have hbi := h.canon.bd hgi
  have hbk := h.canon.bd hgk
  have hpi := h.canon.pos _ hgi
  have hpk := h.canon.pos _ hgk
  have hd : D[i] ≠ D[k] := fun e => by
    have hp := List.pairwise_iff_getElem.1 h.canon.ndG
    rcases Nat.lt_or_gt_of_ne hne with hlt | hlt
    · exact hp i k hi hk hlt e
    · exact hp k i hk hi hlt e.symm
  refine ⟨?_, h.closed.apart _ hgi _ hgk hd _ _ (hullR_ok hpi hbi) (hullR_ok hpk hbk)⟩
  refine (firstE_zero _).2 fun e he => ?_
  simp only [List.mem_cons, List.not_mem_nil, or_false] at he
  rcases he with rfl | rfl | rfl
  · exact (MarkR.hullR hm hpi hbi).e
  · exact (MarkR.hullR hm hpk hbk).e
  · exact hr

/-! ### the numbers of groups, in two rows -/
structure FilM (V : World) (p q N : Nat) (F F' : List Int) (W : World) : Prop where
  own1 : W.ownsRow V.heap.size 3 1 (.slice (some ⟨p, 0, none⟩) N N) N (intsC F)
  own2 : W.ownsRow V.heap.size 3 1 (.slice (some ⟨q, 0, none⟩) N N) N (intsC F')
  below : Below V.heap.size V W
section
variable {V W W' : World} {p q N : Nat} {F F' : List Int}
theorem FilM.gr (h : FilM V p q N F F' W) (hk : Gr W W') : FilM V p q N F F' W' := ⟨own_below h.own1 hk, own_below h.own2 hk, h.below.trans (Below.mono hk (Below.size h.below))⟩
theorem FilM.len1 (h : FilM V p q N F F' W) : F.length = N := by have := h.own1.1; simp [intsC] at this; omega
theorem FilM.len2 (h : FilM V p q N F F' W) : F'.length = N := by have := h.own2.1; simp [intsC] at this; omega
theorem FilM.cell1 (h : FilM V p q N F F' W) {k : Nat} {x : Int} (hk : F[k]? = some x) : W.cell? ⟨p, k, none⟩ = some (.int .i64 x) ∧ W.frozen? ⟨p, k, none⟩ = false ∧ p < W.heap.size := by
  refine ⟨?_, h.own1.frozenAt k, (h.own1.lt p rfl).2⟩
  have := h.own1.cells (g := p) rfl k (.int .i64 x) (by simp [intsC, hk])
  rwa [Addr.add_lit, Nat.zero_add] at this
theorem FilM.cell2 (h : FilM V p q N F F' W) {k : Nat} {x : Int} (hk : F'[k]? = some x) : W.cell? ⟨q, k, none⟩ = some (.int .i64 x) ∧ W.frozen? ⟨q, k, none⟩ = false ∧ q < W.heap.size := by
  refine ⟨?_, h.own2.frozenAt k, (h.own2.lt q rfl).2⟩
  have := h.own2.cells (g := q) rfl k (.int .i64 x) (by simp [intsC, hk])
  rwa [Addr.add_lit, Nat.zero_add] at this
theorem intsC_set (F : List Int) (k : Nat) (x : Int) : intsC (F.set k x) = (intsC F).set k (.int .i64 x) := by simp [intsC, List.map_set]
theorem FilM.put1 (h : FilM V p q N F F' W) (hpq : p ≠ q) (k : Nat) (x : Int) : FilM V p q N (F.set k x) F' (W.setCell ⟨p, k, none⟩ (.int .i64 x)) := by
  obtain ⟨r1, g1⟩ := h.own1.stored k (.int .i64 x)
  refine ⟨by rw [intsC_set]; exact r1, h.own2.kept g1 (.inr (by simp [Value.ownBlock]; omega)), ?_⟩
  exact h.below.setCell (h.own1.lt p rfl).1 _
theorem FilM.put2 (h : FilM V p q N F F' W) (hpq : p ≠ q) (k : Nat) (x : Int) : FilM V p q N F (F'.set k x) (W.setCell ⟨q, k, none⟩ (.int .i64 x)) := by
  obtain ⟨r1, g1⟩ := h.own2.stored k (.int .i64 x)
  refine ⟨h.own1.kept g1 (.inr (by simp [Value.ownBlock]; omega)), by rw [intsC_set]; exact r1, ?_⟩
  exact h.below.setCell (h.own2.lt q rfl).1 _
end
theorem FillI.start (n : Nat) (pl : Int → Int) (Q : List (List Int)) : FillI n pl Q 0 0 (List.replicate n 0) := ⟨by simp, fun j g hj => by omega, fun g _ a ha => by simp at ha⟩
/-- A group, where it lies. -/
theorem RwOk.at_ {D : List Rw} {A : Option Addr} {B : Nat} {w : World} (h : RwOk D A B w) {k : Nat} (hk : k < D.length) : ∃ g o b c, A = some ⟨g, o, none⟩ ∧ g < B ∧ w.cell? ⟨g, o + k, none⟩ = some (.slice (some ⟨b, 0, none⟩) (D[k].ns.length) c) ∧ Row w B 1 (some ⟨b, 0, none⟩) D[k].ns.length (intsC D[k].ns) := by
  obtain ⟨g, o, hA, hg, hc⟩ := h.cell hk
  exact ⟨g, o, _, _, hA, hg, hc, h.each _ (List.getElem_mem hk)⟩
end Go.Proofs.YtidgeagpgllkeaaGreat
