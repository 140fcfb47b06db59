/- Scans told in another order, and cut: what lies in memory; regions of the law FlawAnyOrder. The loop of the law FlawAnyOrder. -/
import Derived.Test.YtidgeagpgllkeaaGreatFgD
import Derived.Test.YtidgeagpgllkeaaGreatFjD
import Derived.Test.YtidgeagpgllkeaaGreatFjG
import Derived.Test.YtidgeagpgllkeaaGreatFeB
namespace Go.Proofs.YtidgeagpgllkeaaGreat
open Go.RowKit

theorem cell_arr_new (w : World) (cs : Array Value) (t : TypeId) : ∀ j u, cs.toList[j]? = some u → (w.alloc (.cells cs t)).cell? ((⟨w.heap.size, 0, none⟩ : Addr).add j) = some u := by
  intro j u hj
  rw [Addr.add_lit, Nat.zero_add]
  exact (Blk.new w t cs).cell j |>.trans (by simpa using hj)
theorem own_two' {w : World} {b1 b2 e1 e2 s1 s2 n1 n2 : Nat} {v1 v2 : Value} {xs1 xs2 : List Value} (h1 : w.ownsRow b1 e1 s1 v1 n1 xs1) (h2 : w.ownsRow b2 e2 s2 v2 n2 xs2) (hne : e1 ≠ e2) : v1.ownBlock = none ∨ v1.ownBlock ≠ v2.ownBlock := by
  rcases h1.2 with ⟨rfl, _⟩ | ⟨g, cap, cur, rfl, _, hh, _⟩
  · exact .inl rfl
  · right
    rcases h2.2 with ⟨rfl, _⟩ | ⟨g', cap', cur', rfl, _, hh', _⟩
    · simp [Value.ownBlock]
    · intro e
      have e' : g = g' := by simpa [Value.ownBlock] using e
      subst e'
      rw [hh] at hh'
      injection hh' with hh'
      injection hh' with _ ht
      exact hne ht
theorem scsC_snoc (l : List Sc) (s : Sc) : scsC (l ++ [s]) = scsC l ++ scC s := by simp [scsC]
/-- The data of a scan: of the argument, or of the law's own. -/
def DatOk (B : Nat) (W : World) (s : Sc) : Prop := (Row W B 1 s.dA s.data.length (intsC s.data) ∧ s.data.length ≤ s.dcap ∧ (s.dA = none → s.dcap = 0)) ∨ W.ownsRow B 3 1 (.slice s.dA s.data.length s.dcap) s.data.length (intsC s.data)
structure AvM (w0 : World) (bk ct : List Sc) (v11 v12 : Value) (W : World) : Prop where
  own11 : W.ownsRow w0.heap.size 39 5 v11 bk.length (scsC bk)
  own12 : W.ownsRow w0.heap.size 39 5 v12 ct.length (scsC ct)
  ne : v11.ownBlock = none ∨ v11.ownBlock ≠ v12.ownBlock
  each : ∀ s ∈ ct, DatOk w0.heap.size W s
  below : Below w0.heap.size w0 W
section
variable {w0 W W' : World} {bk ct : List Sc} {v11 v12 : Value}
theorem AvM.gr (h : AvM w0 bk ct v11 v12 W) (hk : Gr W W') : AvM w0 bk ct v11 v12 W' :=
  ⟨own_below h.own11 hk, own_below h.own12 hk, h.ne, fun s hs => (h.each s hs).elim (fun a => .inl ⟨a.1.below hk (Below.size h.below), a.2⟩) (fun a => .inr (own_below a hk)), h.below.trans (Below.mono hk (Below.size h.below))⟩
theorem AvM.swap (h : AvM w0 bk ct v11 v12 W) : v12.ownBlock = none ∨ v12.ownBlock ≠ v11.ownBlock := by
  rcases h.ne with e | e
  · cases h2 : v12.ownBlock with
    | none => exact .inl rfl
    | some g => right; rw [e]; simp
  · exact .inr fun e' => e e'.symm
theorem AvM.low11 (h : AvM w0 bk ct v11 v12 W) : ∀ q, v11.ownBlock = some q → w0.heap.size ≤ q := fun q e => (h.own11.lt q e).1
theorem AvM.low12 (h : AvM w0 bk ct v11 v12 W) : ∀ q, v12.ownBlock = some q → w0.heap.size ≤ q := fun q e => (h.own12.lt q e).1
/-- A scan is appended to those from the last one on. -/
theorem AvM.back (h : AvM w0 bk ct v11 v12 W) {u : Value} {s : Sc} (ho : W'.ownsRow w0.heap.size 39 5 u (bk.length + 1) (scsC bk ++ scC s)) (hg : W.grownBy W' v11.ownBlock) (hat : u.ownBlock = v11.ownBlock ∨ u.ownBlock = some W.heap.size) : AvM w0 (bk ++ [s]) ct u v12 W' := by
  have hb : Below w0.heap.size W W' := (Below.refl _ _).grown hg (Below.size h.below) h.low11
  refine ⟨by rw [scsC_snoc]; simpa using ho, h.own12.kept hg h.swap, ?_, fun s hs => ?_, h.below.trans hb⟩
  · rcases hat with e | e
    · rw [e]; exact h.ne
    · right
      rw [e]
      intro e'
      have := (h.own12.lt _ e'.symm).2
      omega
  · rcases h.each s hs with a | a
    · exact .inl ⟨a.1.below hb (Nat.le_refl _), a.2⟩
    · exact .inr (a.kept hg (own_two' a h.own11 (by decide)))
/-- A scan is appended to the cut ones. -/
theorem AvM.cut (h : AvM w0 bk ct v11 v12 W) {u : Value} {s : Sc} (hd : DatOk w0.heap.size W s) (ho : W'.ownsRow w0.heap.size 39 5 u (ct.length + 1) (scsC ct ++ scC s)) (hg : W.grownBy W' v12.ownBlock) (hat : u.ownBlock = v12.ownBlock ∨ u.ownBlock = some W.heap.size) : AvM w0 bk (ct ++ [s]) v11 u W' := by
  have hb : Below w0.heap.size W W' := (Below.refl _ _).grown hg (Below.size h.below) h.low12
  have key : ∀ s, DatOk w0.heap.size W s → DatOk w0.heap.size W' s := fun s hs => hs.elim (fun a => .inl ⟨a.1.below hb (Nat.le_refl _), a.2⟩) (fun a => .inr (a.kept hg (own_two' a h.own12 (by decide))))
  refine ⟨h.own11.kept hg h.ne, by rw [scsC_snoc]; simpa using ho, ?_, fun t ht => ?_, h.below.trans hb⟩
  · rcases hat with e | e
    · rw [e]; exact h.ne
    · cases h1 : v11.ownBlock with
      | none => exact .inl rfl
      | some g =>
        right
        rw [e]
        have := (h.own11.lt _ h1).2
        intro e'
        injection e' with e'
        omega
  · rcases List.mem_append.1 ht with ht | ht
    · exact key t (h.each t ht)
    · obtain rfl : t = s := by simpa using ht
      exact key t hd
theorem AvM.ok (h : AvM w0 bk ct v11 v12 W) (hs : ∀ s ∈ ct, s.data.length ≤ 1000000000) (hl : ct.length ≤ 1000000000) : ∃ A c, v12 = .slice A ct.length c ∧ ScOk ct A W.heap.size W ∧ ct.length ≤ c ∧ (A = none → c = 0) ∧ ∀ s ∈ ct, DatOk w0.heap.size W s := by
  obtain ⟨A, c, rfl, hR, hc, hA⟩ := own_row2 h.own12
  refine ⟨A, c, rfl, ⟨hl, hR, hs, fun s hsm => ?_⟩, hc, hA, h.each⟩
  rcases h.each s hsm with a | a
  · exact a.1.more (Below.size h.below)
  · obtain ⟨A', c', e, hR', _, _⟩ := own_row2 a
    injection e with e1 e2 e3
    subst e1
    exact hR'
end
theorem DatOk.caps {B : Nat} {W : World} {s : Sc} (h : DatOk B W s) : s.data.length ≤ s.dcap ∧ (s.dA = none → s.dcap = 0) := by
  rcases h with a | a
  · exact a.2
  · obtain ⟨A', c', e, _, h1, h2⟩ := own_row2 a
    injection e with e1 e2 e3
    subst e1 e3
    exact ⟨h1, h2⟩
theorem Row.takeI {w : World} {B : Nat} {g o : Nat} {zs : List Int} (h : Row w B 1 (some ⟨g, o, none⟩) zs.length (intsC zs)) {m : Nat} (hm : m ≤ zs.length) : Row w B 1 (some ⟨g, o, none⟩) (zs.take m).length (intsC (zs.take m)) := by
  refine ⟨by simp [intsC], fun hn => ?_⟩
  have hl : (zs.take m).length = m := by simp; omega
  obtain ⟨g', o', e, hg, hx⟩ := h.2 (by omega)
  refine ⟨g', o', e, hg, fun j u hj => hx j u ?_⟩
  have : (intsC (zs.take m)) = (intsC zs).take m := by simp [intsC, List.map_take]
  rw [this] at hj
  have hjm : j < m := by
    have := (List.getElem?_eq_some_iff.1 hj).1
    simp at this; omega
  rwa [List.getElem?_take_of_lt hjm] at hj
theorem Row.dropI {w : World} {B : Nat} {g o : Nat} {zs : List Int} (h : Row w B 1 (some ⟨g, o, none⟩) zs.length (intsC zs)) {m : Nat} (hm : m ≤ zs.length) : Row w B 1 (some ⟨g, o + m, none⟩) (zs.drop m).length (intsC (zs.drop m)) := by
  refine ⟨by simp [intsC], fun hn => ?_⟩
  have hl : (zs.drop m).length = zs.length - m := by simp
  obtain ⟨g', o', e, hg, hx⟩ := h.2 (by omega)
  injection e with e; injection e with e1 e2 e3
  subst e1 e2
  refine ⟨g, o + m, rfl, hg, fun j u hj => ?_⟩
  have : (intsC (zs.drop m)) = (intsC zs).drop m := by simp [intsC, List.map_drop]
  rw [this, List.getElem?_drop] at hj
  have := hx _ u hj
  rwa [show o + m + j = o + (m + j) by omega]
theorem AvM.drew {w0 W : World} {bk ct : List Sc} {v11 v12 : Value} (h : AvM w0 bk ct v11 v12 W) : AvM w0 bk ct v11 v12 W.drew :=
  ⟨h.own11.drew, h.own12.drew, h.ne, h.each, h.below.drew⟩
theorem wp_append_at {P : Program} (w : World) {o : Oper} {a : Act} {K : Act → World → Prop} {Q : Exit → Act → World → Prop} (s x : Operand) (t : TypeId)
    (ho : o.op = .call { callee := .builtin .append, args := #[s, x], argTypes := #[t, t] })
    (base : Nat) (e : TypeId) (i : TypeInfo) (z : Value) (size bytes : Nat) (ht : P.underlying t = some (.slice e)) (hi : P.info? e = some i) (hz : i.zero = some z)
    (hsize : i.size = size) (hby : i.bytes = bytes) (hzs : z.cells.size = size) (hsz : 0 < size)
    (v : Value) (n : Nat) (xs : List Value) (hs : a.eval s = v) (hown : w.ownsRow base e size v n xs)
    (ad : Addr) (m c : Nat) (news : List Value) (hx : a.eval x = .slice (some ad) m c) (hl : news.length = m * size) (hnews : ∀ j u, news[j]? = some u → w.cell? (ad.add j) = some u) (h1 : ∀ u ∈ news, u.oneCell' = true)
    (h63 : n + m ≤ maxLen) (hbytes : (n + m) * bytes ≤ 140737488355328) (hbase : base ≤ w.heap.size)
    (h : ∀ v' w', w'.ownsRow base e size v' (n + m) (xs ++ news) → w.grownBy w' v.ownBlock → (v'.ownBlock = v.ownBlock ∨ v'.ownBlock = some w.heap.size) → K (a.put o.dst v') w') : o.wp P a w K Q := by
  obtain ⟨v', w', hr, h2, h3, _, h5⟩ := run_append_own_at (P := P) w base t o.type e i z size bytes ht hi hz hsize hby hzs hsz v n xs hown ad m c news hl hnews h1 h63 hbytes hbase
  unfold Oper.wp execOp
  simp only [ho, resolve, invoke, builtin, Sem.run_bind, Sem.run_pure, Result.andThen_ok, List.map_toArray, List.map_cons, List.map_nil, hs, hx, hr]
  exact h v' w' h2 h3 h5

set_option maxRecDepth 100000 in
set_option maxHeartbeats 4000000 in
theorem aoReg19 {w0 W : World} {bk ct : List Sc} {v11 v12 : Value} (M : AvM w0 bk ct v11 v12 W) (hct : ct.length ≤ 100) {q : Nat} (hq : v12.ownBlock ≠ some q) (row col rows cols : Int) {g o dcap : Nat} {zs : List Int} (b15 : Blk W q 39 #[.int .i64 row, .int .i64 col, .int .i64 rows, .int .i64 cols, .slice (some ⟨g, o, none⟩) zs.length dcap]) (hR : Row W w0.heap.size 1 (some ⟨g, o, none⟩) zs.length (intsC zs)) (hg : g < w0.heap.size) (n : Int) (m : Nat) (hmul : n * cols = (m : Int)) (hm0 : 0 < m) (hm : m < zs.length) (hz : zs.length ≤ 576) (hdc : zs.length ≤ dcap) (hdm : dcap ≤ 9223372036854775807) (hrow : -100000 ≤ row ∧ row ≤ 100000) (hrows : 1 ≤ rows ∧ rows ≤ 24) (hn : 1 ≤ n ∧ n < rows) {t0 t1 t2 t3 t4 t5 t6 t7 t8 t9 t10 t11 t13 t14 t17 t18 t19 t20 t21 t22 t23 t24 t25 t26 t27 t28 t29 t30 t31 t32 t33 t34 t35 t36 t37 t38 t39 t40 t41 t42 t43 t44 t45 t46 t47 t48 t49 t50 t51 t52 t53 t54 t55 t56 t57 t58 t59 t60 t61 t62 t63 t64 t65 t66 t67 t68 t69 t70 t71 t72 t73 t74 t75 t76 t77 t78 t79 t80 t81 t82 t83 t84 t85 t86 t87 t88 t89 t90 t91 t92 t93 t94 t95 t96 t97 t98 t99 t100 t101 t102 t103 t104 t105 t106 t107 t108 t109 t110 t111 t112 t113 t114 t115 t116 t117 t118 t119 t120 t121 t122 t123 t124 t125 t126 t127 t128 t129 t130 t131 t132 t133 t134 t135 t136 t137 t138 t139 t140 t141 t142 t143 t144 t145 t146 t147 t148 t149 t150 t151 t152 t153 t154 t155 t156 t157 t158 t159 t160 t161 t162 t163 t164 t165 t166 t167 t168 t169 t170 t171 t172 t173 t174 t175 t176 t177 t178 t179 t180 t181 t182 t183 t184 t185 t186 t187 t188 t189 t190 t191 t192 t193 t194 : Value} {ds : List Deferred} (Q : Exit → Act → World → Prop)
    (h : ∀ (t106 t107 t108 t109 t110 t111 t112 t113 t114 t115 t116 t117 t118 t119 t120 t121 t122 t123 t124 : Value) (A' : Option Addr) (c' : Nat) (u12 : Value) (w' : World), AvM w0 bk (ct ++ [⟨row, col, n, cols, zs.take m, A', c'⟩]) v11 u12 w' → u12.ownBlock ≠ some q → Blk w' q 39 #[.int .i64 row, .int .i64 col, .int .i64 rows, .int .i64 cols, .slice (some ⟨g, o, none⟩) zs.length dcap] → Q .normal ⟨#[t0, t1, t2, t3, t4, t5, t6, t7, t8, t9, t10, t11, u12, t13, t14, .pointer (some ⟨q, 0, none⟩), .int .i64 n, t17, t18, t19, t20, t21, t22, t23, t24, t25, t26, t27, t28, t29, t30, t31, t32, t33, t34, t35, t36, t37, t38, t39, t40, t41, t42, t43, t44, t45, t46, t47, t48, t49, t50, t51, t52, t53, t54, t55, t56, t57, t58, t59, t60, t61, t62, t63, t64, t65, t66, t67, t68, t69, t70, t71, t72, t73, t74, t75, t76, t77, t78, t79, t80, t81, t82, t83, t84, t85, t86, t87, t88, t89, t90, t91, t92, t93, t94, t95, t96, t97, t98, t99, t100, t101, t102, t103, t104, t105, t106, t107, t108, t109, t110, t111, t112, t113, t114, t115, t116, t117, t118, t119, t120, t121, t122, t123, t124, t125, t126, t127, t128, t129, t130, t131, t132, t133, t134, t135, t136, t137, t138, t139, t140, t141, t142, t143, t144, t145, t146, t147, t148, t149, t150, t151, t152, t153, t154, t155, t156, t157, t158, t159, t160, t161, t162, t163, t164, t165, t166, t167, t168, t169, t170, t171, t172, t173, t174, t175, t176, t177, t178, t179, t180, t181, t182, t183, t184, t185, t186, t187, t188, t189, t190, t191, t192, t193, t194], ds⟩ w') :
    (regOf Tryz.f3 19).wp Tryz.prog Q ⟨#[t0, t1, t2, t3, t4, t5, t6, t7, t8, t9, t10, t11, v12, t13, t14, .pointer (some ⟨q, 0, none⟩), .int .i64 n, t17, t18, t19, t20, t21, t22, t23, t24, t25, t26, t27, t28, t29, t30, t31, t32, t33, t34, t35, t36, t37, t38, t39, t40, t41, t42, t43, t44, t45, t46, t47, t48, t49, t50, t51, t52, t53, t54, t55, t56, t57, t58, t59, t60, t61, t62, t63, t64, t65, t66, t67, t68, t69, t70, t71, t72, t73, t74, t75, t76, t77, t78, t79, t80, t81, t82, t83, t84, t85, t86, t87, t88, t89, t90, t91, t92, t93, t94, t95, t96, t97, t98, t99, t100, t101, t102, t103, t104, t105, t106, t107, t108, t109, t110, t111, t112, t113, t114, t115, t116, t117, t118, t119, t120, t121, t122, t123, t124, t125, t126, t127, t128, t129, t130, t131, t132, t133, t134, t135, t136, t137, t138, t139, t140, t141, t142, t143, t144, t145, t146, t147, t148, t149, t150, t151, t152, t153, t154, t155, t156, t157, t158, t159, t160, t161, t162, t163, t164, t165, t166, t167, t168, t169, t170, t171, t172, t173, t174, t175, t176, t177, t178, t179, t180, t181, t182, t183, t184, t185, t186, t187, t188, t189, t190, t191, t192, t193, t194], ds⟩ W := by
  have H := Lib.hid h; clear h
  obtain ⟨i0, hi, iz0, iz1, iz2⟩ := info_parts infoScan
  have hwz := Below.size M.below
  have hct' := hct
  have HM := Lib.hid M
  have HR := Lib.hid hR
  have c0 := b15.cell 0
  have c1 := b15.cell 1
  have c2 := b15.cell 2
  have c3 := b15.cell 3
  have c4 := b15.cell 4
  simp only [List.getElem?_toArray, List.getElem?_cons_zero, List.getElem?_cons_succ] at c0 c1 c2 c3 c4
  have l15 := b15.lt
  have B15 := Lib.hid b15
  have hlen : (zs.take m).length = m := by simp; omega
  have HLN := Lib.hid hlen
  have hmi : (m : Int) ≤ (zs.length : Int) := by omega
  have hmd : (zs.length : Int) ≤ (dcap : Int) := by omega
  have hmc : (m : Int) ≤ (dcap : Int) := by omega
  have hne : ¬ (dcap = m) := by omega
  obtain ⟨rw', hrw⟩ : ∃ r : Option Nat, v12.ownBlock = r := ⟨_, rfl⟩
  have HRW := Lib.hid hrw
  have m1 : some q ≠ rw' := fun e => hq (hrw.trans e.symm)
  have HQ := Lib.hid hq
  have HCP : Hid (∀ w', W.grownBy w' rw' → Calls Tryz.prog 25 #[.slice (some ⟨g, o, none⟩) (m) (dcap)] w' fun e w'' => ∃ v, e = .returned v ∧ w''.ownsRow w'.heap.size 3 1 v (m) (intsC (zs.take m)) ∧ Below w'.heap.size w' w'') := Lib.hid (fun w' hgw => by
    have hb : Below w0.heap.size W w' := (Below.refl _ _).grown hgw hwz (fun q e => HM.out.low12 q (HRW.out.trans e))
    have := copyInts_any (zs.take m) (some ⟨g, o, none⟩) (dcap) w0.heap.size w' ((HR.out.below hb (Nat.le_refl _)).takeI (by omega)) (by rw [HLN.out]; omega) (by rw [HLN.out]; omega) (Nat.le_trans hwz hgw.size) (fun e => by cases e)
    rw [HLN.out] at this
    exact this)
  clear hlen hq hrw M b15 hR hct
  conv in (regOf _ _) => whnf
  refine wp_region_w (fun w' => World.grownBy _ w' rw') (by kernel_rfl) (only_drew (World.grownBy.refl _ _)) ?_
  refine wpW_det (t' := ?ct0R12) 0 (by rfl) (by kernel_rfl) (NQ_free _) (by kernel_rfl) ?cw0R12 ?ch0R12 ?ca0R12 (Eq.refl _) ?cH0R12
  case cw0R12 => (go_simp; done)
  case ch0R12 =>
    intro ds w' hS K hK
    have hc := (ocell hS).1
    have hf := (ocell hS).2
    have hz := hS.size
    try simp at hz
    go_simp
    try go_bits
    first
      | exact hK _ hS (Gr.refl _)
      | fail
  case ca0R12 => (first | (simp [Act.put]; done) | (simp [Act.put, *]; done))
  try dsimp only
  refine wpW_det (t' := ?ct1R12) 1 (by rfl) (by kernel_rfl) (NQ_free _) (by kernel_rfl) ?cw1R12 ?ch1R12 ?ca1R12 (Eq.refl _) ?cH1R12
  case cw1R12 => (go_simp; done)
  case ch1R12 =>
    intro ds w' hS K hK
    have hc := (ocell hS).1
    have hf := (ocell hS).2
    have hz := hS.size
    try simp at hz
    go_simp
    try go_bits
    first
      | exact hK _ hS (Gr.refl _)
      | fail
  case ca1R12 => (first | (simp [Act.put]; done) | (simp [Act.put, *]; done))
  try dsimp only
  refine wpW_det (t' := ?ct2R12) 2 (by rfl) (by kernel_rfl) (NQ_free _) (by kernel_rfl) ?cw2R12 ?ch2R12 ?ca2R12 (Eq.refl _) ?cH2R12
  case cw2R12 => (go_simp; done)
  case ch2R12 =>
    intro ds w' hS K hK
    have hc := (ocell hS).1
    have hf := (ocell hS).2
    have hz := hS.size
    try simp at hz
    go_simp
    try go_bits
    first
      | exact hK _ hS (Gr.refl _)
      | fail
  case ca2R12 => (first | (simp [Act.put]; done) | (simp [Act.put, *]; done))
  try dsimp only
  refine wpW_det (t' := ?ct3R12) 3 (by rfl) (by kernel_rfl) (NQ_free _) (by kernel_rfl) ?cw3R12 ?ch3R12 ?ca3R12 (Eq.refl _) ?cH3R12
  case cw3R12 => (go_simp; done)
  case ch3R12 =>
    intro ds w' hS K hK
    have hc := (ocell hS).1
    have hf := (ocell hS).2
    have hz := hS.size
    try simp at hz
    go_simp
    try go_bits
    first
      | exact hK _ hS (Gr.refl _)
      | fail
  case ca3R12 => (first | (simp [Act.put]; done) | (simp [Act.put, *]; done))
  try dsimp only
  refine wpW_det (t' := ?ct4R12) 4 (by rfl) (by kernel_rfl) (NQ_free _) (by kernel_rfl) ?cw4R12 ?ch4R12 ?ca4R12 (Eq.refl _) ?cH4R12
  case cw4R12 => (go_simp; done)
  case ch4R12 =>
    intro ds w' hS K hK
    have hc := (ocell hS).1
    have hf := (ocell hS).2
    have hz := hS.size
    try simp at hz
    go_simp
    try go_bits
    first
      | exact hK _ hS (Gr.refl _)
      | fail
  case ca4R12 => (first | (simp [Act.put]; done) | (simp [Act.put, *]; done))
  try dsimp only
  refine wpW_det (t' := ?ct5R12) 5 (by rfl) (by kernel_rfl) (NQ_free _) (by kernel_rfl) ?cw5R12 ?ch5R12 ?ca5R12 (Eq.refl _) ?cH5R12
  case cw5R12 => (go_simp; done)
  case ch5R12 =>
    intro ds w' hS K hK
    have hc := (ocell hS).1
    have hf := (ocell hS).2
    have hz := hS.size
    try simp at hz
    go_simp
    try go_bits
    first
      | exact hK _ hS (Gr.refl _)
      | fail
  case ca5R12 => (first | (simp [Act.put]; done) | (simp [Act.put, *]; done))
  try dsimp only
  refine wpW_det (t' := ?ct6R12) 6 (by rfl) (by kernel_rfl) (NQ_free _) (by kernel_rfl) ?cw6R12 ?ch6R12 ?ca6R12 (Eq.refl _) ?cH6R12
  case cw6R12 => (go_simp; done)
  case ch6R12 =>
    intro ds w' hS K hK
    have hc := (ocell hS).1
    have hf := (ocell hS).2
    have hz := hS.size
    try simp at hz
    go_simp
    try go_bits
    first
      | exact hK _ hS (Gr.refl _)
      | fail
  case ca6R12 => (first | (simp [Act.put]; done) | (simp [Act.put, *]; done))
  try dsimp only
  refine wpW_det (t' := ?ct7R12) 7 (by rfl) (by kernel_rfl) (NQ_free _) (by kernel_rfl) ?cw7R12 ?ch7R12 ?ca7R12 (Eq.refl _) ?cH7R12
  case cw7R12 => (go_simp; done)
  case ch7R12 =>
    intro ds w' hS K hK
    have hc := (ocell hS).1
    have hf := (ocell hS).2
    have hz := hS.size
    try simp at hz
    go_simp
    try go_bits
    first
      | exact hK _ hS (Gr.refl _)
      | fail
  case ca7R12 => (first | (simp [Act.put]; done) | (simp [Act.put, *]; done))
  try dsimp only
  refine wpW_det (t' := ?ct8R12) 8 (by rfl) (by kernel_rfl) (NQ_free _) (by kernel_rfl) ?cw8R12 ?ch8R12 ?ca8R12 (Eq.refl _) ?cH8R12
  case cw8R12 => (go_simp; done)
  case ch8R12 =>
    intro ds w' hS K hK
    have hc := (ocell hS).1
    have hf := (ocell hS).2
    have hz := hS.size
    try simp at hz
    go_simp
    try go_bits
    first
      | exact hK _ hS (Gr.refl _)
      | fail
  case ca8R12 => (first | (simp [Act.put]; done) | (simp [Act.put, *]; done))
  try dsimp only
  refine wpW_det (t' := ?ct9R12) 9 (by rfl) (by kernel_rfl) (NQ_free _) (by kernel_rfl) ?cw9R12 ?ch9R12 ?ca9R12 (Eq.refl _) ?cH9R12
  case cw9R12 => (go_simp; done)
  case ch9R12 =>
    intro ds w' hS K hK
    have hc := (ocell hS).1
    have hf := (ocell hS).2
    have hz := hS.size
    try simp at hz
    go_simp
    try go_bits
    first
      | exact hK _ hS (Gr.refl _)
      | fail
  case ca9R12 => (first | (simp [Act.put]; done) | (simp [Act.put, *]; done))
  try dsimp only
  refine wpW_det (t' := ?ct10R12) 10 (by rfl) (by kernel_rfl) (NQ_free _) (by kernel_rfl) ?cw10R12 ?ch10R12 ?ca10R12 (Eq.refl _) ?cH10R12
  case cw10R12 => (go_simp; done)
  case ch10R12 =>
    intro ds w' hS K hK
    have hc := (ocell hS).1
    have hf := (ocell hS).2
    have hz := hS.size
    try simp at hz
    go_simp
    try go_bits
    first
      | exact hK _ hS (Gr.refl _)
      | fail
  case ca10R12 => (first | (simp [Act.put]; done) | (simp [Act.put, *]; done))
  try dsimp only
  refine wpW_det (t' := ?ct11R12) 11 (by rfl) (by kernel_rfl) (NQ_free _) (by kernel_rfl) ?cw11R12 ?ch11R12 ?ca11R12 (Eq.refl _) ?cH11R12
  case cw11R12 => (go_simp; done)
  case ch11R12 =>
    intro ds w' hS K hK
    have hc := (ocell hS).1
    have hf := (ocell hS).2
    have hz := hS.size
    try simp at hz
    go_simp
    try go_bits
    first
      | exact hK _ hS (Gr.refl _)
      | fail
  case ca11R12 => (first | (simp [Act.put]; done) | (simp [Act.put, *]; done))
  try dsimp only
  refine wpW_det (t' := ?ct12R12) 12 (by rfl) (by kernel_rfl) (NQ_free _) (by kernel_rfl) ?cw12R12 ?ch12R12 ?ca12R12 (Eq.refl _) ?cH12R12
  case cw12R12 => (go_simp; done)
  case ch12R12 =>
    intro ds w' hS K hK
    have hc := (ocell hS).1
    have hf := (ocell hS).2
    have hz := hS.size
    try simp at hz
    go_simp
    try go_bits
    first
      | exact hK _ hS (Gr.refl _)
      | fail
  case ca12R12 => (first | (simp [Act.put]; done) | (simp [Act.put, *]; done))
  try dsimp only
  refine wpW_det (t' := ?ct13R12) 13 (by rfl) (by kernel_rfl) (NQ_free _) (by kernel_rfl) ?cw13R12 ?ch13R12 ?ca13R12 (Eq.refl _) ?cH13R12
  case cw13R12 => (go_simp; done)
  case ch13R12 =>
    intro ds w' hS K hK
    have hc := (ocell hS).1
    have hf := (ocell hS).2
    have hz := hS.size
    try simp at hz
    go_simp
    try go_bits
    first
      | exact hK _ hS (Gr.refl _)
      | fail
  case ca13R12 => (first | (simp [Act.put]; done) | (simp [Act.put, *]; done))
  try dsimp only
  refine wpW_det (t' := ?ct14R12) 14 (by rfl) (by kernel_rfl) (NQ_free _) (by kernel_rfl) ?cw14R12 ?ch14R12 ?ca14R12 (Eq.refl _) ?cH14R12
  case cw14R12 => (go_simp; done)
  case ch14R12 =>
    intro ds w' hS K hK
    have hc := (ocell hS).1
    have hf := (ocell hS).2
    have hz := hS.size
    try simp at hz
    go_simp
    try go_bits
    first
      | exact hK _ hS (Gr.refl _)
      | fail
  case ca14R12 => (first | (simp [Act.put]; done) | (simp [Act.put, *]; done))
  try dsimp only
  refine wpW_branch [15] (by kernel_rfl) (by simp) ?_
  intro v1 hg_v1 hS_v1
  refine each_cons ?_ each_nil
  refine wpOp_go (by rfl) (Eq.refl _) (by go_simp; done) ?_
  intro K hK
  go_simp
  try simp only [Act.put]
  refine (HCP.out _ hS_v1).mono ?_
  rintro e ws ⟨v, rfl, ownV, hBs⟩
  obtain ⟨A', c', rfl, _, _, _⟩ := own_row2 ownV
  have M1 := (HM.out.drew.gr hg_v1).gr hBs
  have b1 := (B15.out.drew.gr hg_v1).gr hBs
  have ownV := own_low ownV (Nat.le_trans hwz hS_v1.size)
  refine hK _ _ (only_below hS_v1 hBs hS_v1.size) ?_
  clear hK K hBs hg_v1 c0 c1 c2 c3 c4
  refine wpW_det (t' := ?ct16R13) 16 (by rfl) (by kernel_rfl) (NQ_free _) (by kernel_rfl) ?cw16R13 ?ch16R13 ?ca16R13 (Eq.refl _) ?cH16R13
  case cw16R13 => (go_simp; done)
  case ch16R13 =>
    intro ds w' hS K hK
    have hc := (ocell hS).1
    have hf := (ocell hS).2
    have hz := hS.size
    try simp at hz
    go_simp
    try go_bits
    first
      | exact hK _ hS (Gr.refl _)
      | exact hK _ (by repeat (first | (with_reducible exact Below.refl _ _) | (with_reducible assumption) | ((with_reducible refine Below.setCell ?_ ?_ _); rotate_left; · (first | exact Nat.le_refl _ | (simp; done) | (simp; omega) | omega)) | ((with_reducible refine Below.alloc ?_ ?_ _); rotate_left; · (first | exact Nat.le_refl _ | (simp; done) | (simp; omega) | omega)) | (with_reducible apply Below.drew) | (with_reducible apply below_drewN') | (refine Below.trans ?_ (Below.mono (by assumption) (by first | exact Nat.le_refl _ | (simp; done) | (simp; omega) | omega))) | exact Below.refl _ _ | assumption)) (by repeat (first | (with_reducible exact Below.refl _ _) | (with_reducible assumption) | ((with_reducible refine Below.setCell ?_ ?_ _); rotate_left; · (first | exact Nat.le_refl _ | (simp; done) | (simp; omega) | omega)) | ((with_reducible refine Below.alloc ?_ ?_ _); rotate_left; · (first | exact Nat.le_refl _ | (simp; done) | (simp; omega) | omega)) | (with_reducible apply Below.drew) | (with_reducible apply below_drewN') | (refine Below.trans ?_ (Below.mono (by assumption) (by first | exact Nat.le_refl _ | (simp; done) | (simp; omega) | omega))) | exact Below.refl _ _ | assumption))
  case ca16R13 => (first | (simp [Act.put]; done) | (simp [Act.put, *]; done))
  try dsimp only
  refine wpW_branch [17] (by kernel_rfl) (by simp) ?_
  intro v3 hg_v3 hS_v3
  have M2 := M1.gr hg_v3
  have b2 := Blk.gr b1 hg_v3
  have ownV2 := own_below ownV hg_v3
  clear M1 b1 ownV
  refine each_cons ?_ each_nil
  refine wpOp_go (by rfl) (Eq.refl _) (by go_simp; done) ?_
  intro K hK
  go_simp
  try simp only [Act.put]
  have nP := Blk.new v3 39 #[.int .i64 (row), .int .i64 col, .int .i64 (n), .int .i64 cols, .slice A' (m) c']
  have M3 := M2.gr ((Below.refl _ _).alloc (Nat.le_refl _) (.cells #[.int .i64 (row), .int .i64 col, .int .i64 (n), .int .i64 cols, .slice A' (m) c'] 39))
  have b3 := b2.alloc (.cells #[.int .i64 (row), .int .i64 col, .int .i64 (n), .int .i64 cols, .slice A' (m) c'] 39)
  have ownV3 := ownV2.alloc (.cells #[.int .i64 (row), .int .i64 col, .int .i64 (n), .int .i64 cols, .slice A' (m) c'] 39)
  clear M2 b2 ownV2
  obtain ⟨N, hN⟩ : ∃ N, v3.heap.size = N := ⟨_, rfl⟩
  rw [hN] at nP ⊢
  refine hK _ _ (only_alloc hS_v3 _) ?_
  clear hK K hN
  refine wpW_branch [18] (by kernel_rfl) (by simp) ?_
  intro v4 hg4 hS4
  have M4 := M3.gr hg4
  have b4 := Blk.gr b3 hg4
  have nP4 := Blk.gr nP hg4
  have ownV4 := own_below ownV3 hg4
  have hz4 := Below.size M4.below
  have hql := b4.lt
  clear M3 b3 nP ownV3
  refine each_cons ?_ each_nil
  refine wpOp_go (by rfl) (Eq.refl _) (by go_simp; done) ?_
  intro K hK
  refine wp_append_at _ (.tmp 106) (.tmp 123) 22 rfl w0.heap.size 39 i0 _ 5 56 Tryz.underlying22 hi iz0 iz1 iz2 rfl (by decide) v12 ct.length (scsC ct) rfl M4.own12 ⟨N, 0, none⟩ 1 1 [.int .i64 (row), .int .i64 col, .int .i64 (n), .int .i64 cols, .slice A' (m) c'] rfl rfl ?hc (by simp [Value.oneCell']) (by unfold maxLen; omega) (by omega) (by omega) ?_
  case hc =>
    intro j u hj
    rw [Addr.add_lit, Nat.zero_add]
    exact (nP4.cell j).trans (by simpa using hj)
  intro u12 wa hown' hgrow hat
  have hd : DatOk w0.heap.size v4 ⟨row, col, n, cols, zs.take m, A', c'⟩ := .inr (by dsimp only; rw [HLN.out]; exact ownV4)
  have M5 := M4.cut hd (s := ⟨row, col, n, cols, zs.take m, A', c'⟩) (by dsimp only [scC]; rw [HLN.out]; exact hown') hgrow hat
  have hq5 : u12.ownBlock ≠ some q := fun e => by
    rcases hat with h | h
    · exact HQ.out (h.symm.trans e)
    · rw [h] at e; injection e with e; omega
  have b5 := b4.grown hgrow (fun e => HQ.out e.symm)
  rw [HRW.out] at hgrow
  try simp only [Act.put]
  try simp only [List.setIfInBounds_toArray]
  refine hK _ _ (only_trans hS4 hgrow) ?_
  clear hK K M4 b4 nP4 ownV4 hown' hat hd hg4
  refine wpW_det (t' := ?ct19R14) 19 (by rfl) (by kernel_rfl) (NQ_free _) (by kernel_rfl) ?cw19R14 ?ch19R14 ?ca19R14 (Eq.refl _) ?cH19R14
  case cw19R14 => (go_simp; done)
  case ch19R14 =>
    intro ds w' hS K hK
    have hc := (ocell hS).1
    have hf := (ocell hS).2
    have hz := hS.size
    try simp at hz
    go_simp
    try go_bits
    first
      | exact hK _ hS (Gr.refl _)
      | exact hK _ (by repeat (first | (with_reducible exact Below.refl _ _) | (with_reducible assumption) | ((with_reducible refine Below.setCell ?_ ?_ _); rotate_left; · (first | exact Nat.le_refl _ | (simp; done) | (simp; omega) | omega)) | ((with_reducible refine Below.alloc ?_ ?_ _); rotate_left; · (first | exact Nat.le_refl _ | (simp; done) | (simp; omega) | omega)) | (with_reducible apply Below.drew) | (with_reducible apply below_drewN') | (refine Below.trans ?_ (Below.mono (by assumption) (by first | exact Nat.le_refl _ | (simp; done) | (simp; omega) | omega))) | exact Below.refl _ _ | assumption)) (by repeat (first | (with_reducible exact Below.refl _ _) | (with_reducible assumption) | ((with_reducible refine Below.setCell ?_ ?_ _); rotate_left; · (first | exact Nat.le_refl _ | (simp; done) | (simp; omega) | omega)) | ((with_reducible refine Below.alloc ?_ ?_ _); rotate_left; · (first | exact Nat.le_refl _ | (simp; done) | (simp; omega) | omega)) | (with_reducible apply Below.drew) | (with_reducible apply below_drewN') | (refine Below.trans ?_ (Below.mono (by assumption) (by first | exact Nat.le_refl _ | (simp; done) | (simp; omega) | omega))) | exact Below.refl _ _ | assumption))
  case ca19R14 => (first | (simp [Act.put]; done) | (simp [Act.put, *]; done))
  try dsimp only
  refine wpW_end (by kernel_rfl) ?_
  intro we hg hS
  unfold NQ
  dsimp only
  exact H.out _ _ _ _ _ _ _ _ _ _ _ _ _ _ _ _ _ _ _ A' c' u12 we (M5.gr hg) hq5 (Blk.gr b5 hg)

set_option maxRecDepth 100000 in
set_option maxHeartbeats 4000000 in
theorem aoReg22 {w0 W : World} {bk ct : List Sc} {v11 v12 : Value} (M : AvM w0 bk ct v11 v12 W) (hct : ct.length ≤ 100) {q : Nat} (hq : v12.ownBlock ≠ some q) (row col rows cols : Int) {g o dcap : Nat} {zs : List Int} (b15 : Blk W q 39 #[.int .i64 row, .int .i64 col, .int .i64 rows, .int .i64 cols, .slice (some ⟨g, o, none⟩) zs.length dcap]) (hR : Row W w0.heap.size 1 (some ⟨g, o, none⟩) zs.length (intsC zs)) (hg : g < w0.heap.size) (n : Int) (m : Nat) (hmul : n * cols = (m : Int)) (hm0 : 0 < m) (hm : m < zs.length) (hz : zs.length ≤ 576) (hdc : zs.length ≤ dcap) (hdm : dcap ≤ 9223372036854775807) (hrow : -100000 ≤ row ∧ row ≤ 100000) (hrows : 1 ≤ rows ∧ rows ≤ 24) (hn : 1 ≤ n ∧ n < rows) {t0 t1 t2 t3 t4 t5 t6 t7 t8 t9 t10 t11 t13 t14 t17 t18 t19 t20 t21 t22 t23 t24 t25 t26 t27 t28 t29 t30 t31 t32 t33 t34 t35 t36 t37 t38 t39 t40 t41 t42 t43 t44 t45 t46 t47 t48 t49 t50 t51 t52 t53 t54 t55 t56 t57 t58 t59 t60 t61 t62 t63 t64 t65 t66 t67 t68 t69 t70 t71 t72 t73 t74 t75 t76 t77 t78 t79 t80 t81 t82 t83 t84 t85 t86 t87 t88 t89 t90 t91 t92 t93 t94 t95 t96 t97 t98 t99 t100 t101 t102 t103 t104 t105 t106 t107 t108 t109 t110 t111 t112 t113 t114 t115 t116 t117 t118 t119 t120 t121 t122 t123 t124 t125 t126 t127 t128 t129 t130 t131 t132 t133 t134 t135 t136 t137 t138 t139 t140 t141 t142 t143 t144 t145 t146 t147 t148 t149 t150 t151 t152 t153 t154 t155 t156 t157 t158 t159 t160 t161 t162 t163 t164 t165 t166 t167 t168 t169 t170 t171 t172 t173 t174 t175 t176 t177 t178 t179 t180 t181 t182 t183 t184 t185 t186 t187 t188 t189 t190 t191 t192 t193 t194 : Value} {ds : List Deferred} (Q : Exit → Act → World → Prop)
    (h : ∀ (t130 t131 t132 t133 t134 t135 t136 t137 t138 t139 t140 t141 t142 t143 t144 t145 t146 t147 t148 t149 t150 t151 t152 t153 : Value) (A' : Option Addr) (c' : Nat) (u12 : Value) (w' : World), AvM w0 bk (ct ++ [⟨row + n, col, rows - n, cols, zs.drop m, A', c'⟩]) v11 u12 w' → u12.ownBlock ≠ some q → Blk w' q 39 #[.int .i64 row, .int .i64 col, .int .i64 rows, .int .i64 cols, .slice (some ⟨g, o, none⟩) zs.length dcap] → Q .normal ⟨#[t0, t1, t2, t3, t4, t5, t6, t7, t8, t9, t10, t11, u12, t13, t14, .pointer (some ⟨q, 0, none⟩), .int .i64 n, t17, t18, t19, t20, t21, t22, t23, t24, t25, t26, t27, t28, t29, t30, t31, t32, t33, t34, t35, t36, t37, t38, t39, t40, t41, t42, t43, t44, t45, t46, t47, t48, t49, t50, t51, t52, t53, t54, t55, t56, t57, t58, t59, t60, t61, t62, t63, t64, t65, t66, t67, t68, t69, t70, t71, t72, t73, t74, t75, t76, t77, t78, t79, t80, t81, t82, t83, t84, t85, t86, t87, t88, t89, t90, t91, t92, t93, t94, t95, t96, t97, t98, t99, t100, t101, t102, t103, t104, t105, t106, t107, t108, t109, t110, t111, t112, t113, t114, t115, t116, t117, t118, t119, t120, t121, t122, t123, t124, t125, t126, t127, t128, t129, t130, t131, t132, t133, t134, t135, t136, t137, t138, t139, t140, t141, t142, t143, t144, t145, t146, t147, t148, t149, t150, t151, t152, t153, t154, t155, t156, t157, t158, t159, t160, t161, t162, t163, t164, t165, t166, t167, t168, t169, t170, t171, t172, t173, t174, t175, t176, t177, t178, t179, t180, t181, t182, t183, t184, t185, t186, t187, t188, t189, t190, t191, t192, t193, t194], ds⟩ w') :
    (regOf Tryz.f3 22).wp Tryz.prog Q ⟨#[t0, t1, t2, t3, t4, t5, t6, t7, t8, t9, t10, t11, v12, t13, t14, .pointer (some ⟨q, 0, none⟩), .int .i64 n, t17, t18, t19, t20, t21, t22, t23, t24, t25, t26, t27, t28, t29, t30, t31, t32, t33, t34, t35, t36, t37, t38, t39, t40, t41, t42, t43, t44, t45, t46, t47, t48, t49, t50, t51, t52, t53, t54, t55, t56, t57, t58, t59, t60, t61, t62, t63, t64, t65, t66, t67, t68, t69, t70, t71, t72, t73, t74, t75, t76, t77, t78, t79, t80, t81, t82, t83, t84, t85, t86, t87, t88, t89, t90, t91, t92, t93, t94, t95, t96, t97, t98, t99, t100, t101, t102, t103, t104, t105, t106, t107, t108, t109, t110, t111, t112, t113, t114, t115, t116, t117, t118, t119, t120, t121, t122, t123, t124, t125, t126, t127, t128, t129, t130, t131, t132, t133, t134, t135, t136, t137, t138, t139, t140, t141, t142, t143, t144, t145, t146, t147, t148, t149, t150, t151, t152, t153, t154, t155, t156, t157, t158, t159, t160, t161, t162, t163, t164, t165, t166, t167, t168, t169, t170, t171, t172, t173, t174, t175, t176, t177, t178, t179, t180, t181, t182, t183, t184, t185, t186, t187, t188, t189, t190, t191, t192, t193, t194], ds⟩ W := by
  have H := Lib.hid h; clear h
  obtain ⟨i0, hi, iz0, iz1, iz2⟩ := info_parts infoScan
  have hwz := Below.size M.below
  have hct' := hct
  have HM := Lib.hid M
  have HR := Lib.hid hR
  have c0 := b15.cell 0
  have c1 := b15.cell 1
  have c2 := b15.cell 2
  have c3 := b15.cell 3
  have c4 := b15.cell 4
  simp only [List.getElem?_toArray, List.getElem?_cons_zero, List.getElem?_cons_succ] at c0 c1 c2 c3 c4
  have l15 := b15.lt
  have B15 := Lib.hid b15
  have hlen : (zs.drop m).length = zs.length - m := by simp
  have HLN := Lib.hid hlen
  have hmi : (m : Int) ≤ (zs.length : Int) := by omega
  have hmd : (zs.length : Int) ≤ (dcap : Int) := by omega
  have hmc : (m : Int) ≤ (dcap : Int) := by omega
  have hne : ¬ (dcap = m) := by omega
  obtain ⟨rw', hrw⟩ : ∃ r : Option Nat, v12.ownBlock = r := ⟨_, rfl⟩
  have HRW := Lib.hid hrw
  have m1 : some q ≠ rw' := fun e => hq (hrw.trans e.symm)
  have HQ := Lib.hid hq
  have HCP : Hid (∀ w', W.grownBy w' rw' → Calls Tryz.prog 25 #[.slice (some ⟨g, o + m, none⟩) (zs.length - m) (dcap - m)] w' fun e w'' => ∃ v, e = .returned v ∧ w''.ownsRow w'.heap.size 3 1 v (zs.length - m) (intsC (zs.drop m)) ∧ Below w'.heap.size w' w'') := Lib.hid (fun w' hgw => by
    have hb : Below w0.heap.size W w' := (Below.refl _ _).grown hgw hwz (fun q e => HM.out.low12 q (HRW.out.trans e))
    have := copyInts_any (zs.drop m) (some ⟨g, o + m, none⟩) (dcap - m) w0.heap.size w' ((HR.out.below hb (Nat.le_refl _)).dropI (by omega)) (by rw [HLN.out]; omega) (by rw [HLN.out]; omega) (Nat.le_trans hwz hgw.size) (fun e => by cases e)
    rw [HLN.out] at this
    exact this)
  clear hlen hq hrw M b15 hR hct
  conv in (regOf _ _) => whnf
  refine wp_region_w (fun w' => World.grownBy _ w' rw') (by kernel_rfl) (only_drew (World.grownBy.refl _ _)) ?_
  refine wpW_det (t' := ?ct0R15) 0 (by rfl) (by kernel_rfl) (NQ_free _) (by kernel_rfl) ?cw0R15 ?ch0R15 ?ca0R15 (Eq.refl _) ?cH0R15
  case cw0R15 => (go_simp; done)
  case ch0R15 =>
    intro ds w' hS K hK
    have hc := (ocell hS).1
    have hf := (ocell hS).2
    have hz := hS.size
    try simp at hz
    go_simp
    try go_bits
    first
      | exact hK _ hS (Gr.refl _)
      | fail
  case ca0R15 => (first | (simp [Act.put]; done) | (simp [Act.put, *]; done))
  try dsimp only
  refine wpW_det (t' := ?ct1R15) 1 (by rfl) (by kernel_rfl) (NQ_free _) (by kernel_rfl) ?cw1R15 ?ch1R15 ?ca1R15 (Eq.refl _) ?cH1R15
  case cw1R15 => (go_simp; done)
  case ch1R15 =>
    intro ds w' hS K hK
    have hc := (ocell hS).1
    have hf := (ocell hS).2
    have hz := hS.size
    try simp at hz
    go_simp
    try go_bits
    first
      | exact hK _ hS (Gr.refl _)
      | fail
  case ca1R15 => (first | (simp [Act.put]; done) | (simp [Act.put, *]; done))
  try dsimp only
  refine wpW_det (t' := ?ct2R15) 2 (by rfl) (by kernel_rfl) (NQ_free _) (by kernel_rfl) ?cw2R15 ?ch2R15 ?ca2R15 (Eq.refl _) ?cH2R15
  case cw2R15 => (go_simp; done)
  case ch2R15 =>
    intro ds w' hS K hK
    have hc := (ocell hS).1
    have hf := (ocell hS).2
    have hz := hS.size
    try simp at hz
    go_simp
    try go_bits
    first
      | exact hK _ hS (Gr.refl _)
      | fail
  case ca2R15 => (first | (simp [Act.put]; done) | (simp [Act.put, *]; done))
  try dsimp only
  refine wpW_det (t' := ?ct3R15) 3 (by rfl) (by kernel_rfl) (NQ_free _) (by kernel_rfl) ?cw3R15 ?ch3R15 ?ca3R15 (Eq.refl _) ?cH3R15
  case cw3R15 => (go_simp; done)
  case ch3R15 =>
    intro ds w' hS K hK
    have hc := (ocell hS).1
    have hf := (ocell hS).2
    have hz := hS.size
    try simp at hz
    go_simp
    try go_bits
    first
      | exact hK _ hS (Gr.refl _)
      | fail
  case ca3R15 => (first | (simp [Act.put]; done) | (simp [Act.put, *]; done))
  try dsimp only
  refine wpW_det (t' := ?ct4R15) 4 (by rfl) (by kernel_rfl) (NQ_free _) (by kernel_rfl) ?cw4R15 ?ch4R15 ?ca4R15 (Eq.refl _) ?cH4R15
  case cw4R15 => (go_simp; done)
  case ch4R15 =>
    intro ds w' hS K hK
    have hc := (ocell hS).1
    have hf := (ocell hS).2
    have hz := hS.size
    try simp at hz
    go_simp
    try go_bits
    first
      | exact hK _ hS (Gr.refl _)
      | fail
  case ca4R15 => (first | (simp [Act.put]; done) | (simp [Act.put, *]; done))
  try dsimp only
  refine wpW_det (t' := ?ct5R15) 5 (by rfl) (by kernel_rfl) (NQ_free _) (by kernel_rfl) ?cw5R15 ?ch5R15 ?ca5R15 (Eq.refl _) ?cH5R15
  case cw5R15 => (go_simp; done)
  case ch5R15 =>
    intro ds w' hS K hK
    have hc := (ocell hS).1
    have hf := (ocell hS).2
    have hz := hS.size
    try simp at hz
    go_simp
    try go_bits
    first
      | exact hK _ hS (Gr.refl _)
      | fail
  case ca5R15 => (first | (simp [Act.put]; done) | (simp [Act.put, *]; done))
  try dsimp only
  refine wpW_det (t' := ?ct6R15) 6 (by rfl) (by kernel_rfl) (NQ_free _) (by kernel_rfl) ?cw6R15 ?ch6R15 ?ca6R15 (Eq.refl _) ?cH6R15
  case cw6R15 => (go_simp; done)
  case ch6R15 =>
    intro ds w' hS K hK
    have hc := (ocell hS).1
    have hf := (ocell hS).2
    have hz := hS.size
    try simp at hz
    go_simp
    try go_bits
    first
      | exact hK _ hS (Gr.refl _)
      | fail
  case ca6R15 => (first | (simp [Act.put]; done) | (simp [Act.put, *]; done))
  try dsimp only
  refine wpW_det (t' := ?ct7R15) 7 (by rfl) (by kernel_rfl) (NQ_free _) (by kernel_rfl) ?cw7R15 ?ch7R15 ?ca7R15 (Eq.refl _) ?cH7R15
  case cw7R15 => (go_simp; done)
  case ch7R15 =>
    intro ds w' hS K hK
    have hc := (ocell hS).1
    have hf := (ocell hS).2
    have hz := hS.size
    try simp at hz
    go_simp
    try go_bits
    first
      | exact hK _ hS (Gr.refl _)
      | fail
  case ca7R15 => (first | (simp [Act.put]; done) | (simp [Act.put, *]; done))
  try dsimp only
  refine wpW_det (t' := ?ct8R15) 8 (by rfl) (by kernel_rfl) (NQ_free _) (by kernel_rfl) ?cw8R15 ?ch8R15 ?ca8R15 (Eq.refl _) ?cH8R15
  case cw8R15 => (go_simp; done)
  case ch8R15 =>
    intro ds w' hS K hK
    have hc := (ocell hS).1
    have hf := (ocell hS).2
    have hz := hS.size
    try simp at hz
    go_simp
    try go_bits
    first
      | exact hK _ hS (Gr.refl _)
      | fail
  case ca8R15 => (first | (simp [Act.put]; done) | (simp [Act.put, *]; done))
  try dsimp only
  refine wpW_det (t' := ?ct9R15) 9 (by rfl) (by kernel_rfl) (NQ_free _) (by kernel_rfl) ?cw9R15 ?ch9R15 ?ca9R15 (Eq.refl _) ?cH9R15
  case cw9R15 => (go_simp; done)
  case ch9R15 =>
    intro ds w' hS K hK
    have hc := (ocell hS).1
    have hf := (ocell hS).2
    have hz := hS.size
    try simp at hz
    go_simp
    try go_bits
    first
      | exact hK _ hS (Gr.refl _)
      | fail
  case ca9R15 => (first | (simp [Act.put]; done) | (simp [Act.put, *]; done))
  try dsimp only
  refine wpW_det (t' := ?ct10R15) 10 (by rfl) (by kernel_rfl) (NQ_free _) (by kernel_rfl) ?cw10R15 ?ch10R15 ?ca10R15 (Eq.refl _) ?cH10R15
  case cw10R15 => (go_simp; done)
  case ch10R15 =>
    intro ds w' hS K hK
    have hc := (ocell hS).1
    have hf := (ocell hS).2
    have hz := hS.size
    try simp at hz
    go_simp
    try go_bits
    first
      | exact hK _ hS (Gr.refl _)
      | fail
  case ca10R15 => (first | (simp [Act.put]; done) | (simp [Act.put, *]; done))
  try dsimp only
  refine wpW_det (t' := ?ct11R15) 11 (by rfl) (by kernel_rfl) (NQ_free _) (by kernel_rfl) ?cw11R15 ?ch11R15 ?ca11R15 (Eq.refl _) ?cH11R15
  case cw11R15 => (go_simp; done)
  case ch11R15 =>
    intro ds w' hS K hK
    have hc := (ocell hS).1
    have hf := (ocell hS).2
    have hz := hS.size
    try simp at hz
    go_simp
    try go_bits
    first
      | exact hK _ hS (Gr.refl _)
      | fail
  case ca11R15 => (first | (simp [Act.put]; done) | (simp [Act.put, *]; done))
  try dsimp only
  refine wpW_det (t' := ?ct12R15) 12 (by rfl) (by kernel_rfl) (NQ_free _) (by kernel_rfl) ?cw12R15 ?ch12R15 ?ca12R15 (Eq.refl _) ?cH12R15
  case cw12R15 => (go_simp; done)
  case ch12R15 =>
    intro ds w' hS K hK
    have hc := (ocell hS).1
    have hf := (ocell hS).2
    have hz := hS.size
    try simp at hz
    go_simp
    try go_bits
    first
      | exact hK _ hS (Gr.refl _)
      | fail
  case ca12R15 => (first | (simp [Act.put]; done) | (simp [Act.put, *]; done))
  try dsimp only
  refine wpW_det (t' := ?ct13R15) 13 (by rfl) (by kernel_rfl) (NQ_free _) (by kernel_rfl) ?cw13R15 ?ch13R15 ?ca13R15 (Eq.refl _) ?cH13R15
  case cw13R15 => (go_simp; done)
  case ch13R15 =>
    intro ds w' hS K hK
    have hc := (ocell hS).1
    have hf := (ocell hS).2
    have hz := hS.size
    try simp at hz
    go_simp
    try go_bits
    first
      | exact hK _ hS (Gr.refl _)
      | fail
  case ca13R15 => (first | (simp [Act.put]; done) | (simp [Act.put, *]; done))
  try dsimp only
  refine wpW_det (t' := ?ct14R15) 14 (by rfl) (by kernel_rfl) (NQ_free _) (by kernel_rfl) ?cw14R15 ?ch14R15 ?ca14R15 (Eq.refl _) ?cH14R15
  case cw14R15 => (go_simp; done)
  case ch14R15 =>
    intro ds w' hS K hK
    have hc := (ocell hS).1
    have hf := (ocell hS).2
    have hz := hS.size
    try simp at hz
    go_simp
    try go_bits
    first
      | exact hK _ hS (Gr.refl _)
      | fail
  case ca14R15 => (first | (simp [Act.put]; done) | (simp [Act.put, *]; done))
  try dsimp only
  refine wpW_det (t' := ?ct15R15) 15 (by rfl) (by kernel_rfl) (NQ_free _) (by kernel_rfl) ?cw15R15 ?ch15R15 ?ca15R15 (Eq.refl _) ?cH15R15
  case cw15R15 => (go_simp; done)
  case ch15R15 =>
    intro ds w' hS K hK
    have hc := (ocell hS).1
    have hf := (ocell hS).2
    have hz := hS.size
    try simp at hz
    go_simp
    try go_bits
    first
      | exact hK _ hS (Gr.refl _)
      | fail
  case ca15R15 => (first | (simp [Act.put]; done) | (simp [Act.put, *]; done))
  try dsimp only
  refine wpW_det (t' := ?ct16R15) 16 (by rfl) (by kernel_rfl) (NQ_free _) (by kernel_rfl) ?cw16R15 ?ch16R15 ?ca16R15 (Eq.refl _) ?cH16R15
  case cw16R15 => (go_simp; done)
  case ch16R15 =>
    intro ds w' hS K hK
    have hc := (ocell hS).1
    have hf := (ocell hS).2
    have hz := hS.size
    try simp at hz
    go_simp
    try go_bits
    first
      | exact hK _ hS (Gr.refl _)
      | fail
  case ca16R15 => (first | (simp [Act.put]; done) | (simp [Act.put, *]; done))
  try dsimp only
  refine wpW_det (t' := ?ct17R15) 17 (by rfl) (by kernel_rfl) (NQ_free _) (by kernel_rfl) ?cw17R15 ?ch17R15 ?ca17R15 (Eq.refl _) ?cH17R15
  case cw17R15 => (go_simp; done)
  case ch17R15 =>
    intro ds w' hS K hK
    have hc := (ocell hS).1
    have hf := (ocell hS).2
    have hz := hS.size
    try simp at hz
    go_simp
    try go_bits
    first
      | exact hK _ hS (Gr.refl _)
      | fail
  case ca17R15 => (first | (simp [Act.put]; done) | (simp [Act.put, *]; done))
  try dsimp only
  refine wpW_det (t' := ?ct18R15) 18 (by rfl) (by kernel_rfl) (NQ_free _) (by kernel_rfl) ?cw18R15 ?ch18R15 ?ca18R15 (Eq.refl _) ?cH18R15
  case cw18R15 => (go_simp; done)
  case ch18R15 =>
    intro ds w' hS K hK
    have hc := (ocell hS).1
    have hf := (ocell hS).2
    have hz := hS.size
    try simp at hz
    go_simp
    try go_bits
    first
      | exact hK _ hS (Gr.refl _)
      | fail
  case ca18R15 => (first | (simp [Act.put]; done) | (simp [Act.put, *]; done))
  try dsimp only
  refine wpW_det (t' := ?ct19R15) 19 (by rfl) (by kernel_rfl) (NQ_free _) (by kernel_rfl) ?cw19R15 ?ch19R15 ?ca19R15 (Eq.refl _) ?cH19R15
  case cw19R15 => (go_simp; done)
  case ch19R15 =>
    intro ds w' hS K hK
    have hc := (ocell hS).1
    have hf := (ocell hS).2
    have hz := hS.size
    try simp at hz
    go_simp
    try go_bits
    first
      | exact hK _ hS (Gr.refl _)
      | fail
  case ca19R15 => (first | (simp [Act.put]; done) | (simp [Act.put, *]; done))
  try dsimp only
  refine wpW_branch [20] (by kernel_rfl) (by simp) ?_
  intro v1 hg_v1 hS_v1
  refine each_cons ?_ each_nil
  refine wpOp_go (by rfl) (Eq.refl _) (by go_simp; done) ?_
  intro K hK
  go_simp
  try simp only [Act.put]
  refine (HCP.out _ hS_v1).mono ?_
  rintro e ws ⟨v, rfl, ownV, hBs⟩
  obtain ⟨A', c', rfl, _, _, _⟩ := own_row2 ownV
  have M1 := (HM.out.drew.gr hg_v1).gr hBs
  have b1 := (B15.out.drew.gr hg_v1).gr hBs
  have ownV := own_low ownV (Nat.le_trans hwz hS_v1.size)
  refine hK _ _ (only_below hS_v1 hBs hS_v1.size) ?_
  clear hK K hBs hg_v1 c0 c1 c2 c3 c4
  refine wpW_det (t' := ?ct21R16) 21 (by rfl) (by kernel_rfl) (NQ_free _) (by kernel_rfl) ?cw21R16 ?ch21R16 ?ca21R16 (Eq.refl _) ?cH21R16
  case cw21R16 => (go_simp; done)
  case ch21R16 =>
    intro ds w' hS K hK
    have hc := (ocell hS).1
    have hf := (ocell hS).2
    have hz := hS.size
    try simp at hz
    go_simp
    try go_bits
    first
      | exact hK _ hS (Gr.refl _)
      | exact hK _ (by repeat (first | (with_reducible exact Below.refl _ _) | (with_reducible assumption) | ((with_reducible refine Below.setCell ?_ ?_ _); rotate_left; · (first | exact Nat.le_refl _ | (simp; done) | (simp; omega) | omega)) | ((with_reducible refine Below.alloc ?_ ?_ _); rotate_left; · (first | exact Nat.le_refl _ | (simp; done) | (simp; omega) | omega)) | (with_reducible apply Below.drew) | (with_reducible apply below_drewN') | (refine Below.trans ?_ (Below.mono (by assumption) (by first | exact Nat.le_refl _ | (simp; done) | (simp; omega) | omega))) | exact Below.refl _ _ | assumption)) (by repeat (first | (with_reducible exact Below.refl _ _) | (with_reducible assumption) | ((with_reducible refine Below.setCell ?_ ?_ _); rotate_left; · (first | exact Nat.le_refl _ | (simp; done) | (simp; omega) | omega)) | ((with_reducible refine Below.alloc ?_ ?_ _); rotate_left; · (first | exact Nat.le_refl _ | (simp; done) | (simp; omega) | omega)) | (with_reducible apply Below.drew) | (with_reducible apply below_drewN') | (refine Below.trans ?_ (Below.mono (by assumption) (by first | exact Nat.le_refl _ | (simp; done) | (simp; omega) | omega))) | exact Below.refl _ _ | assumption))
  case ca21R16 => (first | (simp [Act.put]; done) | (simp [Act.put, *]; done))
  try dsimp only
  refine wpW_branch [22] (by kernel_rfl) (by simp) ?_
  intro v3 hg_v3 hS_v3
  have M2 := M1.gr hg_v3
  have b2 := Blk.gr b1 hg_v3
  have ownV2 := own_below ownV hg_v3
  clear M1 b1 ownV
  refine each_cons ?_ each_nil
  refine wpOp_go (by rfl) (Eq.refl _) (by go_simp; done) ?_
  intro K hK
  go_simp
  try simp only [Act.put]
  have nP := Blk.new v3 39 #[.int .i64 (row + n), .int .i64 col, .int .i64 (rows - n), .int .i64 cols, .slice A' (zs.length - m) c']
  have M3 := M2.gr ((Below.refl _ _).alloc (Nat.le_refl _) (.cells #[.int .i64 (row + n), .int .i64 col, .int .i64 (rows - n), .int .i64 cols, .slice A' (zs.length - m) c'] 39))
  have b3 := b2.alloc (.cells #[.int .i64 (row + n), .int .i64 col, .int .i64 (rows - n), .int .i64 cols, .slice A' (zs.length - m) c'] 39)
  have ownV3 := ownV2.alloc (.cells #[.int .i64 (row + n), .int .i64 col, .int .i64 (rows - n), .int .i64 cols, .slice A' (zs.length - m) c'] 39)
  clear M2 b2 ownV2
  obtain ⟨N, hN⟩ : ∃ N, v3.heap.size = N := ⟨_, rfl⟩
  rw [hN] at nP ⊢
  refine hK _ _ (only_alloc hS_v3 _) ?_
  clear hK K hN
  refine wpW_branch [23] (by kernel_rfl) (by simp) ?_
  intro v4 hg4 hS4
  have M4 := M3.gr hg4
  have b4 := Blk.gr b3 hg4
  have nP4 := Blk.gr nP hg4
  have ownV4 := own_below ownV3 hg4
  have hz4 := Below.size M4.below
  have hql := b4.lt
  clear M3 b3 nP ownV3
  refine each_cons ?_ each_nil
  refine wpOp_go (by rfl) (Eq.refl _) (by go_simp; done) ?_
  intro K hK
  refine wp_append_at _ (.tmp 130) (.tmp 152) 22 rfl w0.heap.size 39 i0 _ 5 56 Tryz.underlying22 hi iz0 iz1 iz2 rfl (by decide) v12 ct.length (scsC ct) rfl M4.own12 ⟨N, 0, none⟩ 1 1 [.int .i64 (row + n), .int .i64 col, .int .i64 (rows - n), .int .i64 cols, .slice A' (zs.length - m) c'] rfl rfl ?hc (by simp [Value.oneCell']) (by unfold maxLen; omega) (by omega) (by omega) ?_
  case hc =>
    intro j u hj
    rw [Addr.add_lit, Nat.zero_add]
    exact (nP4.cell j).trans (by simpa using hj)
  intro u12 wa hown' hgrow hat
  have hd : DatOk w0.heap.size v4 ⟨row + n, col, rows - n, cols, zs.drop m, A', c'⟩ := .inr (by dsimp only; rw [HLN.out]; exact ownV4)
  have M5 := M4.cut hd (s := ⟨row + n, col, rows - n, cols, zs.drop m, A', c'⟩) (by dsimp only [scC]; rw [HLN.out]; exact hown') hgrow hat
  have hq5 : u12.ownBlock ≠ some q := fun e => by
    rcases hat with h | h
    · exact HQ.out (h.symm.trans e)
    · rw [h] at e; injection e with e; omega
  have b5 := b4.grown hgrow (fun e => HQ.out e.symm)
  rw [HRW.out] at hgrow
  try simp only [Act.put]
  try simp only [List.setIfInBounds_toArray]
  refine hK _ _ (only_trans hS4 hgrow) ?_
  clear hK K M4 b4 nP4 ownV4 hown' hat hd hg4
  refine wpW_det (t' := ?ct24R17) 24 (by rfl) (by kernel_rfl) (NQ_free _) (by kernel_rfl) ?cw24R17 ?ch24R17 ?ca24R17 (Eq.refl _) ?cH24R17
  case cw24R17 => (go_simp; done)
  case ch24R17 =>
    intro ds w' hS K hK
    have hc := (ocell hS).1
    have hf := (ocell hS).2
    have hz := hS.size
    try simp at hz
    go_simp
    try go_bits
    first
      | exact hK _ hS (Gr.refl _)
      | exact hK _ (by repeat (first | (with_reducible exact Below.refl _ _) | (with_reducible assumption) | ((with_reducible refine Below.setCell ?_ ?_ _); rotate_left; · (first | exact Nat.le_refl _ | (simp; done) | (simp; omega) | omega)) | ((with_reducible refine Below.alloc ?_ ?_ _); rotate_left; · (first | exact Nat.le_refl _ | (simp; done) | (simp; omega) | omega)) | (with_reducible apply Below.drew) | (with_reducible apply below_drewN') | (refine Below.trans ?_ (Below.mono (by assumption) (by first | exact Nat.le_refl _ | (simp; done) | (simp; omega) | omega))) | exact Below.refl _ _ | assumption)) (by repeat (first | (with_reducible exact Below.refl _ _) | (with_reducible assumption) | ((with_reducible refine Below.setCell ?_ ?_ _); rotate_left; · (first | exact Nat.le_refl _ | (simp; done) | (simp; omega) | omega)) | ((with_reducible refine Below.alloc ?_ ?_ _); rotate_left; · (first | exact Nat.le_refl _ | (simp; done) | (simp; omega) | omega)) | (with_reducible apply Below.drew) | (with_reducible apply below_drewN') | (refine Below.trans ?_ (Below.mono (by assumption) (by first | exact Nat.le_refl _ | (simp; done) | (simp; omega) | omega))) | exact Below.refl _ _ | assumption))
  case ca24R17 => (first | (simp [Act.put]; done) | (simp [Act.put, *]; done))
  try dsimp only
  refine wpW_end (by kernel_rfl) ?_
  intro we hg hS
  unfold NQ
  dsimp only
  exact H.out _ _ _ _ _ _ _ _ _ _ _ _ _ _ _ _ _ _ _ _ _ _ _ _ A' c' u12 we (M5.gr hg) hq5 (Blk.gr b5 hg)
end Go.Proofs.YtidgeagpgllkeaaGreat

namespace Go.Proofs.YtidgeagpgllkeaaGreat
open Go.RowKit

theorem DatOk.gr {B : Nat} {W W' : World} {s : Sc} (h : DatOk B W s) (hk : Gr W W') (hB : B ≤ W.heap.size) : DatOk B W' s := h.elim (fun a => .inl ⟨a.1.below hk hB, a.2⟩) (fun a => .inr (own_below a hk))
def nCut (l : List Sc) (k : Nat) (a : Int) : Int := match l[k]? with
  | some s => 1 + a % (s.rows - 1)
  | none => 1
structure AvI (l : List Sc) (k : Nat) (a : Int) (i : Nat) (bk ct : List Sc) : Prop where
  back : bk = backTo l i
  cut : ct.map Sc.core = (cutTo l k (nCut l k a) i).map Sc.core
  most : k < i → ∀ s, l[k]? = some s → s.rows ≠ 1 → s.row + nCut l k a ≤ 100000
theorem AvI.start (l : List Sc) (k : Nat) (a : Int) : AvI l k a 0 [] [] := ⟨by simp [backTo], by simp [cutTo], fun h => absurd h (by omega)⟩
theorem AvI.lens {l : List Sc} {k : Nat} {a : Int} {i : Nat} {bk ct : List Sc} (h : AvI l k a i bk ct) : bk.length ≤ i ∧ ct.length ≤ i + 1 := by
  constructor
  · rw [h.back]; unfold backTo; simp; omega
  · have h1 := congrArg List.length h.cut
    have h2 := cutTo_len l k (nCut l k a) i
    simp only [List.length_map] at h1
    split at h2 <;> omega
theorem AvI.one {l : List Sc} {k : Nat} {a : Int} {i j : Nat} {bk ct : List Sc} {s t : Sc} (h : AvI l k a i bk ct) (hs : l[i]? = some s) (ht : l[j]? = some t) (hj : j = l.length - 1 - i) (hc : i ≠ k ∨ s.rows = 1) : AvI l k a (i + 1) (bk ++ [t]) (ct ++ [s]) := by
  have hi := (List.getElem?_eq_some_iff.1 hs).1
  refine ⟨?_, ?_, fun hk u hu hr => ?_⟩
  · rw [h.back, backTo_succ hi]
    subst hj
    rw [List.getElem?_eq_getElem (by omega)] at ht
    simpa using ht.symm
  · rw [cutTo_succ k _ hs, List.map_append, List.map_append, h.cut]
    unfold cutP
    rw [if_pos hc]
  · by_cases e : k < i
    · exact h.most e u hu hr
    · have : i = k := by omega
      subst this
      rw [hs] at hu
      obtain rfl : s = u := by simpa using hu
      rcases hc with hc | hc
      · exact absurd rfl hc
      · exact absurd hc hr
theorem AvI.two {l : List Sc} {k : Nat} {a : Int} {j : Nat} {bk ct : List Sc} {s t x y : Sc} (h : AvI l k a k bk ct) (hs : l[k]? = some s) (ht : l[j]? = some t) (hj : j = l.length - 1 - k) (hr : s.rows ≠ 1) (hx : x.core = (topS s (1 + a % (s.rows - 1))).core) (hy : y.core = (botS s (1 + a % (s.rows - 1))).core) (hm : s.row + (1 + a % (s.rows - 1)) ≤ 100000) : AvI l k a (k + 1) (bk ++ [t]) (ct ++ [x] ++ [y]) := by
  have hi := (List.getElem?_eq_some_iff.1 hs).1
  have hn : nCut l k a = 1 + a % (s.rows - 1) := by unfold nCut; rw [hs]
  refine ⟨?_, ?_, fun _ u hu _ => ?_⟩
  · rw [h.back, backTo_succ hi]
    subst hj
    rw [List.getElem?_eq_getElem (by omega)] at ht
    simpa using ht.symm
  · rw [cutTo_succ k _ hs, List.append_assoc, List.map_append, List.map_append, h.cut]
    unfold cutP
    rw [if_neg (by simp [hr]), hn]
    simp [hx, hy]
  · rw [hs] at hu
    obtain rfl : s = u := by simpa using hu
    rw [hn]; exact hm

set_option maxRecDepth 100000 in
set_option maxHeartbeats 8000000 in
theorem aoLoop (l : List Sc) (A : Option Addr) (c B : Nat) (a0 a1 : Int) {V wr0 : World} {q5 : Nat} (hl : ScOk l A B V) (hB : B ≤ V.heap.size) (hl4 : l.length ≤ 4) (HG : Hid (∀ s ∈ l, ScGood s)) (HD : Hid (∀ s ∈ l, s.data.length ≤ s.dcap ∧ s.dcap ≤ 9223372036854775807 ∧ (s.dA = none → s.dcap = 0))) (b5 : Blk V q5 25 #[.int .i64 a0, .int .i64 a1]) {k : Nat} (hk : k < l.length) (hM : AvM V [] [] (.slice none 0 0) (.slice none 0 0) wr0) {t1 t2 t3 t4 t6 t7 t8 t9 t10 t15 t16 t17 t18 t19 t20 t21 t22 t23 t24 t25 t26 t27 t28 t29 t30 t31 t32 t33 t34 t35 t36 t37 t38 t39 t40 t41 t42 t43 t44 t45 t46 t47 t48 t49 t50 t51 t52 t53 t54 t55 t56 t57 t58 t59 t60 t61 t62 t63 t64 t65 t66 t67 t68 t69 t70 t71 t72 t73 t74 t75 t76 t77 t78 t79 t80 t81 t82 t83 t84 t85 t86 t87 t88 t89 t90 t91 t92 t93 t94 t95 t96 t97 t98 t99 t100 t101 t102 t103 t104 t105 t106 t107 t108 t109 t110 t111 t112 t113 t114 t115 t116 t117 t118 t119 t120 t121 t122 t123 t124 t125 t126 t127 t128 t129 t130 t131 t132 t133 t134 t135 t136 t137 t138 t139 t140 t141 t142 t143 t144 t145 t146 t147 t148 t149 t150 t151 t152 t153 t154 t155 t156 t157 t158 t159 t160 t161 t162 t163 t164 t165 t166 t167 t168 t169 t170 t171 t172 t173 t174 t175 t176 t177 t178 t179 t180 t181 t182 t183 t184 t185 t186 t187 t188 t189 t190 t191 t192 t193 t194 : Value} {ds : List Deferred} (Q' : Exit → Act → World → Prop)
    (h : ∀ (t6 t14 t15 t16 t60 t61 t62 t63 t64 t65 t66 t67 t68 t69 t70 t71 t72 t73 t74 t75 t76 t77 t78 t79 t80 t81 t82 t83 t84 t85 t86 t87 t88 t89 t90 t91 t92 t93 t94 t95 t96 t97 t98 t99 t100 t101 t102 t103 t104 t105 t106 t107 t108 t109 t110 t111 t112 t113 t114 t115 t116 t117 t118 t119 t120 t121 t122 t123 t124 t125 t126 t127 t128 t129 t130 t131 t132 t133 t134 t135 t136 t137 t138 t139 t140 t141 t142 t143 t144 t145 t146 t147 t148 t149 t150 t151 t152 t153 : Value) (bk ct : List Sc) (v11 v12 : Value) (w' : World), AvI l k a1 l.length bk ct → AvM V bk ct v11 v12 w' → Q' (.exit 0) ⟨#[.slice A l.length c, t1, t2, t3, t4, .pointer (some ⟨q5, 0, none⟩), t6, t7, t8, t9, t10, v11, v12, .int .i64 (k : Int), t14, t15, t16, t17, t18, t19, t20, t21, t22, t23, t24, t25, t26, t27, t28, t29, t30, t31, t32, t33, t34, t35, t36, t37, t38, t39, t40, t41, t42, t43, t44, t45, t46, t47, t48, t49, t50, t51, t52, t53, t54, t55, t56, t57, t58, t59, t60, t61, t62, t63, t64, t65, t66, t67, t68, t69, t70, t71, t72, t73, t74, t75, t76, t77, t78, t79, t80, t81, t82, t83, t84, t85, t86, t87, t88, t89, t90, t91, t92, t93, t94, t95, t96, t97, t98, t99, t100, t101, t102, t103, t104, t105, t106, t107, t108, t109, t110, t111, t112, t113, t114, t115, t116, t117, t118, t119, t120, t121, t122, t123, t124, t125, t126, t127, t128, t129, t130, t131, t132, t133, t134, t135, t136, t137, t138, t139, t140, t141, t142, t143, t144, t145, t146, t147, t148, t149, t150, t151, t152, t153, t154, t155, t156, t157, t158, t159, t160, t161, t162, t163, t164, t165, t166, t167, t168, t169, t170, t171, t172, t173, t174, t175, t176, t177, t178, t179, t180, t181, t182, t183, t184, t185, t186, t187, t188, t189, t190, t191, t192, t193, t194], ds⟩ w')
    (h2 : ∀ (t11 t12 t14 t15 t16 t60 t61 t62 t63 t64 t65 t66 t67 t68 t69 t70 t71 t72 t73 t74 t75 t76 t77 t78 t79 t80 t81 t82 t83 t84 t85 t86 t87 t88 t89 t90 t91 t92 t93 t94 t95 t96 t97 t98 t99 t100 t101 t102 t103 t104 t105 t106 t107 t108 t109 t110 t111 t112 t113 t114 t115 t116 t117 t118 t119 t120 t121 t122 t123 t124 t125 t126 t127 t128 t129 t130 t131 t132 t133 t134 t135 t136 t137 t138 t139 t140 t141 t142 t143 t144 t145 t146 t147 t148 t149 t150 t151 t152 t153 : Value) (w' : World), Below V.heap.size V w' → Q' .ret ⟨#[.slice A l.length c, t1, t2, t3, t4, .pointer (some ⟨q5, 0, none⟩), .bool true, t7, t8, t9, t10, t11, t12, .int .i64 (k : Int), t14, t15, t16, t17, t18, t19, t20, t21, t22, t23, t24, t25, t26, t27, t28, t29, t30, t31, t32, t33, t34, t35, t36, t37, t38, t39, t40, t41, t42, t43, t44, t45, t46, t47, t48, t49, t50, t51, t52, t53, t54, t55, t56, t57, t58, t59, t60, t61, t62, t63, t64, t65, t66, t67, t68, t69, t70, t71, t72, t73, t74, t75, t76, t77, t78, t79, t80, t81, t82, t83, t84, t85, t86, t87, t88, t89, t90, t91, t92, t93, t94, t95, t96, t97, t98, t99, t100, t101, t102, t103, t104, t105, t106, t107, t108, t109, t110, t111, t112, t113, t114, t115, t116, t117, t118, t119, t120, t121, t122, t123, t124, t125, t126, t127, t128, t129, t130, t131, t132, t133, t134, t135, t136, t137, t138, t139, t140, t141, t142, t143, t144, t145, t146, t147, t148, t149, t150, t151, t152, t153, t154, t155, t156, t157, t158, t159, t160, t161, t162, t163, t164, t165, t166, t167, t168, t169, t170, t171, t172, t173, t174, t175, t176, t177, t178, t179, t180, t181, t182, t183, t184, t185, t186, t187, t188, t189, t190, t191, t192, t193, t194], ds⟩ w') :
    (Code.loop (bodyOf Tryz.f3 0)).wp Tryz.prog Q' ⟨#[.slice A l.length c, t1, t2, t3, t4, .pointer (some ⟨q5, 0, none⟩), t6, t7, t8, t9, t10, .slice none 0 0, .slice none 0 0, .int .i64 (k : Int), .int .i64 0, t15, t16, t17, t18, t19, t20, t21, t22, t23, t24, t25, t26, t27, t28, t29, t30, t31, t32, t33, t34, t35, t36, t37, t38, t39, t40, t41, t42, t43, t44, t45, t46, t47, t48, t49, t50, t51, t52, t53, t54, t55, t56, t57, t58, t59, t60, t61, t62, t63, t64, t65, t66, t67, t68, t69, t70, t71, t72, t73, t74, t75, t76, t77, t78, t79, t80, t81, t82, t83, t84, t85, t86, t87, t88, t89, t90, t91, t92, t93, t94, t95, t96, t97, t98, t99, t100, t101, t102, t103, t104, t105, t106, t107, t108, t109, t110, t111, t112, t113, t114, t115, t116, t117, t118, t119, t120, t121, t122, t123, t124, t125, t126, t127, t128, t129, t130, t131, t132, t133, t134, t135, t136, t137, t138, t139, t140, t141, t142, t143, t144, t145, t146, t147, t148, t149, t150, t151, t152, t153, t154, t155, t156, t157, t158, t159, t160, t161, t162, t163, t164, t165, t166, t167, t168, t169, t170, t171, t172, t173, t174, t175, t176, t177, t178, t179, t180, t181, t182, t183, t184, t185, t186, t187, t188, t189, t190, t191, t192, t193, t194], ds⟩ wr0 := by
  have H := Lib.hid h; clear h
  have H2 := Lib.hid h2; clear h2
  obtain ⟨i0, hi, iz0, iz1, iz2⟩ := info_parts infoScan
  conv in (bodyOf _ _) => whnf
  dsimp only
  go_loopw [11, 12, 14] (fun s11 s12 s14 wr => ∃ (i : Nat) (bk ct : List Sc) (v11 v12 : Value), i ≤ l.length ∧ v11 = s11 ∧ v12 = s12 ∧ s14 = .int .i64 i ∧ Hid (AvI l k a1 i bk ct) ∧ AvM V bk ct v11 v12 wr) (fun _ _ s14 _ => l.length - (intOf s14).toNat)
  case atStart => exact ⟨0, [], [], _, _, Nat.zero_le _, rfl, rfl, by go_num, Lib.hid (AvI.start l k a1), hM⟩
  case round =>
    clear hM
    obtain ⟨i, bk, ct, v11, v12, hil, rfl, rfl, rfl, HI, M⟩ := hrel
    obtain ⟨hbk, hctl⟩ := HI.out.lens
    have hx := M.below
    have hzx := Below.size hx
    by_cases hlt : i < l.length
    · obtain ⟨j, hj⟩ : ∃ j, j = l.length - 1 - i := ⟨_, rfl⟩
      have hjl : j < l.length := by omega
      have hji : (l.length : Int) - 1 - (i : Int) = (j : Int) := by omega
      have HJ := Lib.hid hj
      clear hj
      have his : l[i]? = some l[i] := List.getElem?_eq_getElem hlt
      have hjs : l[j]? = some l[j] := List.getElem?_eq_getElem hjl
      have hrow := (hl.below hx hB).row
      obtain ⟨g, o, hA, hgB, x0, x1, x2, x3, x4⟩ := scCells hrow hjl
      obtain ⟨g', o', hA', _, y0, y1, y2, y3, y4⟩ := scCells hl.row hlt
      have hdat : DatOk V.heap.size V l[i] := .inl ⟨(hl.data _ (List.getElem_mem hlt)).more hB, (HD.out _ (List.getElem_mem hlt)).1, (HD.out _ (List.getElem_mem hlt)).2.2⟩
      have HDI := Lib.hid hdat
      have HDR : Hid (Row V V.heap.size 1 l[i].dA l[i].data.length (intsC l[i].data)) := Lib.hid ((hl.data _ (List.getElem_mem hlt)).more hB)
      have HGS := Lib.hid (HG.out _ (List.getElem_mem hlt))
      have HDS := Lib.hid (HD.out _ (List.getElem_mem hlt))
      have HIS := Lib.hid his; have HJS := Lib.hid hjs
      clear his hjs hrow hdat
      generalize l[i] = s at *
      generalize l[j] = t at *
      subst hA
      obtain ⟨rfl, rfl⟩ : g = g' ∧ o = o' := by simpa using hA'
      clear hA'
      have i1 : ((i : Int) < (l.length : Int)) := by omega
      have i2 : ((j : Int) < (l.length : Int)) := by omega
      have lg : g < V.heap.size := by omega
      have lgr : g < wr.heap.size := by omega
      go_upto_region 15 with (at_builtin; refine wpList_append_own_at _ rfl _ _ 22 rfl V.heap.size 39 i0 (.agg #[.int .i64 0, .int .i64 0, .int .i64 0, .int .i64 0, .slice none 0 0]) 5 56 Tryz.underlying22 hi iz0 iz1 iz2 rfl (by decide) v11 bk.length (scsC bk) rfl (M.own11.alloc _) ⟨wr.heap.size, 0, none⟩ 1 1 (scC t) rfl rfl (cell_arr_new wr #[.int .i64 t.row, .int .i64 t.col, .int .i64 t.rows, .int .i64 t.cols, .slice t.dA t.data.length t.dcap] 39) (by simp [Value.oneCell']) (by unfold maxLen; omega) (by omega) (by simp; omega) ?_; intro u W5 hown' hgrow _ hat)
      have M5 := (M.gr ((Below.refl _ _).alloc (Nat.le_refl _) _)).back hown' hgrow hat
      clear M hown' hgrow hat x0 x1 x2 x3 x4 hx hzx lgr
      have hx := M5.below
      have hzx := Below.size hx
      have lgr : g < W5.heap.size := by omega
      have z0 := (hx.cell (p := ⟨g, o + i * 5, none⟩) lg).trans y0
      have z1 := (hx.cell (p := ⟨g, o + i * 5 + 1, none⟩) lg).trans y1
      have z2 := (hx.cell (p := ⟨g, o + i * 5 + 2, none⟩) lg).trans y2
      have z3 := (hx.cell (p := ⟨g, o + i * 5 + 3, none⟩) lg).trans y3
      have z4 := (hx.cell (p := ⟨g, o + i * 5 + 4, none⟩) lg).trans y4
      clear y0 y1 y2 y3 y4
      by_cases hc : i ≠ k ∨ s.rows = 1
      · have HN := Lib.hid (HI.out.one HIS.out HJS.out HJ.out hc)
        have HDM : Hid (DatOk V.heap.size W5 s) := Lib.hid (HDI.out.gr hx (Nat.le_refl _))
        rcases Decidable.em (i = k) with hik | hik
        · have h1 : s.rows = 1 := hc.elim (fun h => absurd hik h) id
          have hr1 : (s.rows == 1) = true := beq_iff_eq.2 h1
          subst hik
          have hii : ((i : Int) != (i : Int)) = false := by simp
          clear hc h1
          go_wp2_with (at_builtin; refine wpList_append_own_at _ rfl _ _ 22 rfl V.heap.size 39 i0 (.agg #[.int .i64 0, .int .i64 0, .int .i64 0, .int .i64 0, .slice none 0 0]) 5 56 Tryz.underlying22 hi iz0 iz1 iz2 rfl (by decide) v12 ct.length (scsC ct) rfl (M5.own12.alloc _) ⟨W5.heap.size, 0, none⟩ 1 1 (scC s) rfl rfl (cell_arr_new W5 #[.int .i64 s.row, .int .i64 s.col, .int .i64 s.rows, .int .i64 s.cols, .slice s.dA s.data.length s.dcap] 39) (by simp [Value.oneCell']) (by unfold maxLen; omega) (by omega) (by simp; omega) ?_; intro u2 W6 hown' hgrow _ hat)
          have M6 := (M5.gr ((Below.refl _ _).alloc (Nat.le_refl _) _)).cut (HDM.out.gr ((Below.refl _ _).alloc (Nat.le_refl _) _) hzx) hown' hgrow hat
          exact ⟨⟨i + 1, _, _, _, _, by omega, rfl, rfl, by go_num, HN, M6⟩, by simp [intOf]; omega⟩
        · have hii : ((i : Int) != (k : Int)) = true := by simp; omega
          clear hc
          go_wp2_with (at_builtin; refine wpList_append_own_at _ rfl _ _ 22 rfl V.heap.size 39 i0 (.agg #[.int .i64 0, .int .i64 0, .int .i64 0, .int .i64 0, .slice none 0 0]) 5 56 Tryz.underlying22 hi iz0 iz1 iz2 rfl (by decide) v12 ct.length (scsC ct) rfl (M5.own12.alloc _) ⟨W5.heap.size, 0, none⟩ 1 1 (scC s) rfl rfl (cell_arr_new W5 #[.int .i64 s.row, .int .i64 s.col, .int .i64 s.rows, .int .i64 s.cols, .slice s.dA s.data.length s.dcap] 39) (by simp [Value.oneCell']) (by unfold maxLen; omega) (by omega) (by simp; omega) ?_; intro u2 W6 hown' hgrow _ hat)
          have M6 := (M5.gr ((Below.refl _ _).alloc (Nat.le_refl _) _)).cut (HDM.out.gr ((Below.refl _ _).alloc (Nat.le_refl _) _) hzx) hown' hgrow hat
          exact ⟨⟨i + 1, _, _, _, _, by omega, rfl, rfl, by go_num, HN, M6⟩, by simp [intOf]; omega⟩
      · have hik : i = k := Classical.byContradiction fun h => hc (.inl h)
        have hr : s.rows ≠ 1 := fun h => hc (.inr h)
        subst hik
        clear hc
        have hii : ((i : Int) != (i : Int)) = false := by simp
        have hr1 : (s.rows == 1) = false := beq_eq_false_iff_ne.2 hr
        have hTW := fun x y (hx : Sc.core x = _) (hy : Sc.core y = _) hm => HI.out.two (x := x) (y := y) HIS.out HJS.out HJ.out hr hx hy hm
        have HTW := Lib.hid hTW
        have hg := HGS.out
        have g1 := hg.rows
        have g2 := hg.cols
        have g3 := hg.row
        have g4 := hg.short
        have g5 := HDS.out
        have hmod1 := Int.emod_nonneg a1 (show s.rows - 1 ≠ 0 by omega)
        have hmod2 := Int.emod_lt_of_pos a1 (show 0 < s.rows - 1 by omega)
        obtain ⟨b1, b2, b3, _⟩ := cut_bd hg (n := 1 + a1 % (s.rows - 1)) (by omega)
        have hdr : Row V V.heap.size 1 s.dA s.data.length (intsC s.data) := HDR.out
        obtain ⟨gd, od, hdA, hgd, _⟩ := hdr.2 (by omega)
        have hcore : ∀ A' c' A2 c2, (⟨s.row, s.col, 1 + a1 % (s.rows - 1), s.cols, s.data.take ((1 + a1 % (s.rows - 1)) * s.cols).toNat, A', c'⟩ : Sc).core = (topS s (1 + a1 % (s.rows - 1))).core ∧ (⟨s.row + (1 + a1 % (s.rows - 1)), s.col, s.rows - (1 + a1 % (s.rows - 1)), s.cols, s.data.drop ((1 + a1 % (s.rows - 1)) * s.cols).toNat, A2, c2⟩ : Sc).core = (botS s (1 + a1 % (s.rows - 1))).core := fun _ _ _ _ => ⟨rfl, rfl⟩
        obtain ⟨r, hrr⟩ : ∃ r, a1 % (s.rows - 1) = r := ⟨_, rfl⟩
        rw [hrr] at hmod1 hmod2 b1 b2 b3
        obtain ⟨m, hmul⟩ : ∃ m : Nat, (1 + r) * s.cols = (m : Int) := ⟨((1 + r) * s.cols).toNat, by omega⟩
        rw [hmul] at b1 b2 b3
        have HFIN : Hid (∀ A' c' A2 c2, s.row + (1 + r) ≤ 100000 → AvI l i a1 (i + 1) (bk ++ [t]) (ct ++ [⟨s.row, s.col, 1 + r, s.cols, s.data.take m, A', c'⟩] ++ [⟨s.row + (1 + r), s.col, s.rows - (1 + r), s.cols, s.data.drop m, A2, c2⟩])) := Lib.hid (fun A' c' A2 c2 hm => by
          have h1 := (hcore A' c' A2 c2).1
          have h2 := (hcore A' c' A2 c2).2
          rw [hrr, hmul, Int.toNat_natCast] at h1 h2
          refine HTW.out _ _ ?_ ?_ ?_
          · rw [hrr]; exact h1
          · rw [hrr]; exact h2
          · rw [hrr]; exact hm)
        have HRR := Lib.hid hrr
        clear hcore hTW HTW hrr hg
        have b5' := b5.gr hx
        have l5 := b5'.lt
        obtain ⟨e0, e1, f5⟩ := blk2c b5'
        go_upto_region 18 with fail
        have b15 := Blk.new W5 39 #[.int .i64 s.row, .int .i64 s.col, .int .i64 s.rows, .int .i64 s.cols, .slice (some ⟨gd, od, none⟩) s.data.length s.dcap]
        have M6 := M5.gr ((Below.refl W5.heap.size W5).alloc (Nat.le_refl _) (.cells #[.int .i64 s.row, .int .i64 s.col, .int .i64 s.rows, .int .i64 s.cols, .slice (some ⟨gd, od, none⟩) s.data.length s.dcap] 39))
        have hq0 : v12.ownBlock ≠ some W5.heap.size := fun e => by have := (M5.own12.lt _ e).2; omega
        clear M5 lgr z0 z1 z2 z3 z4 b5' l5 e0 e1 f5 hx hzx
        obtain ⟨W6, hW6⟩ : ∃ W, W5.alloc (.cells #[.int .i64 s.row, .int .i64 s.col, .int .i64 s.rows, .int .i64 s.cols, .slice (some ⟨gd, od, none⟩) s.data.length s.dcap] 39) = W := ⟨_, rfl⟩
        rw [hW6] at b15 M6 ⊢
        clear hW6
        obtain ⟨q, hqq⟩ : ∃ q, W5.heap.size = q := ⟨_, rfl⟩
        rw [hqq] at b15 hq0 ⊢
        clear hqq
        have hx := M6.below
        have hzx := Below.size hx
        have hR6 : Row W6 V.heap.size 1 (some ⟨gd, od, none⟩) s.data.length (intsC s.data) := by rw [← hdA]; exact hdr.below hx (Nat.le_refl _)
        have HDA := Lib.hid hdA
        have b5' := b5.gr hx
        have l5 := b5'.lt
        obtain ⟨e0, e1, f5⟩ := blk2c b5'
        have k0 := b15.cell 0
        have k2 := b15.cell 2
        simp only [List.getElem?_toArray, List.getElem?_cons_zero, List.getElem?_cons_succ] at k0 k2
        have l15 := b15.lt
        have hmd : (1 : Int) ≤ s.rows - 1 ∧ s.rows - 1 ≤ 4000000000000000000 := by omega
        clear hdA hdr
        go_upto_region 19 with (go_at_call 24; refine (mod_any a1 (s.rows - 1) hmd _).mono ?_; rw [HRR.out]; rintro e w1 ⟨rfl, rfl⟩)
        clear k0 k2 l15 e0 e1 f5 l5 b5'
        refine aoReg19 M6 (by omega) hq0 s.row s.col s.rows s.cols b15 hR6 hgd (1 + r) m hmul (by omega) (by omega) g4 g5.1 g5.2.1 g3 g1 (by omega) _ ?_
        intro t106 t107 t108 t109 t110 t111 t112 t113 t114 t115 t116 t117 t118 t119 t120 t121 t122 t123 t124 A' c' u12 w19 M19 hq19 b19
        try dsimp only
        clear M6 hx hzx b15 hq0
        have k0 := b19.cell 0
        simp only [List.getElem?_toArray, List.getElem?_cons_zero, List.getElem?_cons_succ] at k0
        have l19 := b19.lt
        have hx := M19.below
        have hzx := Below.size hx
        by_cases hbig : 100000 < s.row + (1 + r)
        · go_wp2
          exact H2.out _ _ _ _ _ _ _ _ _ _ _ _ _ _ _ _ _ _ _ _ _ _ _ _ _ _ _ _ _ _ _ _ _ _ _ _ _ _ _ _ _ _ _ _ _ _ _ _ _ _ _ _ _ _ _ _ _ _ _ _ _ _ _ _ _ _ _ _ _ _ _ _ _ _ _ _ _ _ _ _ _ _ _ _ _ _ _ _ _ _ _ _ _ _ _ _ _ _ _ _ hx
        · have hR7 : Row w19 V.heap.size 1 (some ⟨gd, od, none⟩) s.data.length (intsC s.data) := by rw [← HDA.out]; exact HDR.out.below hx (Nat.le_refl _)
          go_upto_region 22 with fail
          clear k0 l19
          refine aoReg22 M19 (by simp; omega) hq19 s.row s.col s.rows s.cols b19 hR7 hgd (1 + r) m hmul (by omega) (by omega) g4 g5.1 g5.2.1 g3 g1 (by omega) _ ?_
          intro t130 t131 t132 t133 t134 t135 t136 t137 t138 t139 t140 t141 t142 t143 t144 t145 t146 t147 t148 t149 t150 t151 t152 t153 A2 c2 u13 w22 M22 _ _
          try dsimp only
          have HN := Lib.hid (HFIN.out A' c' A2 c2 (by omega))
          clear HFIN
          go_wp2
          exact ⟨⟨i + 1, _, _, _, _, by omega, rfl, rfl, by go_num, HN, M22⟩, by simp [intOf]; omega⟩
    · obtain rfl : i = l.length := by omega
      go_wp2
      exact H.out _ _ _ _ _ _ _ _ _ _ _ _ _ _ _ _ _ _ _ _ _ _ _ _ _ _ _ _ _ _ _ _ _ _ _ _ _ _ _ _ _ _ _ _ _ _ _ _ _ _ _ _ _ _ _ _ _ _ _ _ _ _ _ _ _ _ _ _ _ _ _ _ _ _ _ _ _ _ _ _ _ _ _ _ _ _ _ _ _ _ _ _ _ _ _ _ _ _ bk ct v11 v12 wr HI.out M
end Go.Proofs.YtidgeagpgllkeaaGreat
