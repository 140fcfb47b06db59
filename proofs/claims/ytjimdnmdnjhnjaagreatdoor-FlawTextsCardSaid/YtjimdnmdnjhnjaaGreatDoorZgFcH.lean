/- Grouped: a mark's own group takes in another one (a region that draws its order). -/
import Derived.Test.YtjimdnmdnjhnjaaGreatDoorZgFcG
import Derived.Test.YtjimdnmdnjhnjaaGreatDoorZgRgW
namespace Go.Proofs.YtjimdnmdnjhnjaaGreatDoor
open Go.RowKit

theorem bcellB {B : Nat} {W w1 : World} (hb : Below B W w1) : (∀ b o, b < B → w1.cell? ⟨b, o, none⟩ = W.cell? ⟨b, o, none⟩) ∧ (∀ b o, b < B → w1.frozen? ⟨b, o, none⟩ = W.frozen? ⟨b, o, none⟩) :=
  ⟨fun b o h => hb.cell (p := ⟨b, o, none⟩) h, fun b o h => hb.frozen (p := ⟨b, o, none⟩) h⟩
theorem infoInt : (Tryz.prog.info? 3).map (fun i => (i.zero, i.size, i.bytes)) = some (some (.int .i64 0), 1, 8) := by kernel_rfl
theorem own_lt_below {w w' : World} {base e size n N : Nat} {v : Value} {xs : List Value} (h : w.ownsRow base e size v n xs) (hv : ∀ k, v.ownBlock = some k → k < N) (hb : Below N w w') : w'.ownsRow base e size v n xs := by
  refine ⟨h.1, ?_⟩
  rcases h.2 with h0 | ⟨g, cap, cur, rfl, h1, h2, h3⟩
  · exact .inl h0
  · exact .inr ⟨g, cap, cur, rfl, h1, (hb.block g (hv g rfl)).trans h2, h3⟩
set_option maxHeartbeats 4000000 in
theorem Blk.set7 {g : Nat} {b : World} {t : TypeId} {v0 v1 v2 v3 v4 v5 v6 : Value} (h : Blk b g t #[v0, v1, v2, v3, v4, v5, v6]) (u0 u1 u2 u3 u4 u5 u6 : Value) :
    Blk (((((((b.setCell ⟨g, 0, none⟩ u0).setCell ⟨g, 1, none⟩ u1).setCell ⟨g, 2, none⟩ u2).setCell ⟨g, 3, none⟩ u3).setCell ⟨g, 4, none⟩ u4).setCell ⟨g, 5, none⟩ u5).setCell ⟨g, 6, none⟩ u6) g t #[u0, u1, u2, u3, u4, u5, u6] :=
  ((((((h.set_ 0 u0).set_ 1 u1).set_ 2 u2).set_ 3 u3).set_ 4 u4).set_ 5 u5).set_ 6 u6
theorem Below.set7 {n g : Nat} {a b : World} {u0 u1 u2 u3 u4 u5 u6 : Value} (h : Below n a b) (hg : n ≤ g) :
    Below n a (((((((b.setCell ⟨g, 0, none⟩ u0).setCell ⟨g, 1, none⟩ u1).setCell ⟨g, 2, none⟩ u2).setCell ⟨g, 3, none⟩ u3).setCell ⟨g, 4, none⟩ u4).setCell ⟨g, 5, none⟩ u5).setCell ⟨g, 6, none⟩ u6) :=
  ((((((h.setCell hg _).setCell hg _).setCell hg _).setCell hg _).setCell hg _).setCell hg _).setCell hg _
theorem own_set7 {b : World} {base e size n g : Nat} {v : Value} {xs : List Value} (h : b.ownsRow base e size v n xs) (hg : v.ownBlock ≠ some g) (u0 u1 u2 u3 u4 u5 u6 : Value) :
    (((((((b.setCell ⟨g, 0, none⟩ u0).setCell ⟨g, 1, none⟩ u1).setCell ⟨g, 2, none⟩ u2).setCell ⟨g, 3, none⟩ u3).setCell ⟨g, 4, none⟩ u4).setCell ⟨g, 5, none⟩ u5).setCell ⟨g, 6, none⟩ u6).ownsRow base e size v n xs := by
  have k : ∀ {b : World} (_ : b.ownsRow base e size v n xs) (i : Nat) (u : Value), (b.setCell ⟨g, i, none⟩ u).ownsRow base e size v n xs := fun {b} h i u => h.kept (only_setCell (p := ⟨g, i, none⟩) (World.grownBy.refl b (some g)) (.inl rfl) u) (.inr hg)
  exact k (k (k (k (k (k (k h _ _) _ _) _ _) _ _) _ _) _ _) _ _

theorem own_two {w : World} {b1 b2 e1 e2 s1 s2 n1 n2 : Nat} {v1 v2 : Value} {xs1 xs2 : List Value} (h1 : w.ownsRow b1 e1 s1 v1 n1 xs1) (h2 : w.ownsRow b2 e2 s2 v2 n2 xs2) (hne : e1 ≠ e2) : v1.ownBlock = none ∨ v1.ownBlock ≠ v2.ownBlock := by
  rcases h1.2 with ⟨rfl, _⟩ | ⟨g, cap, cur, rfl, _, hh, _⟩
  · exact .inl rfl
  · right
    rcases h2.2 with ⟨rfl, _⟩ | ⟨g', cap', cur', rfl, _, hh', _⟩
    · simp [Value.ownBlock]
    · intro e
      have e' : g = g' := by simpa [Value.ownBlock] using e
      subst e'
      rw [hh] at hh'
      injection hh' with hh'
      injection hh' with _ ht
      exact hne ht
/-- The numbers of a group, where they lie. -/
def NsOk (B : Nat) (W : World) (N : Nat) (g : Gp) : Prop := W.ownsRow B 3 1 g.v g.ns.length (intsC g.ns) ∧ ∀ k, g.v.ownBlock = some k → k < N
theorem NsOk.below {B : Nat} {W W' : World} {N : Nat} {g : Gp} (h : NsOk B W N g) (hb : Below N W W') : NsOk B W' N g := ⟨own_lt_below h.1 h.2 hb, h.2⟩
/-- What lies in memory beside the mark's own box. -/
structure GrR (w : World) (N b3 : Nat) (r : Ru) (Gs : List Gp) (vg vo : Value) (os : List Int) (W : World) : Prop where
  rule : Blk W b3 55 (ruC r)
  orow : W.ownsRow N 3 1 vo os.length (intsC os)
  grow : W.ownsRow w.heap.size 106 7 vg Gs.length (gpsC Gs)
  rows : ∀ g ∈ Gs, NsOk w.heap.size W N g
  below : Below w.heap.size w W
  base : w.heap.size ≤ N
  nlt : N ≤ W.heap.size
  vlt : ∀ k, vg.ownBlock = some k → k < N
  b3lt : b3 < N
section
variable {w W W' : World} {N b3 : Nat} {r : Ru} {Gs : List Gp} {vg vo : Value} {os : List Int}
theorem GrR.turn (h : GrR w N b3 r Gs vg vo os W) (hb : Below N W W') {vo' : Value} {os' : List Int} (ho : W'.ownsRow N 3 1 vo' os'.length (intsC os')) : GrR w N b3 r Gs vg vo' os' W' :=
  ⟨h.rule.below hb h.b3lt, ho, own_lt_below h.grow h.vlt hb, fun g hg => (h.rows g hg).below hb, h.below.trans (hb.mono h.base), h.base, Nat.le_trans h.nlt hb.size, h.vlt, h.b3lt⟩
theorem GrR.gr (h : GrR w N b3 r Gs vg vo os W) (hb : Gr W W') : GrR w N b3 r Gs vg vo os W' := h.turn (Below.mono hb h.nlt) (own_below h.orow hb)
theorem GrR.ownLt (h : GrR w N b3 r Gs vg vo os W) : ∀ k, vo.ownBlock = some k → N ≤ k := fun k hk => (h.orow.lt k hk).1
theorem GrR.append (h : GrR w N b3 r Gs vg vo os W) {vo' : Value} {ns : List Int} (ho : W'.ownsRow N 3 1 vo' (os.length + ns.length) (intsC os ++ intsC ns)) (hg : W.grownBy W' vo.ownBlock) : GrR w N b3 r Gs vg vo' (os ++ ns) W' :=
  h.turn ((Below.refl N W).grown hg h.nlt h.ownLt) (by rw [List.length_append]; unfold intsC at *; rw [List.map_append]; exact ho)
theorem GrR.cellsOf (h : GrR w N b3 r Gs vg vo os W) {g : Gp} (hg : g ∈ Gs) {gk ck : Nat} (hv : g.v = .slice (some ⟨gk, 0, none⟩) g.ns.length ck) : ∀ j u, (intsC g.ns)[j]? = some u → W.cell? ((⟨gk, 0, none⟩ : Addr).add j) = some u :=
  (h.rows g hg).1.cells (by rw [hv]; rfl)
end

set_option maxRecDepth 100000 in
set_option maxHeartbeats 4000000 in
/-- The own group takes in the group k (region 11). -/
theorem takeReg (w : World) (N b3 b10 : Nat) (r : Ru) (Gs : List Gp) (vg vo : Value) (os : List Int) (om : Mk) (wr : World) (M : GrR w N b3 r Gs vg vo os wr) (bo : Blk wr b10 106 (gpA vo om)) (hb10 : N ≤ b10)
    (k : Nat) (hk : k < Gs.length) (hGl : Gs.length ≤ 100) (hcnt : os.length + Gs[k].ns.length ≤ 100) (hns : 0 < Gs[k].ns.length) {t0 t1 t2 t4 t5 t6 t8 t9 t12 t13 t14 t15 t16 t17 t18 t19 t20 t21 t22 t23 t24 t25 t26 t27 t28 t29 t30 t31 t32 t33 t34 t35 t36 t37 t38 t39 t40 t41 t42 t43 t44 t45 t46 t47 t48 t49 t50 t51 t52 t53 t54 t55 t56 t57 t58 t59 t60 t61 t62 t63 t64 t65 t66 t67 t68 t69 t70 t71 t72 t73 t74 t75 t76 t77 t78 t79 t80 t81 t82 t83 : Value}
    {ds : List Deferred} (K' : Act → World → Prop) (Q' : Exit → Act → World → Prop)
    (h : ∀ (t40 t41 t42 t43 t44 t45 t46 t47 t48 t49 t50 t51 t52 t53 t54 t55 t56 vo' : Value) (w' : World), GrR w N b3 r Gs vg vo' (os ++ Gs[k].ns) w' → Blk w' b10 106 (gpA vo' (hullV om Gs[k].m)) →
      K' ⟨#[t0, t1, t2, .pointer (some ⟨b3, 0, none⟩), t4, t5, t6, vg, t8, t9, .pointer (some ⟨b10, 0, none⟩), .int .i64 k, t12, t13, t14, t15, t16, t17, t18, t19, t20, t21, t22, t23, t24, t25, t26, t27, t28, t29, t30, t31, t32, t33, t34, t35, t36, t37, t38, t39, t40, t41, t42, t43, t44, t45, t46, t47, t48, t49, t50, t51, t52, t53, t54, t55, t56, t57, t58, t59, t60, t61, t62, t63, t64, t65, t66, t67, t68, t69, t70, t71, t72, t73, t74, t75, t76, t77, t78, t79, t80, t81, t82, t83], ds⟩ w') :
    (regOf Tryz.f13 11).wp Tryz.prog (Exit.then K' Q') ⟨#[t0, t1, t2, .pointer (some ⟨b3, 0, none⟩), t4, t5, t6, vg, t8, t9, .pointer (some ⟨b10, 0, none⟩), .int .i64 k, t12, t13, t14, t15, t16, t17, t18, t19, t20, t21, t22, t23, t24, t25, t26, t27, t28, t29, t30, t31, t32, t33, t34, t35, t36, t37, t38, t39, t40, t41, t42, t43, t44, t45, t46, t47, t48, t49, t50, t51, t52, t53, t54, t55, t56, t57, t58, t59, t60, t61, t62, t63, t64, t65, t66, t67, t68, t69, t70, t71, t72, t73, t74, t75, t76, t77, t78, t79, t80, t81, t82, t83], ds⟩ wr := by
  have H := Lib.hid h; clear h
  have hkm := List.getElem_mem hk
  obtain ⟨gk, ck, hvk, _, _⟩ := (M.rows _ hkm).1.form hns
  have HC : Hid (∀ {W : World} {vo : Value} {os : List Int}, GrR w N b3 r Gs vg vo os W → ∀ j u, (intsC Gs[k].ns)[j]? = some u → W.cell? ((⟨gk, 0, none⟩ : Addr).add j) = some u) := Lib.hid (fun h => h.cellsOf hkm hvk)
  obtain ⟨gg, capg, hvg, _, hgl⟩ := M.grow.form (by omega)
  have hgN : gg < N := M.vlt gg (by rw [hvg]; rfl)
  have hR : Row wr N 7 (some ⟨gg, 0, none⟩) Gs.length (gpsC Gs) := by
    refine ⟨gpsC_length _, fun _ => ⟨gg, 0, rfl, hgN, fun j u hj => ?_⟩⟩
    have := M.grow.cells (g := gg) (by rw [hvg]; rfl) j u hj
    rw [Nat.zero_add]
    rwa [Addr.add_lit, Nat.zero_add] at this
  obtain ⟨g', o', hA', _, c0, c1, c2, c3, c4, c5, c6⟩ := gpCells hR hk
  injection hA' with hA'
  injection hA' with e1 e2
  subst e1; subst e2
  clear hR
  simp only [Nat.zero_add] at c0 c1 c2 c3 c4 c5 c6
  rw [hvk] at c0
  obtain ⟨nsk, hnsk⟩ : ∃ ns, Gs[k].ns = ns := ⟨_, rfl⟩
  obtain ⟨mk, hmk⟩ : ∃ m, Gs[k].m = m := ⟨_, rfl⟩
  rw [hnsk] at HC c0 H hcnt hns
  rw [hmk] at c1 c2 c3 c4 c5 c6 H
  have HN1 : Hid (∀ u ∈ intsC nsk, u.oneCell' = true) := Lib.hid (by intro u hu; obtain ⟨x, _, rfl⟩ := List.mem_map.1 hu; rfl)
  have HNL : Hid ((intsC nsk).length = nsk.length * 1) := Lib.hid (by simp [intsC])
  subst hvg
  clear hnsk hmk hvk
  obtain ⟨i0, hi, hz0, hz1, hz2⟩ := info_parts infoInt
  have hkI : (k : Int) < (Gs.length : Int) := by omega
  have hk0 : (0 : Int) ≤ (k : Int) := by omega
  have hnl := M.nlt
  conv in (regOf _ _) => whnf
  try dsimp only
  refine wp_region_w (fun w' => Below N _ w') (by kernel_rfl) (Below.refl _ _).drew ?_
  refine wpW_det (t' := ?ct0R2) 0 (by rfl) (by kernel_rfl) (NQ_free _) (by kernel_rfl) ?cw0R2 ?ch0R2 ?ca0R2 (Eq.refl _) ?cH0R2
  case cw0R2 => (go_simp; done)
  case ch0R2 =>
    intro ds w' hS K hK
    have hc := (bcellB hS).1
    have hf := (bcellB hS).2
    have hz := hS.size
    try simp at hz
    go_simp
    try go_bits
    first
      | exact hK _ hS (Gr.refl _)
      | exact hK _ (by repeat (first | (with_reducible exact Below.refl _ _) | (with_reducible assumption) | ((with_reducible refine Below.setCell ?_ ?_ _); rotate_left; · (first | exact Nat.le_refl _ | (simp; done) | (simp; omega) | omega)) | ((with_reducible refine Below.alloc ?_ ?_ _); rotate_left; · (first | exact Nat.le_refl _ | (simp; done) | (simp; omega) | omega)) | (with_reducible apply Below.drew) | (with_reducible apply below_drewN') | (refine Below.trans ?_ (Below.mono (by assumption) (by first | exact Nat.le_refl _ | (simp; done) | (simp; omega) | omega))) | exact Below.refl _ _ | assumption)) (by repeat (first | (with_reducible exact Below.refl _ _) | (with_reducible assumption) | ((with_reducible refine Below.setCell ?_ ?_ _); rotate_left; · (first | exact Nat.le_refl _ | (simp; done) | (simp; omega) | omega)) | ((with_reducible refine Below.alloc ?_ ?_ _); rotate_left; · (first | exact Nat.le_refl _ | (simp; done) | (simp; omega) | omega)) | (with_reducible apply Below.drew) | (with_reducible apply below_drewN') | (refine Below.trans ?_ (Below.mono (by assumption) (by first | exact Nat.le_refl _ | (simp; done) | (simp; omega) | omega))) | exact Below.refl _ _ | assumption))
  case ca0R2 => (first | (simp [Act.put]; done) | (simp [Act.put, *]; done))
  try dsimp only
  refine wpW_det (t' := ?ct2R2) 2 (by rfl) (by kernel_rfl) (NQ_free _) (by kernel_rfl) ?cw2R2 ?ch2R2 ?ca2R2 (Eq.refl _) ?cH2R2
  case cw2R2 => (go_simp; done)
  case ch2R2 =>
    intro ds w' hS K hK
    have hc := (bcellB hS).1
    have hf := (bcellB hS).2
    have hz := hS.size
    try simp at hz
    go_simp
    try go_bits
    first
      | exact hK _ hS (Gr.refl _)
      | exact hK _ (by repeat (first | (with_reducible exact Below.refl _ _) | (with_reducible assumption) | ((with_reducible refine Below.setCell ?_ ?_ _); rotate_left; · (first | exact Nat.le_refl _ | (simp; done) | (simp; omega) | omega)) | ((with_reducible refine Below.alloc ?_ ?_ _); rotate_left; · (first | exact Nat.le_refl _ | (simp; done) | (simp; omega) | omega)) | (with_reducible apply Below.drew) | (with_reducible apply below_drewN') | (refine Below.trans ?_ (Below.mono (by assumption) (by first | exact Nat.le_refl _ | (simp; done) | (simp; omega) | omega))) | exact Below.refl _ _ | assumption)) (by repeat (first | (with_reducible exact Below.refl _ _) | (with_reducible assumption) | ((with_reducible refine Below.setCell ?_ ?_ _); rotate_left; · (first | exact Nat.le_refl _ | (simp; done) | (simp; omega) | omega)) | ((with_reducible refine Below.alloc ?_ ?_ _); rotate_left; · (first | exact Nat.le_refl _ | (simp; done) | (simp; omega) | omega)) | (with_reducible apply Below.drew) | (with_reducible apply below_drewN') | (refine Below.trans ?_ (Below.mono (by assumption) (by first | exact Nat.le_refl _ | (simp; done) | (simp; omega) | omega))) | exact Below.refl _ _ | assumption))
  case ca2R2 => (first | (simp [Act.put]; done) | (simp [Act.put, *]; done))
  try dsimp only
  refine wpW_det (t' := ?ct3R2) 3 (by rfl) (by kernel_rfl) (NQ_free _) (by kernel_rfl) ?cw3R2 ?ch3R2 ?ca3R2 (Eq.refl _) ?cH3R2
  case cw3R2 => (go_simp; done)
  case ch3R2 =>
    intro ds w' hS K hK
    have hc := (bcellB hS).1
    have hf := (bcellB hS).2
    have hz := hS.size
    try simp at hz
    go_simp
    try go_bits
    first
      | exact hK _ hS (Gr.refl _)
      | exact hK _ (by repeat (first | (with_reducible exact Below.refl _ _) | (with_reducible assumption) | ((with_reducible refine Below.setCell ?_ ?_ _); rotate_left; · (first | exact Nat.le_refl _ | (simp; done) | (simp; omega) | omega)) | ((with_reducible refine Below.alloc ?_ ?_ _); rotate_left; · (first | exact Nat.le_refl _ | (simp; done) | (simp; omega) | omega)) | (with_reducible apply Below.drew) | (with_reducible apply below_drewN') | (refine Below.trans ?_ (Below.mono (by assumption) (by first | exact Nat.le_refl _ | (simp; done) | (simp; omega) | omega))) | exact Below.refl _ _ | assumption)) (by repeat (first | (with_reducible exact Below.refl _ _) | (with_reducible assumption) | ((with_reducible refine Below.setCell ?_ ?_ _); rotate_left; · (first | exact Nat.le_refl _ | (simp; done) | (simp; omega) | omega)) | ((with_reducible refine Below.alloc ?_ ?_ _); rotate_left; · (first | exact Nat.le_refl _ | (simp; done) | (simp; omega) | omega)) | (with_reducible apply Below.drew) | (with_reducible apply below_drewN') | (refine Below.trans ?_ (Below.mono (by assumption) (by first | exact Nat.le_refl _ | (simp; done) | (simp; omega) | omega))) | exact Below.refl _ _ | assumption))
  case ca3R2 => (first | (simp [Act.put]; done) | (simp [Act.put, *]; done))
  try dsimp only
  refine wpW_det (t' := ?ct4R2) 4 (by rfl) (by kernel_rfl) (NQ_free _) (by kernel_rfl) ?cw4R2 ?ch4R2 ?ca4R2 (Eq.refl _) ?cH4R2
  case cw4R2 => (go_simp; done)
  case ch4R2 =>
    intro ds w' hS K hK
    have hc := (bcellB hS).1
    have hf := (bcellB hS).2
    have hz := hS.size
    try simp at hz
    go_simp
    try go_bits
    first
      | exact hK _ hS (Gr.refl _)
      | exact hK _ (by repeat (first | (with_reducible exact Below.refl _ _) | (with_reducible assumption) | ((with_reducible refine Below.setCell ?_ ?_ _); rotate_left; · (first | exact Nat.le_refl _ | (simp; done) | (simp; omega) | omega)) | ((with_reducible refine Below.alloc ?_ ?_ _); rotate_left; · (first | exact Nat.le_refl _ | (simp; done) | (simp; omega) | omega)) | (with_reducible apply Below.drew) | (with_reducible apply below_drewN') | (refine Below.trans ?_ (Below.mono (by assumption) (by first | exact Nat.le_refl _ | (simp; done) | (simp; omega) | omega))) | exact Below.refl _ _ | assumption)) (by repeat (first | (with_reducible exact Below.refl _ _) | (with_reducible assumption) | ((with_reducible refine Below.setCell ?_ ?_ _); rotate_left; · (first | exact Nat.le_refl _ | (simp; done) | (simp; omega) | omega)) | ((with_reducible refine Below.alloc ?_ ?_ _); rotate_left; · (first | exact Nat.le_refl _ | (simp; done) | (simp; omega) | omega)) | (with_reducible apply Below.drew) | (with_reducible apply below_drewN') | (refine Below.trans ?_ (Below.mono (by assumption) (by first | exact Nat.le_refl _ | (simp; done) | (simp; omega) | omega))) | exact Below.refl _ _ | assumption))
  case ca4R2 => (first | (simp [Act.put]; done) | (simp [Act.put, *]; done))
  try dsimp only
  refine wpW_det (t' := ?ct5R2) 5 (by rfl) (by kernel_rfl) (NQ_free _) (by kernel_rfl) ?cw5R2 ?ch5R2 ?ca5R2 (Eq.refl _) ?cH5R2
  case cw5R2 => (go_simp; done)
  case ch5R2 =>
    intro ds w' hS K hK
    have hc := (bcellB hS).1
    have hf := (bcellB hS).2
    have hz := hS.size
    try simp at hz
    go_simp
    try go_bits
    first
      | exact hK _ hS (Gr.refl _)
      | exact hK _ (by repeat (first | (with_reducible exact Below.refl _ _) | (with_reducible assumption) | ((with_reducible refine Below.setCell ?_ ?_ _); rotate_left; · (first | exact Nat.le_refl _ | (simp; done) | (simp; omega) | omega)) | ((with_reducible refine Below.alloc ?_ ?_ _); rotate_left; · (first | exact Nat.le_refl _ | (simp; done) | (simp; omega) | omega)) | (with_reducible apply Below.drew) | (with_reducible apply below_drewN') | (refine Below.trans ?_ (Below.mono (by assumption) (by first | exact Nat.le_refl _ | (simp; done) | (simp; omega) | omega))) | exact Below.refl _ _ | assumption)) (by repeat (first | (with_reducible exact Below.refl _ _) | (with_reducible assumption) | ((with_reducible refine Below.setCell ?_ ?_ _); rotate_left; · (first | exact Nat.le_refl _ | (simp; done) | (simp; omega) | omega)) | ((with_reducible refine Below.alloc ?_ ?_ _); rotate_left; · (first | exact Nat.le_refl _ | (simp; done) | (simp; omega) | omega)) | (with_reducible apply Below.drew) | (with_reducible apply below_drewN') | (refine Below.trans ?_ (Below.mono (by assumption) (by first | exact Nat.le_refl _ | (simp; done) | (simp; omega) | omega))) | exact Below.refl _ _ | assumption))
  case ca5R2 => (first | (simp [Act.put]; done) | (simp [Act.put, *]; done))
  try dsimp only
  refine wpW_det (t' := ?ct6R2) 6 (by rfl) (by kernel_rfl) (NQ_free _) (by kernel_rfl) ?cw6R2 ?ch6R2 ?ca6R2 (Eq.refl _) ?cH6R2
  case cw6R2 => (go_simp; done)
  case ch6R2 =>
    intro ds w' hS K hK
    have hc := (bcellB hS).1
    have hf := (bcellB hS).2
    have hz := hS.size
    try simp at hz
    go_simp
    try go_bits
    first
      | exact hK _ hS (Gr.refl _)
      | exact hK _ (by repeat (first | (with_reducible exact Below.refl _ _) | (with_reducible assumption) | ((with_reducible refine Below.setCell ?_ ?_ _); rotate_left; · (first | exact Nat.le_refl _ | (simp; done) | (simp; omega) | omega)) | ((with_reducible refine Below.alloc ?_ ?_ _); rotate_left; · (first | exact Nat.le_refl _ | (simp; done) | (simp; omega) | omega)) | (with_reducible apply Below.drew) | (with_reducible apply below_drewN') | (refine Below.trans ?_ (Below.mono (by assumption) (by first | exact Nat.le_refl _ | (simp; done) | (simp; omega) | omega))) | exact Below.refl _ _ | assumption)) (by repeat (first | (with_reducible exact Below.refl _ _) | (with_reducible assumption) | ((with_reducible refine Below.setCell ?_ ?_ _); rotate_left; · (first | exact Nat.le_refl _ | (simp; done) | (simp; omega) | omega)) | ((with_reducible refine Below.alloc ?_ ?_ _); rotate_left; · (first | exact Nat.le_refl _ | (simp; done) | (simp; omega) | omega)) | (with_reducible apply Below.drew) | (with_reducible apply below_drewN') | (refine Below.trans ?_ (Below.mono (by assumption) (by first | exact Nat.le_refl _ | (simp; done) | (simp; omega) | omega))) | exact Below.refl _ _ | assumption))
  case ca6R2 => (first | (simp [Act.put]; done) | (simp [Act.put, *]; done))
  try dsimp only
  refine wpW_det (t' := ?ct8R2) 8 (by rfl) (by kernel_rfl) (NQ_free _) (by kernel_rfl) ?cw8R2 ?ch8R2 ?ca8R2 (Eq.refl _) ?cH8R2
  case cw8R2 => (go_simp; done)
  case ch8R2 =>
    intro ds w' hS K hK
    have hc := (bcellB hS).1
    have hf := (bcellB hS).2
    have hz := hS.size
    try simp at hz
    go_simp
    try go_bits
    first
      | exact hK _ hS (Gr.refl _)
      | exact hK _ (by repeat (first | (with_reducible exact Below.refl _ _) | (with_reducible assumption) | ((with_reducible refine Below.setCell ?_ ?_ _); rotate_left; · (first | exact Nat.le_refl _ | (simp; done) | (simp; omega) | omega)) | ((with_reducible refine Below.alloc ?_ ?_ _); rotate_left; · (first | exact Nat.le_refl _ | (simp; done) | (simp; omega) | omega)) | (with_reducible apply Below.drew) | (with_reducible apply below_drewN') | (refine Below.trans ?_ (Below.mono (by assumption) (by first | exact Nat.le_refl _ | (simp; done) | (simp; omega) | omega))) | exact Below.refl _ _ | assumption)) (by repeat (first | (with_reducible exact Below.refl _ _) | (with_reducible assumption) | ((with_reducible refine Below.setCell ?_ ?_ _); rotate_left; · (first | exact Nat.le_refl _ | (simp; done) | (simp; omega) | omega)) | ((with_reducible refine Below.alloc ?_ ?_ _); rotate_left; · (first | exact Nat.le_refl _ | (simp; done) | (simp; omega) | omega)) | (with_reducible apply Below.drew) | (with_reducible apply below_drewN') | (refine Below.trans ?_ (Below.mono (by assumption) (by first | exact Nat.le_refl _ | (simp; done) | (simp; omega) | omega))) | exact Below.refl _ _ | assumption))
  case ca8R2 => (first | (simp [Act.put]; done) | (simp [Act.put, *]; done))
  try dsimp only
  refine wpW_det (t' := ?ct10R2) 10 (by rfl) (by kernel_rfl) (NQ_free _) (by kernel_rfl) ?cw10R2 ?ch10R2 ?ca10R2 (Eq.refl _) ?cH10R2
  case cw10R2 => (go_simp; done)
  case ch10R2 =>
    intro ds w' hS K hK
    have hc := (bcellB hS).1
    have hf := (bcellB hS).2
    have hz := hS.size
    try simp at hz
    go_simp
    try go_bits
    first
      | exact hK _ hS (Gr.refl _)
      | exact hK _ (by repeat (first | (with_reducible exact Below.refl _ _) | (with_reducible assumption) | ((with_reducible refine Below.setCell ?_ ?_ _); rotate_left; · (first | exact Nat.le_refl _ | (simp; done) | (simp; omega) | omega)) | ((with_reducible refine Below.alloc ?_ ?_ _); rotate_left; · (first | exact Nat.le_refl _ | (simp; done) | (simp; omega) | omega)) | (with_reducible apply Below.drew) | (with_reducible apply below_drewN') | (refine Below.trans ?_ (Below.mono (by assumption) (by first | exact Nat.le_refl _ | (simp; done) | (simp; omega) | omega))) | exact Below.refl _ _ | assumption)) (by repeat (first | (with_reducible exact Below.refl _ _) | (with_reducible assumption) | ((with_reducible refine Below.setCell ?_ ?_ _); rotate_left; · (first | exact Nat.le_refl _ | (simp; done) | (simp; omega) | omega)) | ((with_reducible refine Below.alloc ?_ ?_ _); rotate_left; · (first | exact Nat.le_refl _ | (simp; done) | (simp; omega) | omega)) | (with_reducible apply Below.drew) | (with_reducible apply below_drewN') | (refine Below.trans ?_ (Below.mono (by assumption) (by first | exact Nat.le_refl _ | (simp; done) | (simp; omega) | omega))) | exact Below.refl _ _ | assumption))
  case ca10R2 => (first | (simp [Act.put]; done) | (simp [Act.put, *]; done))
  try dsimp only
  refine wpW_det (t' := ?ct11R2) 11 (by rfl) (by kernel_rfl) (NQ_free _) (by kernel_rfl) ?cw11R2 ?ch11R2 ?ca11R2 (Eq.refl _) ?cH11R2
  case cw11R2 => (go_simp; done)
  case ch11R2 =>
    intro ds w' hS K hK
    have hc := (bcellB hS).1
    have hf := (bcellB hS).2
    have hz := hS.size
    try simp at hz
    go_simp
    try go_bits
    first
      | exact hK _ hS (Gr.refl _)
      | exact hK _ (by repeat (first | (with_reducible exact Below.refl _ _) | (with_reducible assumption) | ((with_reducible refine Below.setCell ?_ ?_ _); rotate_left; · (first | exact Nat.le_refl _ | (simp; done) | (simp; omega) | omega)) | ((with_reducible refine Below.alloc ?_ ?_ _); rotate_left; · (first | exact Nat.le_refl _ | (simp; done) | (simp; omega) | omega)) | (with_reducible apply Below.drew) | (with_reducible apply below_drewN') | (refine Below.trans ?_ (Below.mono (by assumption) (by first | exact Nat.le_refl _ | (simp; done) | (simp; omega) | omega))) | exact Below.refl _ _ | assumption)) (by repeat (first | (with_reducible exact Below.refl _ _) | (with_reducible assumption) | ((with_reducible refine Below.setCell ?_ ?_ _); rotate_left; · (first | exact Nat.le_refl _ | (simp; done) | (simp; omega) | omega)) | ((with_reducible refine Below.alloc ?_ ?_ _); rotate_left; · (first | exact Nat.le_refl _ | (simp; done) | (simp; omega) | omega)) | (with_reducible apply Below.drew) | (with_reducible apply below_drewN') | (refine Below.trans ?_ (Below.mono (by assumption) (by first | exact Nat.le_refl _ | (simp; done) | (simp; omega) | omega))) | exact Below.refl _ _ | assumption))
  case ca11R2 => (first | (simp [Act.put]; done) | (simp [Act.put, *]; done))
  try dsimp only
  refine wpW_det (t' := ?ct12R2) 12 (by rfl) (by kernel_rfl) (NQ_free _) (by kernel_rfl) ?cw12R2 ?ch12R2 ?ca12R2 (Eq.refl _) ?cH12R2
  case cw12R2 => (go_simp; done)
  case ch12R2 =>
    intro ds w' hS K hK
    have hc := (bcellB hS).1
    have hf := (bcellB hS).2
    have hz := hS.size
    try simp at hz
    go_simp
    try go_bits
    first
      | exact hK _ hS (Gr.refl _)
      | exact hK _ (by repeat (first | (with_reducible exact Below.refl _ _) | (with_reducible assumption) | ((with_reducible refine Below.setCell ?_ ?_ _); rotate_left; · (first | exact Nat.le_refl _ | (simp; done) | (simp; omega) | omega)) | ((with_reducible refine Below.alloc ?_ ?_ _); rotate_left; · (first | exact Nat.le_refl _ | (simp; done) | (simp; omega) | omega)) | (with_reducible apply Below.drew) | (with_reducible apply below_drewN') | (refine Below.trans ?_ (Below.mono (by assumption) (by first | exact Nat.le_refl _ | (simp; done) | (simp; omega) | omega))) | exact Below.refl _ _ | assumption)) (by repeat (first | (with_reducible exact Below.refl _ _) | (with_reducible assumption) | ((with_reducible refine Below.setCell ?_ ?_ _); rotate_left; · (first | exact Nat.le_refl _ | (simp; done) | (simp; omega) | omega)) | ((with_reducible refine Below.alloc ?_ ?_ _); rotate_left; · (first | exact Nat.le_refl _ | (simp; done) | (simp; omega) | omega)) | (with_reducible apply Below.drew) | (with_reducible apply below_drewN') | (refine Below.trans ?_ (Below.mono (by assumption) (by first | exact Nat.le_refl _ | (simp; done) | (simp; omega) | omega))) | exact Below.refl _ _ | assumption))
  case ca12R2 => (first | (simp [Act.put]; done) | (simp [Act.put, *]; done))
  try dsimp only
  refine wpW_det (t' := ?ct13R2) 13 (by rfl) (by kernel_rfl) (NQ_free _) (by kernel_rfl) ?cw13R2 ?ch13R2 ?ca13R2 (Eq.refl _) ?cH13R2
  case cw13R2 => (go_simp; done)
  case ch13R2 =>
    intro ds w' hS K hK
    have hc := (bcellB hS).1
    have hf := (bcellB hS).2
    have hz := hS.size
    try simp at hz
    go_simp
    try go_bits
    first
      | exact hK _ hS (Gr.refl _)
      | exact hK _ (by repeat (first | (with_reducible exact Below.refl _ _) | (with_reducible assumption) | ((with_reducible refine Below.setCell ?_ ?_ _); rotate_left; · (first | exact Nat.le_refl _ | (simp; done) | (simp; omega) | omega)) | ((with_reducible refine Below.alloc ?_ ?_ _); rotate_left; · (first | exact Nat.le_refl _ | (simp; done) | (simp; omega) | omega)) | (with_reducible apply Below.drew) | (with_reducible apply below_drewN') | (refine Below.trans ?_ (Below.mono (by assumption) (by first | exact Nat.le_refl _ | (simp; done) | (simp; omega) | omega))) | exact Below.refl _ _ | assumption)) (by repeat (first | (with_reducible exact Below.refl _ _) | (with_reducible assumption) | ((with_reducible refine Below.setCell ?_ ?_ _); rotate_left; · (first | exact Nat.le_refl _ | (simp; done) | (simp; omega) | omega)) | ((with_reducible refine Below.alloc ?_ ?_ _); rotate_left; · (first | exact Nat.le_refl _ | (simp; done) | (simp; omega) | omega)) | (with_reducible apply Below.drew) | (with_reducible apply below_drewN') | (refine Below.trans ?_ (Below.mono (by assumption) (by first | exact Nat.le_refl _ | (simp; done) | (simp; omega) | omega))) | exact Below.refl _ _ | assumption))
  case ca13R2 => (first | (simp [Act.put]; done) | (simp [Act.put, *]; done))
  try dsimp only
  refine wpW_det (t' := ?ct14R2) 14 (by rfl) (by kernel_rfl) (NQ_free _) (by kernel_rfl) ?cw14R2 ?ch14R2 ?ca14R2 (Eq.refl _) ?cH14R2
  case cw14R2 => (go_simp; done)
  case ch14R2 =>
    intro ds w' hS K hK
    have hc := (bcellB hS).1
    have hf := (bcellB hS).2
    have hz := hS.size
    try simp at hz
    go_simp
    try go_bits
    first
      | exact hK _ hS (Gr.refl _)
      | exact hK _ (by repeat (first | (with_reducible exact Below.refl _ _) | (with_reducible assumption) | ((with_reducible refine Below.setCell ?_ ?_ _); rotate_left; · (first | exact Nat.le_refl _ | (simp; done) | (simp; omega) | omega)) | ((with_reducible refine Below.alloc ?_ ?_ _); rotate_left; · (first | exact Nat.le_refl _ | (simp; done) | (simp; omega) | omega)) | (with_reducible apply Below.drew) | (with_reducible apply below_drewN') | (refine Below.trans ?_ (Below.mono (by assumption) (by first | exact Nat.le_refl _ | (simp; done) | (simp; omega) | omega))) | exact Below.refl _ _ | assumption)) (by repeat (first | (with_reducible exact Below.refl _ _) | (with_reducible assumption) | ((with_reducible refine Below.setCell ?_ ?_ _); rotate_left; · (first | exact Nat.le_refl _ | (simp; done) | (simp; omega) | omega)) | ((with_reducible refine Below.alloc ?_ ?_ _); rotate_left; · (first | exact Nat.le_refl _ | (simp; done) | (simp; omega) | omega)) | (with_reducible apply Below.drew) | (with_reducible apply below_drewN') | (refine Below.trans ?_ (Below.mono (by assumption) (by first | exact Nat.le_refl _ | (simp; done) | (simp; omega) | omega))) | exact Below.refl _ _ | assumption))
  case ca14R2 => (first | (simp [Act.put]; done) | (simp [Act.put, *]; done))
  try dsimp only
  replace bo := bo.drew
  replace M := M.gr (Below.refl _ wr).drew
  refine wpW_branch [1, 9] (by kernel_rfl) (by simp) ?_
  intro w1 hg1 hS1
  replace bo := bo.gr hg1
  replace M := M.gr hg1
  have lo := bo.lt
  obtain ⟨a0, a1, a2, a3, a4, a5, a6, af⟩ := blk7 bo
  refine each_cons ?_ (each_cons ?_ (each_nil))
  · refine wpOp_go (by rfl) (Eq.refl _) (by go_simp; done) ?_
    intro K hK
    go_simp
    try simp only [Act.put]
    refine hK _ _ hS1 ?_
    clear hK K a0 a1 a2 a3 a4 a5 a6 af lo
    refine wpW_branch [7, 9] (by kernel_rfl) (by simp) ?_
    intro w2 hg2 hS2
    replace bo := bo.gr hg2
    replace M := M.gr hg2
    have lo := bo.lt
    obtain ⟨a0, a1, a2, a3, a4, a5, a6, af⟩ := blk7 bo
    refine each_cons ?_ (each_cons ?_ (each_nil))
    · refine wpOp_go (by rfl) (Eq.refl _) (by go_simp; done) ?_
      intro K hK
      refine wp_append_own _ (.tmp 41) (.tmp 46) 57 rfl N 3 i0 _ 1 8 Tryz.underlying57 hi hz0 hz1 hz2 rfl (by decide) vo os.length (intsC os) rfl M.orow ⟨gk, 0, none⟩ nsk.length ck (intsC nsk) rfl HNL.out ?hc HN1.out (by unfold maxLen; omega) (by omega) (by have := M.nlt; omega) ?_
      case hc => exact HC.out M
      intro vo' wa hown' hgrow _
      obtain ⟨gv, cv, rfl, _, _⟩ := hown'.form (by omega)
      have oe := M.ownLt
      replace bo := bo.grown hgrow (fun e => own_blk_ne M.orow bo (by decide) e.symm)
      have hSa := Below.grown hS2 hgrow (by have := hS2.size; have := M.nlt; omega) oe
      replace M := M.append (by simpa [intsC] using hown') hgrow
      simp only [Act.put, List.setIfInBounds_toArray]
      refine hK _ _ hSa ?_
      clear hSa hgrow hown' oe
      clear hK K a0 a1 a2 a3 a4 a5 a6 af lo
      refine wpW_branch [9] (by kernel_rfl) (by simp) ?_
      intro w3 hg3 hS3
      replace bo := bo.gr hg3
      replace M := M.gr hg3
      have lo := bo.lt
      obtain ⟨a0, a1, a2, a3, a4, a5, a6, af⟩ := blk7 bo
      refine each_cons ?_ (each_nil)
      refine wpOp_go (by rfl) (Eq.refl _) (by go_simp; done) ?_
      intro K hK
      go_simp
      try simp only [Act.put]
      refine hK _ _ hS3 ?_
      clear hK K a0 a1 a2 a3 a4 a5 a6 af lo
      refine wpW_branch [15] (by kernel_rfl) (by simp) ?_
      intro w4 hg4 hS4
      replace bo := bo.gr hg4
      replace M := M.gr hg4
      have lo := bo.lt
      obtain ⟨a0, a1, a2, a3, a4, a5, a6, af⟩ := blk7 bo
      refine each_cons ?_ (each_nil)
      refine wpOp_go (by rfl) (Eq.refl _) (by go_simp; done) ?_
      intro K hK
      go_simp
      try simp only [Act.put]
      refine (hull_any om mk _).mono ?_
      rintro e wh ⟨rfl, hBh⟩
      refine hK _ _ (Below.trans hS4 (hBh.mono M.nlt)) ?_
      replace bo := bo.gr hBh
      replace M := M.gr hBh
      clear hK K a0 a1 a2 a3 a4 a5 a6 af lo hBh
      refine wpW_branch [16] (by kernel_rfl) (by simp) ?_
      intro w5 hg5 hS5
      replace bo := bo.gr hg5
      replace M := M.gr hg5
      have lo := bo.lt
      obtain ⟨a0, a1, a2, a3, a4, a5, a6, af⟩ := blk7 bo
      refine each_cons ?_ (each_nil)
      refine wpOp_go (by rfl) (Eq.refl _) (by go_simp; done) ?_
      intro K hK
      go_simp
      try simp only [Act.put]
      refine hK _ _ hS5 ?_
      clear hK K a0 a1 a2 a3 a4 a5 a6 af lo
      refine wpW_branch [17] (by kernel_rfl) (by simp) ?_
      intro w6 hg6 hS6
      replace bo := bo.gr hg6
      replace M := M.gr hg6
      have lo := bo.lt
      obtain ⟨a0, a1, a2, a3, a4, a5, a6, af⟩ := blk7 bo
      refine each_cons ?_ (each_nil)
      refine wpOp_go (by rfl) (Eq.refl _) (by go_simp; done) ?_
      intro K hK
      go_simp
      try simp only [Act.put]
      refine hK _ _ (Below.set7 hS6 hb10) ?_
      replace M := M.turn (Below.set7 (Below.refl N _) hb10) (own_set7 M.orow (own_blk_ne M.orow bo (by decide)) (.slice (some ⟨gv, 0, none⟩) (os.length + nsk.length) cv) (.string (hullV om mk).nm) (.int .i64 (hullV om mk).al) (.int .i64 (hullV om mk).ah) (.int .i64 (hullV om mk).dl) (.int .i64 (hullV om mk).dh) (.int .i64 (hullV om mk).lv))
      replace bo := bo.set7 (.slice (some ⟨gv, 0, none⟩) (os.length + nsk.length) cv) (.string (hullV om mk).nm) (.int .i64 (hullV om mk).al) (.int .i64 (hullV om mk).ah) (.int .i64 (hullV om mk).dl) (.int .i64 (hullV om mk).dh) (.int .i64 (hullV om mk).lv)
      clear hK K a0 a1 a2 a3 a4 a5 a6 af lo
      refine wpW_end (by kernel_rfl) ?_
      intro we hg hS
      unfold NQ
      dsimp only
      exact H.out _ _ _ _ _ _ _ _ _ _ _ _ _ _ _ _ _ _ _ (M.gr hg) (bo.gr hg)
    · refine wpOp_go (by rfl) (Eq.refl _) (by go_simp; done) ?_
      intro K hK
      go_simp
      try simp only [Act.put]
      refine hK _ _ hS2 ?_
      clear hK K a0 a1 a2 a3 a4 a5 a6 af lo
      refine wpW_branch [7] (by kernel_rfl) (by simp) ?_
      intro w7 hg7 hS7
      replace bo := bo.gr hg7
      replace M := M.gr hg7
      have lo := bo.lt
      obtain ⟨a0, a1, a2, a3, a4, a5, a6, af⟩ := blk7 bo
      refine each_cons ?_ (each_nil)
      refine wpOp_go (by rfl) (Eq.refl _) (by go_simp; done) ?_
      intro K hK
      refine wp_append_own _ (.tmp 41) (.tmp 46) 57 rfl N 3 i0 _ 1 8 Tryz.underlying57 hi hz0 hz1 hz2 rfl (by decide) vo os.length (intsC os) rfl M.orow ⟨gk, 0, none⟩ nsk.length ck (intsC nsk) rfl HNL.out ?hc HN1.out (by unfold maxLen; omega) (by omega) (by have := M.nlt; omega) ?_
      case hc => exact HC.out M
      intro vo' wa hown' hgrow _
      obtain ⟨gv, cv, rfl, _, _⟩ := hown'.form (by omega)
      have oe := M.ownLt
      replace bo := bo.grown hgrow (fun e => own_blk_ne M.orow bo (by decide) e.symm)
      have hSa := Below.grown hS7 hgrow (by have := hS7.size; have := M.nlt; omega) oe
      replace M := M.append (by simpa [intsC] using hown') hgrow
      simp only [Act.put, List.setIfInBounds_toArray]
      refine hK _ _ hSa ?_
      clear hSa hgrow hown' oe
      clear hK K a0 a1 a2 a3 a4 a5 a6 af lo
      refine wpW_branch [15] (by kernel_rfl) (by simp) ?_
      intro w8 hg8 hS8
      replace bo := bo.gr hg8
      replace M := M.gr hg8
      have lo := bo.lt
      obtain ⟨a0, a1, a2, a3, a4, a5, a6, af⟩ := blk7 bo
      refine each_cons ?_ (each_nil)
      refine wpOp_go (by rfl) (Eq.refl _) (by go_simp; done) ?_
      intro K hK
      go_simp
      try simp only [Act.put]
      refine (hull_any om mk _).mono ?_
      rintro e wh ⟨rfl, hBh⟩
      refine hK _ _ (Below.trans hS8 (hBh.mono M.nlt)) ?_
      replace bo := bo.gr hBh
      replace M := M.gr hBh
      clear hK K a0 a1 a2 a3 a4 a5 a6 af lo hBh
      refine wpW_branch [16] (by kernel_rfl) (by simp) ?_
      intro w9 hg9 hS9
      replace bo := bo.gr hg9
      replace M := M.gr hg9
      have lo := bo.lt
      obtain ⟨a0, a1, a2, a3, a4, a5, a6, af⟩ := blk7 bo
      refine each_cons ?_ (each_nil)
      refine wpOp_go (by rfl) (Eq.refl _) (by go_simp; done) ?_
      intro K hK
      go_simp
      try simp only [Act.put]
      refine hK _ _ hS9 ?_
      clear hK K a0 a1 a2 a3 a4 a5 a6 af lo
      refine wpW_branch [17] (by kernel_rfl) (by simp) ?_
      intro w10 hg10 hS10
      replace bo := bo.gr hg10
      replace M := M.gr hg10
      have lo := bo.lt
      obtain ⟨a0, a1, a2, a3, a4, a5, a6, af⟩ := blk7 bo
      refine each_cons ?_ (each_nil)
      refine wpOp_go (by rfl) (Eq.refl _) (by go_simp; done) ?_
      intro K hK
      go_simp
      try simp only [Act.put]
      refine hK _ _ (Below.set7 hS10 hb10) ?_
      replace M := M.turn (Below.set7 (Below.refl N _) hb10) (own_set7 M.orow (own_blk_ne M.orow bo (by decide)) (.slice (some ⟨gv, 0, none⟩) (os.length + nsk.length) cv) (.string (hullV om mk).nm) (.int .i64 (hullV om mk).al) (.int .i64 (hullV om mk).ah) (.int .i64 (hullV om mk).dl) (.int .i64 (hullV om mk).dh) (.int .i64 (hullV om mk).lv))
      replace bo := bo.set7 (.slice (some ⟨gv, 0, none⟩) (os.length + nsk.length) cv) (.string (hullV om mk).nm) (.int .i64 (hullV om mk).al) (.int .i64 (hullV om mk).ah) (.int .i64 (hullV om mk).dl) (.int .i64 (hullV om mk).dh) (.int .i64 (hullV om mk).lv)
      clear hK K a0 a1 a2 a3 a4 a5 a6 af lo
      refine wpW_end (by kernel_rfl) ?_
      intro we hg hS
      unfold NQ
      dsimp only
      exact H.out _ _ _ _ _ _ _ _ _ _ _ _ _ _ _ _ _ _ _ (M.gr hg) (bo.gr hg)
  · refine wpOp_go (by rfl) (Eq.refl _) (by go_simp; done) ?_
    intro K hK
    go_simp
    try simp only [Act.put]
    refine hK _ _ hS1 ?_
    clear hK K a0 a1 a2 a3 a4 a5 a6 af lo
    refine wpW_branch [1] (by kernel_rfl) (by simp) ?_
    intro w11 hg11 hS11
    replace bo := bo.gr hg11
    replace M := M.gr hg11
    have lo := bo.lt
    obtain ⟨a0, a1, a2, a3, a4, a5, a6, af⟩ := blk7 bo
    refine each_cons ?_ (each_nil)
    refine wpOp_go (by rfl) (Eq.refl _) (by go_simp; done) ?_
    intro K hK
    go_simp
    try simp only [Act.put]
    refine hK _ _ hS11 ?_
    clear hK K a0 a1 a2 a3 a4 a5 a6 af lo
    refine wpW_branch [7] (by kernel_rfl) (by simp) ?_
    intro w12 hg12 hS12
    replace bo := bo.gr hg12
    replace M := M.gr hg12
    have lo := bo.lt
    obtain ⟨a0, a1, a2, a3, a4, a5, a6, af⟩ := blk7 bo
    refine each_cons ?_ (each_nil)
    refine wpOp_go (by rfl) (Eq.refl _) (by go_simp; done) ?_
    intro K hK
    refine wp_append_own _ (.tmp 41) (.tmp 46) 57 rfl N 3 i0 _ 1 8 Tryz.underlying57 hi hz0 hz1 hz2 rfl (by decide) vo os.length (intsC os) rfl M.orow ⟨gk, 0, none⟩ nsk.length ck (intsC nsk) rfl HNL.out ?hc HN1.out (by unfold maxLen; omega) (by omega) (by have := M.nlt; omega) ?_
    case hc => exact HC.out M
    intro vo' wa hown' hgrow _
    obtain ⟨gv, cv, rfl, _, _⟩ := hown'.form (by omega)
    have oe := M.ownLt
    replace bo := bo.grown hgrow (fun e => own_blk_ne M.orow bo (by decide) e.symm)
    have hSa := Below.grown hS12 hgrow (by have := hS12.size; have := M.nlt; omega) oe
    replace M := M.append (by simpa [intsC] using hown') hgrow
    simp only [Act.put, List.setIfInBounds_toArray]
    refine hK _ _ hSa ?_
    clear hSa hgrow hown' oe
    clear hK K a0 a1 a2 a3 a4 a5 a6 af lo
    refine wpW_branch [15] (by kernel_rfl) (by simp) ?_
    intro w13 hg13 hS13
    replace bo := bo.gr hg13
    replace M := M.gr hg13
    have lo := bo.lt
    obtain ⟨a0, a1, a2, a3, a4, a5, a6, af⟩ := blk7 bo
    refine each_cons ?_ (each_nil)
    refine wpOp_go (by rfl) (Eq.refl _) (by go_simp; done) ?_
    intro K hK
    go_simp
    try simp only [Act.put]
    refine (hull_any om mk _).mono ?_
    rintro e wh ⟨rfl, hBh⟩
    refine hK _ _ (Below.trans hS13 (hBh.mono M.nlt)) ?_
    replace bo := bo.gr hBh
    replace M := M.gr hBh
    clear hK K a0 a1 a2 a3 a4 a5 a6 af lo hBh
    refine wpW_branch [16] (by kernel_rfl) (by simp) ?_
    intro w14 hg14 hS14
    replace bo := bo.gr hg14
    replace M := M.gr hg14
    have lo := bo.lt
    obtain ⟨a0, a1, a2, a3, a4, a5, a6, af⟩ := blk7 bo
    refine each_cons ?_ (each_nil)
    refine wpOp_go (by rfl) (Eq.refl _) (by go_simp; done) ?_
    intro K hK
    go_simp
    try simp only [Act.put]
    refine hK _ _ hS14 ?_
    clear hK K a0 a1 a2 a3 a4 a5 a6 af lo
    refine wpW_branch [17] (by kernel_rfl) (by simp) ?_
    intro w15 hg15 hS15
    replace bo := bo.gr hg15
    replace M := M.gr hg15
    have lo := bo.lt
    obtain ⟨a0, a1, a2, a3, a4, a5, a6, af⟩ := blk7 bo
    refine each_cons ?_ (each_nil)
    refine wpOp_go (by rfl) (Eq.refl _) (by go_simp; done) ?_
    intro K hK
    go_simp
    try simp only [Act.put]
    refine hK _ _ (Below.set7 hS15 hb10) ?_
    replace M := M.turn (Below.set7 (Below.refl N _) hb10) (own_set7 M.orow (own_blk_ne M.orow bo (by decide)) (.slice (some ⟨gv, 0, none⟩) (os.length + nsk.length) cv) (.string (hullV om mk).nm) (.int .i64 (hullV om mk).al) (.int .i64 (hullV om mk).ah) (.int .i64 (hullV om mk).dl) (.int .i64 (hullV om mk).dh) (.int .i64 (hullV om mk).lv))
    replace bo := bo.set7 (.slice (some ⟨gv, 0, none⟩) (os.length + nsk.length) cv) (.string (hullV om mk).nm) (.int .i64 (hullV om mk).al) (.int .i64 (hullV om mk).ah) (.int .i64 (hullV om mk).dl) (.int .i64 (hullV om mk).dh) (.int .i64 (hullV om mk).lv)
    clear hK K a0 a1 a2 a3 a4 a5 a6 af lo
    refine wpW_end (by kernel_rfl) ?_
    intro we hg hS
    unfold NQ
    dsimp only
    exact H.out _ _ _ _ _ _ _ _ _ _ _ _ _ _ _ _ _ _ _ (M.gr hg) (bo.gr hg)
end Go.Proofs.YtjimdnmdnjhnjaaGreatDoor
