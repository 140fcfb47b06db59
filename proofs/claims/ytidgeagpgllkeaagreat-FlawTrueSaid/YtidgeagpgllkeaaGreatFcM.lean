/- Grouped: the loops as wholes. -/
import Derived.Test.YtidgeagpgllkeaaGreatFcL
namespace Go.Proofs.YtidgeagpgllkeaaGreat
open Go.RowKit Go.Shelf

set_option maxRecDepth 100000 in
set_option maxHeartbeats 4000000 in
theorem marks_loop (w : World) (b3 : Nat) (r : Ru) (hr : RuS r) (l : List Mk) (A : Option Addr) (c B : Nat) (hl : MkOk l A B w) (hB : B ≤ w.heap.size) (hl20 : l.length ≤ 20) (hms : Hid (∀ m ∈ l, MkS m)) (T : List PG) (Q' : Exit → Act → World → Prop)
    (hexit : ∀ (t0 t1 t2 t4 t5 t6 t8 t9 t10 t11 t12 t13 t14 t15 t16 t17 t18 t19 t20 t21 t22 t23 t27 t28 t29 t30 t31 t32 t33 t34 t35 t36 t37 t38 t39 t40 t41 t42 t43 t44 t45 t46 t47 t48 t49 t50 t51 t52 t53 t54 t55 t56 t57 t58 t59 t60 t61 t62 t63 t64 t65 t66 t67 t68 t69 t70 t71 t72 t73 t74 t75 t76 t77 t78 t79 t80 t81 t82 t83 : Value) (Gs : List Gp) (vg : Value) (wr : World), GmM w b3 r Gs vg wr → GmS l l.length Gs → T = Gs.map Gp.p → Q' (.exit 0) ⟨#[t0, t1, t2, .pointer (some ⟨b3, 0, none⟩), t4, t5, t6, vg, t8, t9, t10, t11, t12, t13, t14, t15, t16, t17, t18, t19, t20, t21, t22, t23, .slice A l.length c, .int .i64 l.length, .int .i64 l.length, t27, t28, t29, t30, t31, t32, t33, t34, t35, t36, t37, t38, t39, t40, t41, t42, t43, t44, t45, t46, t47, t48, t49, t50, t51, t52, t53, t54, t55, t56, t57, t58, t59, t60, t61, t62, t63, t64, t65, t66, t67, t68, t69, t70, t71, t72, t73, t74, t75, t76, t77, t78, t79, t80, t81, t82, t83], []⟩ wr) :
    ∀ (f : Nat) (t0 t1 t2 t4 t5 t6 t8 t9 t10 t11 t12 t13 t14 t15 t16 t17 t18 t19 t20 t21 t22 t23 t27 t28 t29 t30 t31 t32 t33 t34 t35 t36 t37 t38 t39 t40 t41 t42 t43 t44 t45 t46 t47 t48 t49 t50 t51 t52 t53 t54 t55 t56 t57 t58 t59 t60 t61 t62 t63 t64 t65 t66 t67 t68 t69 t70 t71 t72 t73 t74 t75 t76 t77 t78 t79 t80 t81 t82 t83 : Value) (i : Nat) (Gs : List Gp) (vg : Value) (wr : World), i ≤ l.length → l.length - i ≤ f → GmM w b3 r Gs vg wr → GmS l i Gs → groupsV r i (l.drop i) (Gs.map Gp.p) = T →
      (bodyOf Tryz.f36 0).loop.wp Tryz.prog Q' ⟨#[t0, t1, t2, .pointer (some ⟨b3, 0, none⟩), t4, t5, t6, vg, t8, t9, t10, t11, t12, t13, t14, t15, t16, t17, t18, t19, t20, t21, t22, t23, .slice A l.length c, .int .i64 l.length, .int .i64 i, t27, t28, t29, t30, t31, t32, t33, t34, t35, t36, t37, t38, t39, t40, t41, t42, t43, t44, t45, t46, t47, t48, t49, t50, t51, t52, t53, t54, t55, t56, t57, t58, t59, t60, t61, t62, t63, t64, t65, t66, t67, t68, t69, t70, t71, t72, t73, t74, t75, t76, t77, t78, t79, t80, t81, t82, t83], []⟩ wr := by
  intro f t0 t1 t2 t4 t5 t6 t8 t9 t10 t11 t12 t13 t14 t15 t16 t17 t18 t19 t20 t21 t22 t23 t27 t28 t29 t30 t31 t32 t33 t34 t35 t36 t37 t38 t39 t40 t41 t42 t43 t44 t45 t46 t47 t48 t49 t50 t51 t52 t53 t54 t55 t56 t57 t58 t59 t60 t61 t62 t63 t64 t65 t66 t67 t68 t69 t70 t71 t72 t73 t74 t75 t76 t77 t78 t79 t80 t81 t82 t83 i Gs vg wr hi hf M S hT
  refine wp_loop_rounds (f + 1) ?_
  induction f generalizing i Gs vg wr t0 t1 t2 t4 t5 t6 t8 t9 t10 t11 t12 t13 t14 t15 t16 t17 t18 t19 t20 t21 t22 t23 t27 t28 t29 t30 t31 t32 t33 t34 t35 t36 t37 t38 t39 t40 t41 t42 t43 t44 t45 t46 t47 t48 t49 t50 t51 t52 t53 t54 t55 t56 t57 t58 t59 t60 t61 t62 t63 t64 t65 t66 t67 t68 t69 t70 t71 t72 t73 t74 t75 t76 t77 t78 t79 t80 t81 t82 t83 with
  | zero =>
    rw [rounds_succ]
    exact marks_round w b3 r hr l A c B hl hB hl20 hms i hi Gs vg wr M S T hT _ _ (fun t0 t1 t2 t4 t5 t6 t8 t9 t10 t11 t12 t13 t14 t15 t16 t17 t18 t19 t20 t21 t22 t23 t27 t28 t29 t30 t31 t32 t33 t34 t35 t36 t37 t38 t39 t40 t41 t42 t43 t44 t45 t46 t47 t48 t49 t50 t51 t52 t53 t54 t55 t56 t57 t58 t59 t60 t61 t62 t63 t64 t65 t66 t67 t68 t69 t70 t71 t72 t73 t74 t75 t76 t77 t78 t79 t80 t81 t82 t83 Gs' vg' wr' hlt => by omega) (fun t0 t1 t2 t4 t5 t6 t8 t9 t10 t11 t12 t13 t14 t15 t16 t17 t18 t19 t20 t21 t22 t23 t27 t28 t29 t30 t31 t32 t33 t34 t35 t36 t37 t38 t39 t40 t41 t42 t43 t44 t45 t46 t47 t48 t49 t50 t51 t52 t53 t54 t55 t56 t57 t58 t59 t60 t61 t62 t63 t64 t65 t66 t67 t68 t69 t70 t71 t72 t73 t74 t75 t76 t77 t78 t79 t80 t81 t82 t83 e hE => by subst e; exact hexit t0 t1 t2 t4 t5 t6 t8 t9 t10 t11 t12 t13 t14 t15 t16 t17 t18 t19 t20 t21 t22 t23 t27 t28 t29 t30 t31 t32 t33 t34 t35 t36 t37 t38 t39 t40 t41 t42 t43 t44 t45 t46 t47 t48 t49 t50 t51 t52 t53 t54 t55 t56 t57 t58 t59 t60 t61 t62 t63 t64 t65 t66 t67 t68 t69 t70 t71 t72 t73 t74 t75 t76 t77 t78 t79 t80 t81 t82 t83 Gs vg wr M S hE)
  | succ f ih =>
    rw [rounds_succ]
    exact marks_round w b3 r hr l A c B hl hB hl20 hms i hi Gs vg wr M S T hT _ _ (fun t0 t1 t2 t4 t5 t6 t8 t9 t10 t11 t12 t13 t14 t15 t16 t17 t18 t19 t20 t21 t22 t23 t27 t28 t29 t30 t31 t32 t33 t34 t35 t36 t37 t38 t39 t40 t41 t42 t43 t44 t45 t46 t47 t48 t49 t50 t51 t52 t53 t54 t55 t56 t57 t58 t59 t60 t61 t62 t63 t64 t65 t66 t67 t68 t69 t70 t71 t72 t73 t74 t75 t76 t77 t78 t79 t80 t81 t82 t83 Gs' vg' wr' hlt hM hS hE => ih t0 t1 t2 t4 t5 t6 t8 t9 t10 t11 t12 t13 t14 t15 t16 t17 t18 t19 t20 t21 t22 t23 t27 t28 t29 t30 t31 t32 t33 t34 t35 t36 t37 t38 t39 t40 t41 t42 t43 t44 t45 t46 t47 t48 t49 t50 t51 t52 t53 t54 t55 t56 t57 t58 t59 t60 t61 t62 t63 t64 t65 t66 t67 t68 t69 t70 t71 t72 t73 t74 t75 t76 t77 t78 t79 t80 t81 t82 t83 (i + 1) Gs' vg' wr' (by omega) (by omega) hM hS hE) (fun t0 t1 t2 t4 t5 t6 t8 t9 t10 t11 t12 t13 t14 t15 t16 t17 t18 t19 t20 t21 t22 t23 t27 t28 t29 t30 t31 t32 t33 t34 t35 t36 t37 t38 t39 t40 t41 t42 t43 t44 t45 t46 t47 t48 t49 t50 t51 t52 t53 t54 t55 t56 t57 t58 t59 t60 t61 t62 t63 t64 t65 t66 t67 t68 t69 t70 t71 t72 t73 t74 t75 t76 t77 t78 t79 t80 t81 t82 t83 e hE => by subst e; exact hexit t0 t1 t2 t4 t5 t6 t8 t9 t10 t11 t12 t13 t14 t15 t16 t17 t18 t19 t20 t21 t22 t23 t27 t28 t29 t30 t31 t32 t33 t34 t35 t36 t37 t38 t39 t40 t41 t42 t43 t44 t45 t46 t47 t48 t49 t50 t51 t52 t53 t54 t55 t56 t57 t58 t59 t60 t61 t62 t63 t64 t65 t66 t67 t68 t69 t70 t71 t72 t73 t74 t75 t76 t77 t78 t79 t80 t81 t82 t83 Gs vg wr M S hE)

/-! ### the loop that sorts the numbers -/
theorem infoSl : (Tryz.prog.info? 37).map (fun i => (i.zero, i.size, i.bytes)) = some (some (.slice none 0 0), 1, 24) := by kernel_rfl
/-- What lies in memory. -/
structure OmM (w : World) (Gs : List Gp) (vg vo : Value) (Os : List Rw) (W : World) : Prop where
  grow : W.ownsRow w.heap.size 164 7 vg Gs.length (gpsC Gs)
  rows : ∀ g ∈ Gs, W.ownsRow w.heap.size 3 1 g.v g.ns.length (intsC g.ns)
  outs : W.ownsRow w.heap.size 37 1 vo Os.length (Os.map rwV)
  each : ∀ q ∈ Os, W.ownsRow w.heap.size 3 1 (rwV q) q.ns.length (intsC q.ns)
  below : Below w.heap.size w W
theorem OmM.gr {w W W' : World} {Gs : List Gp} {vg vo : Value} {Os : List Rw} (h : OmM w Gs vg vo Os W) (hb : Gr W W') : OmM w Gs vg vo Os W' :=
  ⟨own_below h.grow hb, fun g hg => own_below (h.rows g hg) hb, own_below h.outs hb, fun q hq => own_below (h.each q hq) hb, h.below.trans (Below.mono hb (Below.size h.below))⟩
theorem Ints.grow {W W' : World} {sv : Value} {zs : List Int} (h : Ints W.heap.size W sv zs) (hg : Gr W W') : Ints W'.heap.size W' sv zs := by
  rcases Ints.below hg h with h | ⟨b, off, cap, e, hb, hc⟩
  · exact .inl h
  · exact .inr ⟨b, off, cap, e, Nat.lt_of_lt_of_le hb (Below.size hg), hc⟩
theorem cell_one_new (w : World) (x : Value) (t : TypeId) : ∀ j v, [x][j]? = some v → (w.alloc (.cells #[x] t)).cell? ((⟨w.heap.size, 0, none⟩ : Addr).add j) = some v := by
  intro j v hj
  have hb := Blk.new w t #[x]
  match j, hj with
  | 0, hj => simp at hj; subst hj; exact hb.cell 0
  | k + 1, hj => simp at hj
/-- What the rows hold. -/
def OmS (Gs : List Gp) (j : Nat) (Os : List Rw) : Prop := Os.map (·.ns) = (Gs.take j).map fun g => sortV g.ns

set_option maxRecDepth 100000 in
set_option maxHeartbeats 4000000 in
theorem outs_round (w : World) (Gs : List Gp) (hG : Gs.length ≤ 100) (hS : GmS ([] : List Mk) (Gs.map fun g => g.ns.length).sum Gs) (hsum : (Gs.map fun g => g.ns.length).sum ≤ 100) (vg vo : Value) (Os : List Rw) (j : Nat) (hj : j ≤ Gs.length) (wr : World) (M : OmM w Gs vg vo Os wr) (S : OmS Gs j Os)
    (K' : Act → World → Prop) (Q' : Exit → Act → World → Prop) {t0 t1 t2 t3 t4 t5 t6 t7 t8 t9 t10 t11 t13 t14 t15 t16 t17 t18 t19 t20 t21 t22 t23 t24 t25 t26 t27 t28 t29 t30 t31 t32 t33 t34 t35 t36 t37 t38 t39 t40 t41 t42 t43 t44 t45 t46 t47 t48 t49 t50 t51 t52 t53 t54 t55 t56 t57 t58 t59 t60 t61 t62 t63 t64 t65 t66 t70 t71 t72 t73 t74 t75 t76 t77 t78 t79 t80 t81 t82 t83 : Value}
    (hnext : ∀ (t0 t1 t2 t3 t4 t5 t6 t7 t8 t9 t10 t11 t13 t14 t15 t16 t17 t18 t19 t20 t21 t22 t23 t24 t25 t26 t27 t28 t29 t30 t31 t32 t33 t34 t35 t36 t37 t38 t39 t40 t41 t42 t43 t44 t45 t46 t47 t48 t49 t50 t51 t52 t53 t54 t55 t56 t57 t58 t59 t60 t61 t62 t63 t64 t65 t66 t70 t71 t72 t73 t74 t75 t76 t77 t78 t79 t80 t81 t82 t83 : Value) (Os' : List Rw) (vo' : Value) (wr' : World), j < Gs.length → OmM w Gs vg vo' Os' wr' → OmS Gs (j + 1) Os' →
      K' ⟨#[t0, t1, t2, t3, t4, t5, t6, t7, t8, t9, t10, t11, vo', t13, t14, t15, t16, t17, t18, t19, t20, t21, t22, t23, t24, t25, t26, t27, t28, t29, t30, t31, t32, t33, t34, t35, t36, t37, t38, t39, t40, t41, t42, t43, t44, t45, t46, t47, t48, t49, t50, t51, t52, t53, t54, t55, t56, t57, t58, t59, t60, t61, t62, t63, t64, t65, t66, vg, .int .i64 Gs.length, .int .i64 ((j : Int) + 1), t70, t71, t72, t73, t74, t75, t76, t77, t78, t79, t80, t81, t82, t83], []⟩ wr')
    (hexit : ∀ (t0 t1 t2 t3 t4 t5 t6 t7 t8 t9 t10 t11 t13 t14 t15 t16 t17 t18 t19 t20 t21 t22 t23 t24 t25 t26 t27 t28 t29 t30 t31 t32 t33 t34 t35 t36 t37 t38 t39 t40 t41 t42 t43 t44 t45 t46 t47 t48 t49 t50 t51 t52 t53 t54 t55 t56 t57 t58 t59 t60 t61 t62 t63 t64 t65 t66 t70 t71 t72 t73 t74 t75 t76 t77 t78 t79 t80 t81 t82 t83 : Value), j = Gs.length → Q' (.exit 4) ⟨#[t0, t1, t2, t3, t4, t5, t6, t7, t8, t9, t10, t11, vo, t13, t14, t15, t16, t17, t18, t19, t20, t21, t22, t23, t24, t25, t26, t27, t28, t29, t30, t31, t32, t33, t34, t35, t36, t37, t38, t39, t40, t41, t42, t43, t44, t45, t46, t47, t48, t49, t50, t51, t52, t53, t54, t55, t56, t57, t58, t59, t60, t61, t62, t63, t64, t65, t66, vg, .int .i64 Gs.length, .int .i64 j, t70, t71, t72, t73, t74, t75, t76, t77, t78, t79, t80, t81, t82, t83], []⟩ wr) :
    (bodyOf Tryz.f36 2).wp Tryz.prog (Exit.then K' Q') ⟨#[t0, t1, t2, t3, t4, t5, t6, t7, t8, t9, t10, t11, vo, t13, t14, t15, t16, t17, t18, t19, t20, t21, t22, t23, t24, t25, t26, t27, t28, t29, t30, t31, t32, t33, t34, t35, t36, t37, t38, t39, t40, t41, t42, t43, t44, t45, t46, t47, t48, t49, t50, t51, t52, t53, t54, t55, t56, t57, t58, t59, t60, t61, t62, t63, t64, t65, t66, vg, .int .i64 Gs.length, .int .i64 j, t70, t71, t72, t73, t74, t75, t76, t77, t78, t79, t80, t81, t82, t83], []⟩ wr := by
  have HN := Lib.hid hnext; have HX := Lib.hid hexit
  clear hnext hexit
  conv in (bodyOf _ _) => whnf
  try dsimp only
  by_cases hlt : j < Gs.length
  · clear HX
    have hgm := List.getElem_mem hlt
    have hns := hS.each _ hgm
    have hB0 := Below.size M.below
    obtain ⟨gk, ck, hvk, _, hgk⟩ := (M.rows _ hgm).form (hS.each _ hgm)
    have hrk := M.rows _ hgm
    have hnl : Gs[j].ns.length ≤ 100 := by have := mem_le_sum (List.mem_map_of_mem (f := fun g : Gp => g.ns.length) hgm); omega
    have hS2 : ∀ b cp, OmS Gs (j + 1) (Os ++ [⟨b, cp, sortV Gs[j].ns⟩]) := fun b cp => by
      unfold OmS at *
      rw [List.map_append, S, List.take_succ_eq_append_getElem hlt, List.map_append]; rfl
    have hOl : Os.length = j := by have := congrArg List.length S; simpa [Nat.min_eq_left hj] using this
    obtain ⟨gg, capg, hvg, _, hgl⟩ := M.grow.form (by omega)
    subst hvg
    have hR : Row wr wr.heap.size 7 (some ⟨gg, 0, none⟩) Gs.length (gpsC Gs) := by
      refine ⟨gpsC_length _, fun _ => ⟨gg, 0, rfl, hgl, fun j u hj => ?_⟩⟩
      have := M.grow.cells (g := gg) rfl j u hj
      rw [Nat.zero_add]
      rwa [Addr.add_lit, Nat.zero_add] at this
    obtain ⟨g', o', hA', _, c0, c1, c2, c3, c4, c5, c6⟩ := gpCells hR hlt
    injection hA' with hA'
    injection hA' with e1 e2
    subst e1; subst e2
    clear hR
    simp only [Nat.zero_add] at c0 c1 c2 c3 c4 c5 c6
    rw [hvk] at c0 hrk
    generalize Gs[j].ns = ns at *
    generalize Gs[j].m = m at *
    have hjI : (j : Int) < (Gs.length : Int) := by omega
    have hj0 : (0 : Int) ≤ (j : Int) := by omega
    have hI : Ints wr.heap.size wr (.slice (some ⟨gk, 0, none⟩) ns.length ck) ns := .inr ⟨gk, 0, ck, rfl, hgk, fun t ht => by
      have := hrk.cells (g := gk) rfl t (.int .i64 (ns[t]?.getD 0)) (by simp [intsC, ht])
      rwa [Addr.add_lit] at this⟩
    go_wp2_with fail
    refine (values_any _ _ _ _).mono ?_
    rintro e w1 ⟨rfl, rfl⟩
    have hgr : Gr wr ((wr.alloc (.cells (gpA (.slice (some ⟨gk, 0, none⟩) ns.length ck) m) 164)).alloc (.cells #[.slice (some ⟨gk, 0, none⟩) ns.length ck] 37)) := show Below wr.heap.size wr _ from (by repeat (first | (with_reducible exact Below.refl _ _) | (with_reducible assumption) | ((with_reducible refine Below.setCell ?_ ?_ _); rotate_left; · (first | exact Nat.le_refl _ | (simp; done) | (simp; omega) | omega)) | ((with_reducible refine Below.alloc ?_ ?_ _); rotate_left; · (first | exact Nat.le_refl _ | (simp; done) | (simp; omega) | omega)) | (with_reducible apply Below.drew) | (with_reducible apply below_drewN') | (refine Below.trans ?_ (Below.mono (by assumption) (by first | exact Nat.le_refl _ | (simp; done) | (simp; omega) | omega))) | exact Below.refl _ _ | assumption))
    have hbx := Blk.new (wr.alloc (.cells (gpA (.slice (some ⟨gk, 0, none⟩) ns.length ck) m) 164)) 37 #[.slice (some ⟨gk, 0, none⟩) ns.length ck]
    rw [World.size_alloc] at hbx
    have hI2 := Ints.grow hI hgr
    replace M := M.gr hgr
    clear hI hrk c0 c1 c2 c3 c4 c5 c6
    go_wp2_with fail
    refine (sorted_any (wr.heap.size + 1) (.slice (some ⟨gk, 0, none⟩) ns.length ck) ns (by omega) _ hbx.lt (hbx.cell 0) hI2).mono ?_
    rintro e w3 ⟨v, rfl, hrow, hB3⟩
    replace M := M.gr hB3
    obtain ⟨bv, cv, rfl, _, _⟩ := hrow.form hns
    have hbz := Below.size M.below
    have hrow2 := hrow.mono (base' := w.heap.size) (by simp only [World.size_alloc]; have := hB0; omega)
    obtain ⟨i0, hi0, hz0, hz1, hz2⟩ := info_parts infoSl
    have hOo := M.outs.alloc (.cells #[.slice (some ⟨bv, 0, none⟩) ns.length cv] 37)
    have HS3 := Lib.hid (hS2 bv cv)
    clear hS2 hrow hI2 hbx
    go_wp2_with (at_builtin; refine wpList_append_own _ rfl _ _ 64 rfl w.heap.size 37 i0 _ 1 24 Tryz.underlying64 hi0 hz0 hz1 hz2 rfl (by decide) _ _ _ rfl hOo ⟨w3.heap.size, 0, none⟩ 1 1 [.slice (some ⟨bv, 0, none⟩) ns.length cv] rfl rfl (cell_one_new _ _ _) (by simp [Value.oneCell']) (by unfold maxLen; omega) (by omega) (by simp; omega) ?_; intro v2 W5 hown' hgrow _)
    have hsl := sortV_length ns
    have hnew : W5.ownsRow w.heap.size 3 1 (rwV ⟨bv, cv, sortV ns⟩) (sortV ns).length (intsC (sortV ns)) := by
      unfold rwV
      rw [hsl]
      exact (hrow2.alloc _).kept hgrow (own_two (hrow2.alloc _) hOo (by decide))
    have M2 : OmM w Gs (.slice (some ⟨gg, 0, none⟩) Gs.length capg) v2 (Os ++ [⟨bv, cv, sortV ns⟩]) W5 :=
      ⟨(M.grow.alloc _).kept hgrow (own_two (M.grow.alloc _) hOo (by decide)), fun g hg => ((M.rows g hg).alloc _).kept hgrow (own_two ((M.rows g hg).alloc _) hOo (by decide)),
        by rw [List.length_append, List.map_append]
           have e : [(⟨bv, cv, sortV ns⟩ : Rw)].map rwV = [.slice (some ⟨bv, 0, none⟩) ns.length cv] := by simp [rwV, hsl]
           rw [e]; exact hown',
        fun q hq => by
          rcases List.mem_append.1 hq with hq | hq
          · exact ((M.each q hq).alloc _).kept hgrow (own_two ((M.each q hq).alloc _) hOo (by decide))
          · rw [List.mem_singleton] at hq; subst hq; exact hnew,
        below_own (M.below.alloc hbz _) (Nat.le_refl _) hOo hgrow⟩
    exact HN.out _ _ _ _ _ _ _ _ _ _ _ _ _ _ _ _ _ _ _ _ _ _ _ _ _ _ _ _ _ _ _ _ _ _ _ _ _ _ _ _ _ _ _ _ _ _ _ _ _ _ _ _ _ _ _ _ _ _ _ _ _ _ _ _ _ _ _ _ _ _ _ _ _ _ _ _ _ _ _ _ _ v2 W5 hlt M2 HS3.out
  · obtain rfl : j = Gs.length := by omega
    clear HN
    go_wp2
    exact HX.out _ _ _ _ _ _ _ _ _ _ _ _ _ _ _ _ _ _ _ _ _ _ _ _ _ _ _ _ _ _ _ _ _ _ _ _ _ _ _ _ _ _ _ _ _ _ _ _ _ _ _ _ _ _ _ _ _ _ _ _ _ _ _ _ _ _ _ _ _ _ _ _ _ _ _ _ _ _ _ _ (by trivial)

set_option maxRecDepth 100000 in
set_option maxHeartbeats 4000000 in
theorem outs_loop (w : World) (Gs : List Gp) (hG : Gs.length ≤ 100) (hS : GmS ([] : List Mk) (Gs.map fun g => g.ns.length).sum Gs) (hsum : (Gs.map fun g => g.ns.length).sum ≤ 100) (vg : Value) (Q' : Exit → Act → World → Prop)
    (hexit : ∀ (t0 t1 t2 t3 t4 t5 t6 t7 t8 t9 t10 t11 t13 t14 t15 t16 t17 t18 t19 t20 t21 t22 t23 t24 t25 t26 t27 t28 t29 t30 t31 t32 t33 t34 t35 t36 t37 t38 t39 t40 t41 t42 t43 t44 t45 t46 t47 t48 t49 t50 t51 t52 t53 t54 t55 t56 t57 t58 t59 t60 t61 t62 t63 t64 t65 t66 t70 t71 t72 t73 t74 t75 t76 t77 t78 t79 t80 t81 t82 t83 : Value) (Os : List Rw) (vo : Value) (wr : World), OmM w Gs vg vo Os wr → OmS Gs Gs.length Os → Q' (.exit 4) ⟨#[t0, t1, t2, t3, t4, t5, t6, t7, t8, t9, t10, t11, vo, t13, t14, t15, t16, t17, t18, t19, t20, t21, t22, t23, t24, t25, t26, t27, t28, t29, t30, t31, t32, t33, t34, t35, t36, t37, t38, t39, t40, t41, t42, t43, t44, t45, t46, t47, t48, t49, t50, t51, t52, t53, t54, t55, t56, t57, t58, t59, t60, t61, t62, t63, t64, t65, t66, vg, .int .i64 Gs.length, .int .i64 Gs.length, t70, t71, t72, t73, t74, t75, t76, t77, t78, t79, t80, t81, t82, t83], []⟩ wr) :
    ∀ (f : Nat) (t0 t1 t2 t3 t4 t5 t6 t7 t8 t9 t10 t11 t13 t14 t15 t16 t17 t18 t19 t20 t21 t22 t23 t24 t25 t26 t27 t28 t29 t30 t31 t32 t33 t34 t35 t36 t37 t38 t39 t40 t41 t42 t43 t44 t45 t46 t47 t48 t49 t50 t51 t52 t53 t54 t55 t56 t57 t58 t59 t60 t61 t62 t63 t64 t65 t66 t70 t71 t72 t73 t74 t75 t76 t77 t78 t79 t80 t81 t82 t83 : Value) (j : Nat) (Os : List Rw) (vo : Value) (wr : World), j ≤ Gs.length → Gs.length - j ≤ f → OmM w Gs vg vo Os wr → OmS Gs j Os →
      (bodyOf Tryz.f36 2).loop.wp Tryz.prog Q' ⟨#[t0, t1, t2, t3, t4, t5, t6, t7, t8, t9, t10, t11, vo, t13, t14, t15, t16, t17, t18, t19, t20, t21, t22, t23, t24, t25, t26, t27, t28, t29, t30, t31, t32, t33, t34, t35, t36, t37, t38, t39, t40, t41, t42, t43, t44, t45, t46, t47, t48, t49, t50, t51, t52, t53, t54, t55, t56, t57, t58, t59, t60, t61, t62, t63, t64, t65, t66, vg, .int .i64 Gs.length, .int .i64 j, t70, t71, t72, t73, t74, t75, t76, t77, t78, t79, t80, t81, t82, t83], []⟩ wr := by
  intro f t0 t1 t2 t3 t4 t5 t6 t7 t8 t9 t10 t11 t13 t14 t15 t16 t17 t18 t19 t20 t21 t22 t23 t24 t25 t26 t27 t28 t29 t30 t31 t32 t33 t34 t35 t36 t37 t38 t39 t40 t41 t42 t43 t44 t45 t46 t47 t48 t49 t50 t51 t52 t53 t54 t55 t56 t57 t58 t59 t60 t61 t62 t63 t64 t65 t66 t70 t71 t72 t73 t74 t75 t76 t77 t78 t79 t80 t81 t82 t83 j Os vo wr hj hf M S
  refine wp_loop_rounds (f + 1) ?_
  induction f generalizing j Os vo wr t0 t1 t2 t3 t4 t5 t6 t7 t8 t9 t10 t11 t13 t14 t15 t16 t17 t18 t19 t20 t21 t22 t23 t24 t25 t26 t27 t28 t29 t30 t31 t32 t33 t34 t35 t36 t37 t38 t39 t40 t41 t42 t43 t44 t45 t46 t47 t48 t49 t50 t51 t52 t53 t54 t55 t56 t57 t58 t59 t60 t61 t62 t63 t64 t65 t66 t70 t71 t72 t73 t74 t75 t76 t77 t78 t79 t80 t81 t82 t83 with
  | zero =>
    rw [rounds_succ]
    exact outs_round w Gs hG hS hsum vg vo Os j hj wr M S _ _ (fun t0 t1 t2 t3 t4 t5 t6 t7 t8 t9 t10 t11 t13 t14 t15 t16 t17 t18 t19 t20 t21 t22 t23 t24 t25 t26 t27 t28 t29 t30 t31 t32 t33 t34 t35 t36 t37 t38 t39 t40 t41 t42 t43 t44 t45 t46 t47 t48 t49 t50 t51 t52 t53 t54 t55 t56 t57 t58 t59 t60 t61 t62 t63 t64 t65 t66 t70 t71 t72 t73 t74 t75 t76 t77 t78 t79 t80 t81 t82 t83 Os' vo' wr' hlt => by omega) (fun t0 t1 t2 t3 t4 t5 t6 t7 t8 t9 t10 t11 t13 t14 t15 t16 t17 t18 t19 t20 t21 t22 t23 t24 t25 t26 t27 t28 t29 t30 t31 t32 t33 t34 t35 t36 t37 t38 t39 t40 t41 t42 t43 t44 t45 t46 t47 t48 t49 t50 t51 t52 t53 t54 t55 t56 t57 t58 t59 t60 t61 t62 t63 t64 t65 t66 t70 t71 t72 t73 t74 t75 t76 t77 t78 t79 t80 t81 t82 t83 e => by subst e; exact hexit t0 t1 t2 t3 t4 t5 t6 t7 t8 t9 t10 t11 t13 t14 t15 t16 t17 t18 t19 t20 t21 t22 t23 t24 t25 t26 t27 t28 t29 t30 t31 t32 t33 t34 t35 t36 t37 t38 t39 t40 t41 t42 t43 t44 t45 t46 t47 t48 t49 t50 t51 t52 t53 t54 t55 t56 t57 t58 t59 t60 t61 t62 t63 t64 t65 t66 t70 t71 t72 t73 t74 t75 t76 t77 t78 t79 t80 t81 t82 t83 Os vo wr M S)
  | succ f ih =>
    rw [rounds_succ]
    exact outs_round w Gs hG hS hsum vg vo Os j hj wr M S _ _ (fun t0 t1 t2 t3 t4 t5 t6 t7 t8 t9 t10 t11 t13 t14 t15 t16 t17 t18 t19 t20 t21 t22 t23 t24 t25 t26 t27 t28 t29 t30 t31 t32 t33 t34 t35 t36 t37 t38 t39 t40 t41 t42 t43 t44 t45 t46 t47 t48 t49 t50 t51 t52 t53 t54 t55 t56 t57 t58 t59 t60 t61 t62 t63 t64 t65 t66 t70 t71 t72 t73 t74 t75 t76 t77 t78 t79 t80 t81 t82 t83 Os' vo' wr' hlt hM hS' => ih t0 t1 t2 t3 t4 t5 t6 t7 t8 t9 t10 t11 t13 t14 t15 t16 t17 t18 t19 t20 t21 t22 t23 t24 t25 t26 t27 t28 t29 t30 t31 t32 t33 t34 t35 t36 t37 t38 t39 t40 t41 t42 t43 t44 t45 t46 t47 t48 t49 t50 t51 t52 t53 t54 t55 t56 t57 t58 t59 t60 t61 t62 t63 t64 t65 t66 t70 t71 t72 t73 t74 t75 t76 t77 t78 t79 t80 t81 t82 t83 (j + 1) Os' vo' wr' (by omega) (by omega) hM hS') (fun t0 t1 t2 t3 t4 t5 t6 t7 t8 t9 t10 t11 t13 t14 t15 t16 t17 t18 t19 t20 t21 t22 t23 t24 t25 t26 t27 t28 t29 t30 t31 t32 t33 t34 t35 t36 t37 t38 t39 t40 t41 t42 t43 t44 t45 t46 t47 t48 t49 t50 t51 t52 t53 t54 t55 t56 t57 t58 t59 t60 t61 t62 t63 t64 t65 t66 t70 t71 t72 t73 t74 t75 t76 t77 t78 t79 t80 t81 t82 t83 e => by subst e; exact hexit t0 t1 t2 t3 t4 t5 t6 t7 t8 t9 t10 t11 t13 t14 t15 t16 t17 t18 t19 t20 t21 t22 t23 t24 t25 t26 t27 t28 t29 t30 t31 t32 t33 t34 t35 t36 t37 t38 t39 t40 t41 t42 t43 t44 t45 t46 t47 t48 t49 t50 t51 t52 t53 t54 t55 t56 t57 t58 t59 t60 t61 t62 t63 t64 t65 t66 t70 t71 t72 t73 t74 t75 t76 t77 t78 t79 t80 t81 t82 t83 Os vo wr M S)
end Go.Proofs.YtidgeagpgllkeaaGreat
