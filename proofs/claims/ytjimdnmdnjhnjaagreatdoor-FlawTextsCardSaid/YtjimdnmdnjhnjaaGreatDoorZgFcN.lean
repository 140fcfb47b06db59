/- Grouped: the loops as wholes. Contract: the groups of marks. -/
import Derived.Test.YtjimdnmdnjhnjaaGreatDoorZgFcL
namespace Go.Proofs.YtjimdnmdnjhnjaaGreatDoor
open Go.RowKit Go.Shelf

set_option maxRecDepth 100000 in
set_option maxHeartbeats 4000000 in
theorem marks_loop (w : World) (b3 : Nat) (r : Ru) (hr : RuS r) (l : List Mk) (A : Option Addr) (c B : Nat) (hl : MkOk l A B w) (hB : B ≤ w.heap.size) (hl20 : l.length ≤ 20) (hms : Hid (∀ m ∈ l, MkS m)) (T : List PG) (Q' : Exit → Act → World → Prop)
    (hexit : ∀ (t0 t1 t2 t4 t5 t6 t8 t9 t10 t11 t12 t13 t14 t15 t16 t17 t18 t19 t20 t21 t22 t23 t27 t28 t29 t30 t31 t32 t33 t34 t35 t36 t37 t38 t39 t40 t41 t42 t43 t44 t45 t46 t47 t48 t49 t50 t51 t52 t53 t54 t55 t56 t57 t58 t59 t60 t61 t62 t63 t64 t65 t66 t67 t68 t69 t70 t71 t72 t73 t74 t75 t76 t77 t78 t79 t80 t81 t82 t83 : Value) (Gs : List Gp) (vg : Value) (wr : World), GmM w b3 r Gs vg wr → GmS l l.length Gs → T = Gs.map Gp.p → Q' (.exit 0) ⟨#[t0, t1, t2, .pointer (some ⟨b3, 0, none⟩), t4, t5, t6, vg, t8, t9, t10, t11, t12, t13, t14, t15, t16, t17, t18, t19, t20, t21, t22, t23, .slice A l.length c, .int .i64 l.length, .int .i64 l.length, t27, t28, t29, t30, t31, t32, t33, t34, t35, t36, t37, t38, t39, t40, t41, t42, t43, t44, t45, t46, t47, t48, t49, t50, t51, t52, t53, t54, t55, t56, t57, t58, t59, t60, t61, t62, t63, t64, t65, t66, t67, t68, t69, t70, t71, t72, t73, t74, t75, t76, t77, t78, t79, t80, t81, t82, t83], []⟩ wr) :
    ∀ (f : Nat) (t0 t1 t2 t4 t5 t6 t8 t9 t10 t11 t12 t13 t14 t15 t16 t17 t18 t19 t20 t21 t22 t23 t27 t28 t29 t30 t31 t32 t33 t34 t35 t36 t37 t38 t39 t40 t41 t42 t43 t44 t45 t46 t47 t48 t49 t50 t51 t52 t53 t54 t55 t56 t57 t58 t59 t60 t61 t62 t63 t64 t65 t66 t67 t68 t69 t70 t71 t72 t73 t74 t75 t76 t77 t78 t79 t80 t81 t82 t83 : Value) (i : Nat) (Gs : List Gp) (vg : Value) (wr : World), i ≤ l.length → l.length - i ≤ f → GmM w b3 r Gs vg wr → GmS l i Gs → groupsV r i (l.drop i) (Gs.map Gp.p) = T →
      (bodyOf Tryz.f13 0).loop.wp Tryz.prog Q' ⟨#[t0, t1, t2, .pointer (some ⟨b3, 0, none⟩), t4, t5, t6, vg, t8, t9, t10, t11, t12, t13, t14, t15, t16, t17, t18, t19, t20, t21, t22, t23, .slice A l.length c, .int .i64 l.length, .int .i64 i, t27, t28, t29, t30, t31, t32, t33, t34, t35, t36, t37, t38, t39, t40, t41, t42, t43, t44, t45, t46, t47, t48, t49, t50, t51, t52, t53, t54, t55, t56, t57, t58, t59, t60, t61, t62, t63, t64, t65, t66, t67, t68, t69, t70, t71, t72, t73, t74, t75, t76, t77, t78, t79, t80, t81, t82, t83], []⟩ wr := by
  intro f t0 t1 t2 t4 t5 t6 t8 t9 t10 t11 t12 t13 t14 t15 t16 t17 t18 t19 t20 t21 t22 t23 t27 t28 t29 t30 t31 t32 t33 t34 t35 t36 t37 t38 t39 t40 t41 t42 t43 t44 t45 t46 t47 t48 t49 t50 t51 t52 t53 t54 t55 t56 t57 t58 t59 t60 t61 t62 t63 t64 t65 t66 t67 t68 t69 t70 t71 t72 t73 t74 t75 t76 t77 t78 t79 t80 t81 t82 t83 i Gs vg wr hi hf M S hT
  refine wp_loop_rounds (f + 1) ?_
  induction f generalizing i Gs vg wr t0 t1 t2 t4 t5 t6 t8 t9 t10 t11 t12 t13 t14 t15 t16 t17 t18 t19 t20 t21 t22 t23 t27 t28 t29 t30 t31 t32 t33 t34 t35 t36 t37 t38 t39 t40 t41 t42 t43 t44 t45 t46 t47 t48 t49 t50 t51 t52 t53 t54 t55 t56 t57 t58 t59 t60 t61 t62 t63 t64 t65 t66 t67 t68 t69 t70 t71 t72 t73 t74 t75 t76 t77 t78 t79 t80 t81 t82 t83 with
  | zero =>
    rw [rounds_succ]
    exact marks_round w b3 r hr l A c B hl hB hl20 hms i hi Gs vg wr M S T hT _ _ (fun t0 t1 t2 t4 t5 t6 t8 t9 t10 t11 t12 t13 t14 t15 t16 t17 t18 t19 t20 t21 t22 t23 t27 t28 t29 t30 t31 t32 t33 t34 t35 t36 t37 t38 t39 t40 t41 t42 t43 t44 t45 t46 t47 t48 t49 t50 t51 t52 t53 t54 t55 t56 t57 t58 t59 t60 t61 t62 t63 t64 t65 t66 t67 t68 t69 t70 t71 t72 t73 t74 t75 t76 t77 t78 t79 t80 t81 t82 t83 Gs' vg' wr' hlt => by omega) (fun t0 t1 t2 t4 t5 t6 t8 t9 t10 t11 t12 t13 t14 t15 t16 t17 t18 t19 t20 t21 t22 t23 t27 t28 t29 t30 t31 t32 t33 t34 t35 t36 t37 t38 t39 t40 t41 t42 t43 t44 t45 t46 t47 t48 t49 t50 t51 t52 t53 t54 t55 t56 t57 t58 t59 t60 t61 t62 t63 t64 t65 t66 t67 t68 t69 t70 t71 t72 t73 t74 t75 t76 t77 t78 t79 t80 t81 t82 t83 e hE => by subst e; exact hexit t0 t1 t2 t4 t5 t6 t8 t9 t10 t11 t12 t13 t14 t15 t16 t17 t18 t19 t20 t21 t22 t23 t27 t28 t29 t30 t31 t32 t33 t34 t35 t36 t37 t38 t39 t40 t41 t42 t43 t44 t45 t46 t47 t48 t49 t50 t51 t52 t53 t54 t55 t56 t57 t58 t59 t60 t61 t62 t63 t64 t65 t66 t67 t68 t69 t70 t71 t72 t73 t74 t75 t76 t77 t78 t79 t80 t81 t82 t83 Gs vg wr M S hE)
  | succ f ih =>
    rw [rounds_succ]
    exact marks_round w b3 r hr l A c B hl hB hl20 hms i hi Gs vg wr M S T hT _ _ (fun t0 t1 t2 t4 t5 t6 t8 t9 t10 t11 t12 t13 t14 t15 t16 t17 t18 t19 t20 t21 t22 t23 t27 t28 t29 t30 t31 t32 t33 t34 t35 t36 t37 t38 t39 t40 t41 t42 t43 t44 t45 t46 t47 t48 t49 t50 t51 t52 t53 t54 t55 t56 t57 t58 t59 t60 t61 t62 t63 t64 t65 t66 t67 t68 t69 t70 t71 t72 t73 t74 t75 t76 t77 t78 t79 t80 t81 t82 t83 Gs' vg' wr' hlt hM hS hE => ih t0 t1 t2 t4 t5 t6 t8 t9 t10 t11 t12 t13 t14 t15 t16 t17 t18 t19 t20 t21 t22 t23 t27 t28 t29 t30 t31 t32 t33 t34 t35 t36 t37 t38 t39 t40 t41 t42 t43 t44 t45 t46 t47 t48 t49 t50 t51 t52 t53 t54 t55 t56 t57 t58 t59 t60 t61 t62 t63 t64 t65 t66 t67 t68 t69 t70 t71 t72 t73 t74 t75 t76 t77 t78 t79 t80 t81 t82 t83 (i + 1) Gs' vg' wr' (by omega) (by omega) hM hS hE) (fun t0 t1 t2 t4 t5 t6 t8 t9 t10 t11 t12 t13 t14 t15 t16 t17 t18 t19 t20 t21 t22 t23 t27 t28 t29 t30 t31 t32 t33 t34 t35 t36 t37 t38 t39 t40 t41 t42 t43 t44 t45 t46 t47 t48 t49 t50 t51 t52 t53 t54 t55 t56 t57 t58 t59 t60 t61 t62 t63 t64 t65 t66 t67 t68 t69 t70 t71 t72 t73 t74 t75 t76 t77 t78 t79 t80 t81 t82 t83 e hE => by subst e; exact hexit t0 t1 t2 t4 t5 t6 t8 t9 t10 t11 t12 t13 t14 t15 t16 t17 t18 t19 t20 t21 t22 t23 t27 t28 t29 t30 t31 t32 t33 t34 t35 t36 t37 t38 t39 t40 t41 t42 t43 t44 t45 t46 t47 t48 t49 t50 t51 t52 t53 t54 t55 t56 t57 t58 t59 t60 t61 t62 t63 t64 t65 t66 t67 t68 t69 t70 t71 t72 t73 t74 t75 t76 t77 t78 t79 t80 t81 t82 t83 Gs vg wr M S hE)

/-! ### the loop that sorts the numbers -/
theorem infoSl : (Tryz.prog.info? 57).map (fun i => (i.zero, i.size, i.bytes)) = some (some (.slice none 0 0), 1, 24) := by kernel_rfl
/-- What lies in memory. -/
structure OmM (w : World) (Gs : List Gp) (vg vo : Value) (Os : List Rw) (W : World) : Prop where
  grow : W.ownsRow w.heap.size 106 7 vg Gs.length (gpsC Gs)
  rows : ∀ g ∈ Gs, W.ownsRow w.heap.size 3 1 g.v g.ns.length (intsC g.ns)
  outs : W.ownsRow w.heap.size 57 1 vo Os.length (Os.map rwV)
  each : ∀ q ∈ Os, W.ownsRow w.heap.size 3 1 (rwV q) q.ns.length (intsC q.ns)
  below : Below w.heap.size w W
theorem OmM.gr {w W W' : World} {Gs : List Gp} {vg vo : Value} {Os : List Rw} (h : OmM w Gs vg vo Os W) (hb : Gr W W') : OmM w Gs vg vo Os W' :=
  ⟨own_below h.grow hb, fun g hg => own_below (h.rows g hg) hb, own_below h.outs hb, fun q hq => own_below (h.each q hq) hb, h.below.trans (Below.mono hb (Below.size h.below))⟩
theorem Ints.grow {W W' : World} {sv : Value} {zs : List Int} (h : Ints W.heap.size W sv zs) (hg : Gr W W') : Ints W'.heap.size W' sv zs := by
  rcases Ints.below hg h with h | ⟨b, off, cap, e, hb, hc⟩
  · exact .inl h
  · exact .inr ⟨b, off, cap, e, Nat.lt_of_lt_of_le hb (Below.size hg), hc⟩
theorem cell_one_new (w : World) (x : Value) (t : TypeId) : ∀ j v, [x][j]? = some v → (w.alloc (.cells #[x] t)).cell? ((⟨w.heap.size, 0, none⟩ : Addr).add j) = some v := by
  intro j v hj
  have hb := Blk.new w t #[x]
  match j, hj with
  | 0, hj => simp at hj; subst hj; exact hb.cell 0
  | k + 1, hj => simp at hj
/-- What the rows hold. -/
def OmS (Gs : List Gp) (j : Nat) (Os : List Rw) : Prop := Os.map (·.ns) = (Gs.take j).map fun g => sortV g.ns

set_option maxRecDepth 100000 in
set_option maxHeartbeats 4000000 in
theorem outs_round (w : World) (Gs : List Gp) (hG : Gs.length ≤ 100) (hS : GmS ([] : List Mk) (Gs.map fun g => g.ns.length).sum Gs) (hsum : (Gs.map fun g => g.ns.length).sum ≤ 100) (vg vo : Value) (Os : List Rw) (j : Nat) (hj : j ≤ Gs.length) (wr : World) (M : OmM w Gs vg vo Os wr) (S : OmS Gs j Os)
    (K' : Act → World → Prop) (Q' : Exit → Act → World → Prop) {t0 t1 t2 t3 t4 t5 t6 t7 t8 t9 t10 t11 t13 t14 t15 t16 t17 t18 t19 t20 t21 t22 t23 t24 t25 t26 t27 t28 t29 t30 t31 t32 t33 t34 t35 t36 t37 t38 t39 t40 t41 t42 t43 t44 t45 t46 t47 t48 t49 t50 t51 t52 t53 t54 t55 t56 t57 t58 t59 t60 t61 t62 t63 t64 t65 t66 t70 t71 t72 t73 t74 t75 t76 t77 t78 t79 t80 t81 t82 t83 : Value}
    (hnext : ∀ (t0 t1 t2 t3 t4 t5 t6 t7 t8 t9 t10 t11 t13 t14 t15 t16 t17 t18 t19 t20 t21 t22 t23 t24 t25 t26 t27 t28 t29 t30 t31 t32 t33 t34 t35 t36 t37 t38 t39 t40 t41 t42 t43 t44 t45 t46 t47 t48 t49 t50 t51 t52 t53 t54 t55 t56 t57 t58 t59 t60 t61 t62 t63 t64 t65 t66 t70 t71 t72 t73 t74 t75 t76 t77 t78 t79 t80 t81 t82 t83 : Value) (Os' : List Rw) (vo' : Value) (wr' : World), j < Gs.length → OmM w Gs vg vo' Os' wr' → OmS Gs (j + 1) Os' →
      K' ⟨#[t0, t1, t2, t3, t4, t5, t6, t7, t8, t9, t10, t11, vo', t13, t14, t15, t16, t17, t18, t19, t20, t21, t22, t23, t24, t25, t26, t27, t28, t29, t30, t31, t32, t33, t34, t35, t36, t37, t38, t39, t40, t41, t42, t43, t44, t45, t46, t47, t48, t49, t50, t51, t52, t53, t54, t55, t56, t57, t58, t59, t60, t61, t62, t63, t64, t65, t66, vg, .int .i64 Gs.length, .int .i64 ((j : Int) + 1), t70, t71, t72, t73, t74, t75, t76, t77, t78, t79, t80, t81, t82, t83], []⟩ wr')
    (hexit : ∀ (t0 t1 t2 t3 t4 t5 t6 t7 t8 t9 t10 t11 t13 t14 t15 t16 t17 t18 t19 t20 t21 t22 t23 t24 t25 t26 t27 t28 t29 t30 t31 t32 t33 t34 t35 t36 t37 t38 t39 t40 t41 t42 t43 t44 t45 t46 t47 t48 t49 t50 t51 t52 t53 t54 t55 t56 t57 t58 t59 t60 t61 t62 t63 t64 t65 t66 t70 t71 t72 t73 t74 t75 t76 t77 t78 t79 t80 t81 t82 t83 : Value), j = Gs.length → Q' (.exit 4) ⟨#[t0, t1, t2, t3, t4, t5, t6, t7, t8, t9, t10, t11, vo, t13, t14, t15, t16, t17, t18, t19, t20, t21, t22, t23, t24, t25, t26, t27, t28, t29, t30, t31, t32, t33, t34, t35, t36, t37, t38, t39, t40, t41, t42, t43, t44, t45, t46, t47, t48, t49, t50, t51, t52, t53, t54, t55, t56, t57, t58, t59, t60, t61, t62, t63, t64, t65, t66, vg, .int .i64 Gs.length, .int .i64 j, t70, t71, t72, t73, t74, t75, t76, t77, t78, t79, t80, t81, t82, t83], []⟩ wr) :
    (bodyOf Tryz.f13 2).wp Tryz.prog (Exit.then K' Q') ⟨#[t0, t1, t2, t3, t4, t5, t6, t7, t8, t9, t10, t11, vo, t13, t14, t15, t16, t17, t18, t19, t20, t21, t22, t23, t24, t25, t26, t27, t28, t29, t30, t31, t32, t33, t34, t35, t36, t37, t38, t39, t40, t41, t42, t43, t44, t45, t46, t47, t48, t49, t50, t51, t52, t53, t54, t55, t56, t57, t58, t59, t60, t61, t62, t63, t64, t65, t66, vg, .int .i64 Gs.length, .int .i64 j, t70, t71, t72, t73, t74, t75, t76, t77, t78, t79, t80, t81, t82, t83], []⟩ wr := by
  have HN := Lib.hid hnext; have HX := Lib.hid hexit
  clear hnext hexit
  conv in (bodyOf _ _) => whnf
  try dsimp only
  by_cases hlt : j < Gs.length
  · clear HX
    have hgm := List.getElem_mem hlt
    have hns := hS.each _ hgm
    have hB0 := Below.size M.below
    obtain ⟨gk, ck, hvk, _, hgk⟩ := (M.rows _ hgm).form (hS.each _ hgm)
    have hrk := M.rows _ hgm
    have hnl : Gs[j].ns.length ≤ 100 := by have := mem_le_sum (List.mem_map_of_mem (f := fun g : Gp => g.ns.length) hgm); omega
    have hS2 : ∀ b cp, OmS Gs (j + 1) (Os ++ [⟨b, cp, sortV Gs[j].ns⟩]) := fun b cp => by
      unfold OmS at *
      rw [List.map_append, S, List.take_succ_eq_append_getElem hlt, List.map_append]; rfl
    have hOl : Os.length = j := by have := congrArg List.length S; simpa [Nat.min_eq_left hj] using this
    obtain ⟨gg, capg, hvg, _, hgl⟩ := M.grow.form (by omega)
    subst hvg
    have hR : Row wr wr.heap.size 7 (some ⟨gg, 0, none⟩) Gs.length (gpsC Gs) := by
      refine ⟨gpsC_length _, fun _ => ⟨gg, 0, rfl, hgl, fun j u hj => ?_⟩⟩
      have := M.grow.cells (g := gg) rfl j u hj
      rw [Nat.zero_add]
      rwa [Addr.add_lit, Nat.zero_add] at this
    obtain ⟨g', o', hA', _, c0, c1, c2, c3, c4, c5, c6⟩ := gpCells hR hlt
    injection hA' with hA'
    injection hA' with e1 e2
    subst e1; subst e2
    clear hR
    simp only [Nat.zero_add] at c0 c1 c2 c3 c4 c5 c6
    rw [hvk] at c0 hrk
    generalize Gs[j].ns = ns at *
    generalize Gs[j].m = m at *
    have hjI : (j : Int) < (Gs.length : Int) := by omega
    have hj0 : (0 : Int) ≤ (j : Int) := by omega
    have hI : Ints wr.heap.size wr (.slice (some ⟨gk, 0, none⟩) ns.length ck) ns := .inr ⟨gk, 0, ck, rfl, hgk, fun t ht => by
      have := hrk.cells (g := gk) rfl t (.int .i64 (ns[t]?.getD 0)) (by simp [intsC, ht])
      rwa [Addr.add_lit] at this⟩
    go_wp2_with fail
    refine (values_any _ _ _ _).mono ?_
    rintro e w1 ⟨rfl, rfl⟩
    have hgr : Gr wr ((wr.alloc (.cells (gpA (.slice (some ⟨gk, 0, none⟩) ns.length ck) m) 106)).alloc (.cells #[.slice (some ⟨gk, 0, none⟩) ns.length ck] 57)) := show Below wr.heap.size wr _ from (by repeat (first | (with_reducible exact Below.refl _ _) | (with_reducible assumption) | ((with_reducible refine Below.setCell ?_ ?_ _); rotate_left; · (first | exact Nat.le_refl _ | (simp; done) | (simp; omega) | omega)) | ((with_reducible refine Below.alloc ?_ ?_ _); rotate_left; · (first | exact Nat.le_refl _ | (simp; done) | (simp; omega) | omega)) | (with_reducible apply Below.drew) | (with_reducible apply below_drewN') | (refine Below.trans ?_ (Below.mono (by assumption) (by first | exact Nat.le_refl _ | (simp; done) | (simp; omega) | omega))) | exact Below.refl _ _ | assumption))
    have hbx := Blk.new (wr.alloc (.cells (gpA (.slice (some ⟨gk, 0, none⟩) ns.length ck) m) 106)) 57 #[.slice (some ⟨gk, 0, none⟩) ns.length ck]
    rw [World.size_alloc] at hbx
    have hI2 := Ints.grow hI hgr
    replace M := M.gr hgr
    clear hI hrk c0 c1 c2 c3 c4 c5 c6
    go_wp2_with fail
    refine (sorted_any (wr.heap.size + 1) (.slice (some ⟨gk, 0, none⟩) ns.length ck) ns (by omega) _ hbx.lt (hbx.cell 0) hI2).mono ?_
    rintro e w3 ⟨v, rfl, hrow, hB3⟩
    replace M := M.gr hB3
    obtain ⟨bv, cv, rfl, _, _⟩ := hrow.form hns
    have hbz := Below.size M.below
    have hrow2 := hrow.mono (base' := w.heap.size) (by simp only [World.size_alloc]; have := hB0; omega)
    obtain ⟨i0, hi0, hz0, hz1, hz2⟩ := info_parts infoSl
    have hOo := M.outs.alloc (.cells #[.slice (some ⟨bv, 0, none⟩) ns.length cv] 57)
    have HS3 := Lib.hid (hS2 bv cv)
    clear hS2 hrow hI2 hbx
    go_wp2_with (at_builtin; refine wpList_append_own _ rfl _ _ 46 rfl w.heap.size 57 i0 _ 1 24 Tryz.underlying46 hi0 hz0 hz1 hz2 rfl (by decide) _ _ _ rfl hOo ⟨w3.heap.size, 0, none⟩ 1 1 [.slice (some ⟨bv, 0, none⟩) ns.length cv] rfl rfl (cell_one_new _ _ _) (by simp [Value.oneCell']) (by unfold maxLen; omega) (by omega) (by simp; omega) ?_; intro v2 W5 hown' hgrow _)
    have hsl := sortV_length ns
    have hnew : W5.ownsRow w.heap.size 3 1 (rwV ⟨bv, cv, sortV ns⟩) (sortV ns).length (intsC (sortV ns)) := by
      unfold rwV
      rw [hsl]
      exact (hrow2.alloc _).kept hgrow (own_two (hrow2.alloc _) hOo (by decide))
    have M2 : OmM w Gs (.slice (some ⟨gg, 0, none⟩) Gs.length capg) v2 (Os ++ [⟨bv, cv, sortV ns⟩]) W5 :=
      ⟨(M.grow.alloc _).kept hgrow (own_two (M.grow.alloc _) hOo (by decide)), fun g hg => ((M.rows g hg).alloc _).kept hgrow (own_two ((M.rows g hg).alloc _) hOo (by decide)),
        by rw [List.length_append, List.map_append]
           have e : [(⟨bv, cv, sortV ns⟩ : Rw)].map rwV = [.slice (some ⟨bv, 0, none⟩) ns.length cv] := by simp [rwV, hsl]
           rw [e]; exact hown',
        fun q hq => by
          rcases List.mem_append.1 hq with hq | hq
          · exact ((M.each q hq).alloc _).kept hgrow (own_two ((M.each q hq).alloc _) hOo (by decide))
          · rw [List.mem_singleton] at hq; subst hq; exact hnew,
        below_own (M.below.alloc hbz _) (Nat.le_refl _) hOo hgrow⟩
    exact HN.out _ _ _ _ _ _ _ _ _ _ _ _ _ _ _ _ _ _ _ _ _ _ _ _ _ _ _ _ _ _ _ _ _ _ _ _ _ _ _ _ _ _ _ _ _ _ _ _ _ _ _ _ _ _ _ _ _ _ _ _ _ _ _ _ _ _ _ _ _ _ _ _ _ _ _ _ _ _ _ _ _ v2 W5 hlt M2 HS3.out
  · obtain rfl : j = Gs.length := by omega
    clear HN
    go_wp2
    exact HX.out _ _ _ _ _ _ _ _ _ _ _ _ _ _ _ _ _ _ _ _ _ _ _ _ _ _ _ _ _ _ _ _ _ _ _ _ _ _ _ _ _ _ _ _ _ _ _ _ _ _ _ _ _ _ _ _ _ _ _ _ _ _ _ _ _ _ _ _ _ _ _ _ _ _ _ _ _ _ _ _ (by trivial)

set_option maxRecDepth 100000 in
set_option maxHeartbeats 4000000 in
theorem outs_loop (w : World) (Gs : List Gp) (hG : Gs.length ≤ 100) (hS : GmS ([] : List Mk) (Gs.map fun g => g.ns.length).sum Gs) (hsum : (Gs.map fun g => g.ns.length).sum ≤ 100) (vg : Value) (Q' : Exit → Act → World → Prop)
    (hexit : ∀ (t0 t1 t2 t3 t4 t5 t6 t7 t8 t9 t10 t11 t13 t14 t15 t16 t17 t18 t19 t20 t21 t22 t23 t24 t25 t26 t27 t28 t29 t30 t31 t32 t33 t34 t35 t36 t37 t38 t39 t40 t41 t42 t43 t44 t45 t46 t47 t48 t49 t50 t51 t52 t53 t54 t55 t56 t57 t58 t59 t60 t61 t62 t63 t64 t65 t66 t70 t71 t72 t73 t74 t75 t76 t77 t78 t79 t80 t81 t82 t83 : Value) (Os : List Rw) (vo : Value) (wr : World), OmM w Gs vg vo Os wr → OmS Gs Gs.length Os → Q' (.exit 4) ⟨#[t0, t1, t2, t3, t4, t5, t6, t7, t8, t9, t10, t11, vo, t13, t14, t15, t16, t17, t18, t19, t20, t21, t22, t23, t24, t25, t26, t27, t28, t29, t30, t31, t32, t33, t34, t35, t36, t37, t38, t39, t40, t41, t42, t43, t44, t45, t46, t47, t48, t49, t50, t51, t52, t53, t54, t55, t56, t57, t58, t59, t60, t61, t62, t63, t64, t65, t66, vg, .int .i64 Gs.length, .int .i64 Gs.length, t70, t71, t72, t73, t74, t75, t76, t77, t78, t79, t80, t81, t82, t83], []⟩ wr) :
    ∀ (f : Nat) (t0 t1 t2 t3 t4 t5 t6 t7 t8 t9 t10 t11 t13 t14 t15 t16 t17 t18 t19 t20 t21 t22 t23 t24 t25 t26 t27 t28 t29 t30 t31 t32 t33 t34 t35 t36 t37 t38 t39 t40 t41 t42 t43 t44 t45 t46 t47 t48 t49 t50 t51 t52 t53 t54 t55 t56 t57 t58 t59 t60 t61 t62 t63 t64 t65 t66 t70 t71 t72 t73 t74 t75 t76 t77 t78 t79 t80 t81 t82 t83 : Value) (j : Nat) (Os : List Rw) (vo : Value) (wr : World), j ≤ Gs.length → Gs.length - j ≤ f → OmM w Gs vg vo Os wr → OmS Gs j Os →
      (bodyOf Tryz.f13 2).loop.wp Tryz.prog Q' ⟨#[t0, t1, t2, t3, t4, t5, t6, t7, t8, t9, t10, t11, vo, t13, t14, t15, t16, t17, t18, t19, t20, t21, t22, t23, t24, t25, t26, t27, t28, t29, t30, t31, t32, t33, t34, t35, t36, t37, t38, t39, t40, t41, t42, t43, t44, t45, t46, t47, t48, t49, t50, t51, t52, t53, t54, t55, t56, t57, t58, t59, t60, t61, t62, t63, t64, t65, t66, vg, .int .i64 Gs.length, .int .i64 j, t70, t71, t72, t73, t74, t75, t76, t77, t78, t79, t80, t81, t82, t83], []⟩ wr := by
  intro f t0 t1 t2 t3 t4 t5 t6 t7 t8 t9 t10 t11 t13 t14 t15 t16 t17 t18 t19 t20 t21 t22 t23 t24 t25 t26 t27 t28 t29 t30 t31 t32 t33 t34 t35 t36 t37 t38 t39 t40 t41 t42 t43 t44 t45 t46 t47 t48 t49 t50 t51 t52 t53 t54 t55 t56 t57 t58 t59 t60 t61 t62 t63 t64 t65 t66 t70 t71 t72 t73 t74 t75 t76 t77 t78 t79 t80 t81 t82 t83 j Os vo wr hj hf M S
  refine wp_loop_rounds (f + 1) ?_
  induction f generalizing j Os vo wr t0 t1 t2 t3 t4 t5 t6 t7 t8 t9 t10 t11 t13 t14 t15 t16 t17 t18 t19 t20 t21 t22 t23 t24 t25 t26 t27 t28 t29 t30 t31 t32 t33 t34 t35 t36 t37 t38 t39 t40 t41 t42 t43 t44 t45 t46 t47 t48 t49 t50 t51 t52 t53 t54 t55 t56 t57 t58 t59 t60 t61 t62 t63 t64 t65 t66 t70 t71 t72 t73 t74 t75 t76 t77 t78 t79 t80 t81 t82 t83 with
  | zero =>
    rw [rounds_succ]
    exact outs_round w Gs hG hS hsum vg vo Os j hj wr M S _ _ (fun t0 t1 t2 t3 t4 t5 t6 t7 t8 t9 t10 t11 t13 t14 t15 t16 t17 t18 t19 t20 t21 t22 t23 t24 t25 t26 t27 t28 t29 t30 t31 t32 t33 t34 t35 t36 t37 t38 t39 t40 t41 t42 t43 t44 t45 t46 t47 t48 t49 t50 t51 t52 t53 t54 t55 t56 t57 t58 t59 t60 t61 t62 t63 t64 t65 t66 t70 t71 t72 t73 t74 t75 t76 t77 t78 t79 t80 t81 t82 t83 Os' vo' wr' hlt => by omega) (fun t0 t1 t2 t3 t4 t5 t6 t7 t8 t9 t10 t11 t13 t14 t15 t16 t17 t18 t19 t20 t21 t22 t23 t24 t25 t26 t27 t28 t29 t30 t31 t32 t33 t34 t35 t36 t37 t38 t39 t40 t41 t42 t43 t44 t45 t46 t47 t48 t49 t50 t51 t52 t53 t54 t55 t56 t57 t58 t59 t60 t61 t62 t63 t64 t65 t66 t70 t71 t72 t73 t74 t75 t76 t77 t78 t79 t80 t81 t82 t83 e => by subst e; exact hexit t0 t1 t2 t3 t4 t5 t6 t7 t8 t9 t10 t11 t13 t14 t15 t16 t17 t18 t19 t20 t21 t22 t23 t24 t25 t26 t27 t28 t29 t30 t31 t32 t33 t34 t35 t36 t37 t38 t39 t40 t41 t42 t43 t44 t45 t46 t47 t48 t49 t50 t51 t52 t53 t54 t55 t56 t57 t58 t59 t60 t61 t62 t63 t64 t65 t66 t70 t71 t72 t73 t74 t75 t76 t77 t78 t79 t80 t81 t82 t83 Os vo wr M S)
  | succ f ih =>
    rw [rounds_succ]
    exact outs_round w Gs hG hS hsum vg vo Os j hj wr M S _ _ (fun t0 t1 t2 t3 t4 t5 t6 t7 t8 t9 t10 t11 t13 t14 t15 t16 t17 t18 t19 t20 t21 t22 t23 t24 t25 t26 t27 t28 t29 t30 t31 t32 t33 t34 t35 t36 t37 t38 t39 t40 t41 t42 t43 t44 t45 t46 t47 t48 t49 t50 t51 t52 t53 t54 t55 t56 t57 t58 t59 t60 t61 t62 t63 t64 t65 t66 t70 t71 t72 t73 t74 t75 t76 t77 t78 t79 t80 t81 t82 t83 Os' vo' wr' hlt hM hS' => ih t0 t1 t2 t3 t4 t5 t6 t7 t8 t9 t10 t11 t13 t14 t15 t16 t17 t18 t19 t20 t21 t22 t23 t24 t25 t26 t27 t28 t29 t30 t31 t32 t33 t34 t35 t36 t37 t38 t39 t40 t41 t42 t43 t44 t45 t46 t47 t48 t49 t50 t51 t52 t53 t54 t55 t56 t57 t58 t59 t60 t61 t62 t63 t64 t65 t66 t70 t71 t72 t73 t74 t75 t76 t77 t78 t79 t80 t81 t82 t83 (j + 1) Os' vo' wr' (by omega) (by omega) hM hS') (fun t0 t1 t2 t3 t4 t5 t6 t7 t8 t9 t10 t11 t13 t14 t15 t16 t17 t18 t19 t20 t21 t22 t23 t24 t25 t26 t27 t28 t29 t30 t31 t32 t33 t34 t35 t36 t37 t38 t39 t40 t41 t42 t43 t44 t45 t46 t47 t48 t49 t50 t51 t52 t53 t54 t55 t56 t57 t58 t59 t60 t61 t62 t63 t64 t65 t66 t70 t71 t72 t73 t74 t75 t76 t77 t78 t79 t80 t81 t82 t83 e => by subst e; exact hexit t0 t1 t2 t3 t4 t5 t6 t7 t8 t9 t10 t11 t13 t14 t15 t16 t17 t18 t19 t20 t21 t22 t23 t24 t25 t26 t27 t28 t29 t30 t31 t32 t33 t34 t35 t36 t37 t38 t39 t40 t41 t42 t43 t44 t45 t46 t47 t48 t49 t50 t51 t52 t53 t54 t55 t56 t57 t58 t59 t60 t61 t62 t63 t64 t65 t66 t70 t71 t72 t73 t74 t75 t76 t77 t78 t79 t80 t81 t82 t83 Os vo wr M S)
end Go.Proofs.YtjimdnmdnjhnjaaGreatDoor

namespace Go.Proofs.YtjimdnmdnjhnjaaGreatDoor
open Go.RowKit Go.Shelf

theorem marksE_zero {l : List Mk} (h : (marksE l).2 = 0) : l.length ≤ 20 ∧ MarksTo l l.length := by
  have h20 : l.length ≤ 20 := by
    rcases Nat.lt_or_ge 20 l.length with h1 | h1
    · unfold marksE at h; rw [if_pos h1] at h; cases h
    · exact h1
  refine ⟨h20, ?_⟩
  have key : ∀ k, k ≤ l.length → MarksTo l k := by
    intro k
    induction k with
    | zero => intro _ j hj hjk; omega
    | succ k ih =>
      intro hk
      have hT := ih (by omega)
      have hkl : k < l.length := by omega
      by_cases he : markE l[k] = 0
      · cases hs : (l.take k).any (fun p => sameB p.nm l[k].nm)
        · exact hT.step hkl he hs
        · have := marksE_twice h20 hkl hT he hs
          rw [this] at h; cases h
      · have := marksE_bad h20 hkl hT he
        rw [this] at h; exact absurd h he
  exact key _ (Nat.le_refl _)
theorem markE_zero {m : Mk} (h : markE m = 0) : MkS m ∧ nameB m.nm = true ∧ m.al ≤ m.ah ∧ m.dl ≤ m.dh ∧ 0 ≤ m.lv ∧ m.lv ≤ 1000000000 := by
  have h0 := (firstE_zero _).1 h
  have h1 := unlessE_zero (by decide) (h0 (unlessE (nameB m.nm) 4) (by simp))
  have h2 := unlessE_zero (by decide) (h0 (unlessE (endsB m) 2) (by simp))
  have h3 := unlessE_zero (by decide) (h0 (unlessE (ordB m) 9) (by simp))
  have h4 := unlessE_zero (b := wi m.lv 0 1000000000) (by decide) (h0 (levelE m.lv) (by simp))
  unfold endsB at h2
  unfold ordB at h3
  simp [wi] at h2 h3 h4
  refine ⟨⟨?_, ?_, ?_, ?_⟩, h1, h3.1, h3.2, h4.1, h4.2⟩ <;> (unfold Sm; omega)
theorem ruleE_zero {r : Ru} (h : ruleE r = 0) : RuS r := by
  unfold ruleE at h
  cases h1 : wi r.along 0 100000 <;> rw [h1] at h
  · simp at h
  cases h2 : wi r.down 0 100000 <;> rw [h2] at h
  · simp at h
  cases h3 : lowB r.num r.den <;> rw [h3] at h
  · simp at h
  have hd : 0 < r.den := by unfold lowB at h3; simp at h3; exact h3.1
  by_cases g0 : r.num < 0 ∨ 100 < r.den ∨ 4 * r.den < r.num
  · exfalso
    rcases g0 with g | g | g <;> simp [g] at h
  · simp [wi] at h1 h2
    exact ⟨h1, h2, by omega, by omega⟩

/-- The error of marks and of a rule. -/
def groupedE (l : List Mk) (r : Ru) : Int := firstE [(marksE l).2, ruleE r]

set_option maxRecDepth 100000 in
set_option maxHeartbeats 4000000 in
theorem grouped_ok (l : List Mk) (A : Option Addr) (c B : Nat) (r : Ru) (w : World) (hl : MkOk l A B w) (hcap : l.length ≤ c) (hB : B ≤ w.heap.size) (hn : W64 r.num) (hd' : W64 r.den) (he : groupedE l r = 0) :
    Calls Tryz.prog 13 #[.slice A l.length c, .agg (ruC r)] w fun e w' => ∃ (v : Value) (Ds : List Rw), e = .returned (.tuple #[v, .int .i64 0]) ∧ (Ds.map (·.ns)).Perm ((groupsV r 0 l []).map fun g => sortV g.1) ∧ Ds.Pairwise (fun x y => hd x ≤ hd y) ∧
      w'.ownsRow w.heap.size 57 1 v Ds.length (Ds.map rwV) ∧ (∀ q ∈ Ds, w'.ownsRow w.heap.size 3 1 (rwV q) q.ns.length (intsC q.ns)) ∧ Below w.heap.size w w' := by
  have hz := (firstE_zero _).1 he
  have z1 : (marksE l).2 = 0 := hz _ (by simp)
  have z2 : ruleE r = 0 := hz _ (by simp)
  obtain ⟨h20, hT⟩ := marksE_zero z1
  have hrs := ruleE_zero z2
  have hms : Hid (∀ m ∈ l, MkS m) := Lib.hid (fun m hm => by
    obtain ⟨k, hk, rfl⟩ := List.getElem_of_mem hm
    exact (markE_zero (hT k hk hk).1).1)
  have Z1 := Lib.hid z1; have Z2 := Lib.hid z2
  clear z1 z2 he hz hT
  have b3 := Blk.new w 55 (ruC r)
  have hBB : Below w.heap.size w (w.alloc (.cells (ruC r) 55)) := (by repeat (first | (with_reducible exact Below.refl _ _) | (with_reducible assumption) | ((with_reducible refine Below.setCell ?_ ?_ _); rotate_left; · (first | exact Nat.le_refl _ | (simp; done) | (simp; omega) | omega)) | ((with_reducible refine Below.alloc ?_ ?_ _); rotate_left; · (first | exact Nat.le_refl _ | (simp; done) | (simp; omega) | omega)) | (with_reducible apply Below.drew) | (with_reducible apply below_drewN') | (refine Below.trans ?_ (Below.mono (by assumption) (by first | exact Nat.le_refl _ | (simp; done) | (simp; omega) | omega))) | exact Below.refl _ _ | assumption))
  go_enter Tryz.func13, Tryz.ntmps13
  go_wp2_with fail
  obtain ⟨W, hW⟩ : ∃ W, w.alloc (.cells (ruC r) 55) = W := ⟨_, rfl⟩
  rw [hW] at b3 hBB ⊢
  have hzW : w.heap.size < W.heap.size := b3.lt
  clear hW
  have hlW := Lib.hid (hl.below hBB hB)
  have l_b3 := b3.lt
  obtain ⟨c0, c1, c2, c3, f3⟩ := blk4 b3
  refine wp_region_b 4 (by kernel_rfl) (by kernel_rfl) ?_; simp only [List.take, List.drop]
  repeat (first
    | (apply StepsD.run
       · go_simp
         done
       · intro w' hS K hK
         have hc := (bcell hS).1
         have hf := (bcell hS).2
         have hz := hS.size
         try simp at hz
         go_simp
         try go_bits
         first
           | exact hK _ hS
           | (go_at_call 42; (with_reducible refine (listErr_any l A c B _ (hlW.out.below hS (by omega)) hcap (by omega) |>.mono ?_)); rw [Z1.out]; rintro e w1 ⟨rfl, hB1⟩; obtain ⟨hc1, hf1⟩ := bcell hB1; have hz1 := hB1.size; (try simp at hz1); exact hK _ (Below.trans hS (Below.mono hB1 (by first | exact Nat.le_refl _ | (simp; done) | (simp; omega) | omega))))
           | (go_at_call 43; (with_reducible refine (checkRule_any r hn hd' _).mono ?_); rw [Z2.out]; rintro e w1 ⟨rfl, hB1⟩; obtain ⟨hc1, hf1⟩ := bcell hB1; have hz1 := hB1.size; (try simp at hz1); exact hK _ (Below.trans hS (Below.mono hB1 (by first | exact Nat.le_refl _ | (simp; done) | (simp; omega) | omega))))
           | exact hK _ (by repeat (first | (with_reducible exact Below.refl _ _) | (with_reducible assumption) | ((with_reducible refine Below.setCell ?_ ?_ _); rotate_left; · (first | exact Nat.le_refl _ | (simp; done) | (simp; omega) | omega)) | ((with_reducible refine Below.alloc ?_ ?_ _); rotate_left; · (first | exact Nat.le_refl _ | (simp; done) | (simp; omega) | omega)) | (with_reducible apply Below.drew) | (with_reducible apply below_drewN') | (refine Below.trans ?_ (Below.mono (by assumption) (by first | exact Nat.le_refl _ | (simp; done) | (simp; omega) | omega))) | exact Below.refl _ _ | assumption))
       · simp [Act.put]
         done)
    | (apply StepsD.pass
       · go_simp
         done
       · simp only [Act.put, List.setIfInBounds_toArray, List.set_cons_succ, List.set_cons_zero]
         rfl))
  refine StepsD.done ?_
  intro w1 hS
  replace b3 := b3.gr hS
  replace hBB := hBB.trans (Below.mono hS (Below.size hBB))
  clear hS
  clear l_b3 c0 c1 c2 c3 f3
  have l_b3 := b3.lt
  obtain ⟨c0, c1, c2, c3, f3⟩ := blk4 b3
  have HGE : Hid (firstE [0, 0] = 0) := Lib.hid rfl
  go_wp2_with fail
  refine (first2_any _ _ _ _).mono ?_
  rw [HGE.out]
  rintro e wc1 ⟨rfl, hBc1⟩
  replace b3 := b3.gr hBc1
  replace hBB := hBB.trans (Below.mono hBc1 (Below.size hBB))
  clear hBc1
  clear l_b3 c0 c1 c2 c3 f3
  have l_b3 := b3.lt
  obtain ⟨c0, c1, c2, c3, f3⟩ := blk4 b3
  have M0 : GmM w w.heap.size r [] (.slice none 0 0) wc1 := ⟨b3, World.ownsRow_nil _ _ _ _, by simp, hBB⟩
  have S0 : GmS l 0 ([] : List Gp) := ⟨by simp, by simp, rfl⟩
  clear b3 l_b3 c0 c1 c2 c3 f3 hBB hlW
  go_wp2_with fail
  refine marks_loop w w.heap.size r hrs l A c B hl hB h20 hms _ _ ?_ l.length _ _ _ _ _ _ _ _ _ _ _ _ _ _ _ _ _ _ _ _ _ _ _ _ _ _ _ _ _ _ _ _ _ _ _ _ _ _ _ _ _ _ _ _ _ _ _ _ _ _ _ _ _ _ _ _ _ _ _ _ _ _ _ _ _ _ _ _ _ _ _ _ _ _ _ _ _ _ _ 0 [] _ _ (Nat.zero_le _) (by omega) M0 S0 rfl
  clear M0 S0
  intro t0 t1 t2 t4 t5 t6 t8 t9 t10 t11 t12 t13 t14 t15 t16 t17 t18 t19 t20 t21 t22 t23 t27 t28 t29 t30 t31 t32 t33 t34 t35 t36 t37 t38 t39 t40 t41 t42 t43 t44 t45 t46 t47 t48 t49 t50 t51 t52 t53 t54 t55 t56 t57 t58 t59 t60 t61 t62 t63 t64 t65 t66 t67 t68 t69 t70 t71 t72 t73 t74 t75 t76 t77 t78 t79 t80 t81 t82 t83 Gs vg wr M S hTG
  try dsimp only
  have HTG := Lib.hid hTG
  clear hTG
  have hGl := S.len
  have hsum : (Gs.map fun g => g.ns.length).sum ≤ 100 := by rw [S.cnt]; omega
  have hSe : GmS ([] : List Mk) (Gs.map fun g => g.ns.length).sum Gs := ⟨S.each, S.ms, rfl⟩
  obtain ⟨Ag, cg, rfl⟩ : ∃ Ag cg, vg = .slice Ag Gs.length cg := by
    rcases M.grow.2 with ⟨rfl, h0⟩ | ⟨g, cap, cur, rfl, _⟩
    · exact ⟨none, 0, by rw [h0]⟩
    · exact ⟨_, _, rfl⟩
  have MO : OmM w Gs (.slice Ag Gs.length cg) (.slice none 0 0) [] wr := ⟨M.grow, M.rows, World.ownsRow_nil _ _ _ _, by simp, M.below⟩
  have hSE := Lib.hid S.each
  clear M S
  go_wp2_with fail
  refine outs_loop w Gs (by omega) hSe hsum _ _ ?_ Gs.length _ _ _ _ _ _ _ _ _ _ _ _ _ _ _ _ _ _ _ _ _ _ _ _ _ _ _ _ _ _ _ _ _ _ _ _ _ _ _ _ _ _ _ _ _ _ _ _ _ _ _ _ _ _ _ _ _ _ _ _ _ _ _ _ _ _ _ _ _ _ _ _ _ _ _ _ _ _ _ _ 0 [] _ _ (Nat.zero_le _) (by omega) MO rfl
  clear MO
  intro t0 t1 t2 t3 t4 t5 t6 t7 t8 t9 t10 t11 t13 t14 t15 t16 t17 t18 t19 t20 t21 t22 t23 t24 t25 t26 t27 t28 t29 t30 t31 t32 t33 t34 t35 t36 t37 t38 t39 t40 t41 t42 t43 t44 t45 t46 t47 t48 t49 t50 t51 t52 t53 t54 t55 t56 t57 t58 t59 t60 t61 t62 t63 t64 t65 t66 t70 t71 t72 t73 t74 t75 t76 t77 t78 t79 t80 t81 t82 t83 Os vo w2 M S2
  try dsimp only
  have hmap : Hid ((Os.map (·.ns)).Perm ((groupsV r 0 l []).map fun g => sortV g.1)) := Lib.hid (by
    have e : Os.map (·.ns) = Gs.map fun g => sortV g.ns := by have := S2; unfold OmS at this; rwa [List.take_length] at this
    have e2 : groupsV r 0 l [] = Gs.map Gp.p := HTG.out
    rw [e, e2, List.map_map]
    exact List.Perm.refl _)
  have hpos : Hid (∀ q ∈ Os, 0 < q.ns.length) := Lib.hid (fun q hq => by
    have e : Os.map (·.ns) = Gs.map fun g => sortV g.ns := by have := S2; unfold OmS at this; rwa [List.take_length] at this
    have hq' : q.ns ∈ Os.map (·.ns) := List.mem_map_of_mem (f := (·.ns)) hq
    rw [e] at hq'
    obtain ⟨g, hg, e3⟩ := List.mem_map.1 hq'
    rw [← e3, sortV_length]; exact hSE.out g hg)
  have hOl : Os.length ≤ 100 := by
    have := congrArg List.length S2
    simp only [List.length_map, List.take_length] at this
    omega
  clear S2 HTG hSE
  obtain ⟨Av, cv, rfl⟩ : ∃ Av cv, vo = .slice Av Os.length cv := by
    rcases M.outs.2 with ⟨rfl, h0⟩ | ⟨g, cap, cur, rfl, _⟩
    · exact ⟨none, 0, by rw [h0]⟩
    · exact ⟨_, _, rfl⟩
  have HS : Hid (Calls Tryz.prog 51 #[.slice Av Os.length cv, .func (.func 52) #[] #[]] w2 fun e w' => e = .returned (.tuple #[]) ∧
      ∃ Ds : List Rw, Ds.Perm Os ∧ Ds.Pairwise (fun x y => hd x ≤ hd y) ∧ w'.ownsRow w.heap.size 57 1 (.slice Av Os.length cv) Os.length (Ds.map rwV) ∧ w2.grownBy w' (Value.slice Av Os.length cv).ownBlock) := Lib.hid (by
    rcases Nat.eq_zero_or_pos Os.length with h0 | h0
    · obtain rfl := List.length_eq_zero_iff.1 h0
      refine (Tryz.slices_SortFunc_none_f107 (α := Nat) Av cv _ w2).mono ?_
      rintro e w' ⟨rfl, rfl⟩
      exact ⟨rfl, [], List.Perm.refl _, List.Pairwise.nil, M.outs, World.grownBy.refl _ _⟩
    · obtain ⟨g, c2, hv, _, _⟩ := M.outs.form h0
      obtain ⟨rfl, rfl⟩ : Av = some ⟨g, 0, none⟩ ∧ cv = c2 := by injection hv with h1 h2 h3; exact ⟨h1, h3⟩
      refine sortRows_any w.heap.size g cv Os w2 M.outs (fun q hq => ?_) (by omega) h0
      have hq1 := M.each q hq
      have hq2 := hpos.out q hq
      refine ⟨?_, ?_, hq2, ?_⟩
      · exact (hq1.lt q.b rfl).2
      · rcases own_two hq1 M.outs (by decide) with h | h
        · cases h
        · exact fun e => h (show some q.b = some g by rw [e])
      · have := hq1.cells (g := q.b) rfl 0 (.int .i64 (hd q)) (by
          unfold hd intsC
          cases hns : q.ns with
          | nil => rw [hns] at hq2; simp at hq2
          | cons a t => simp)
        rwa [Addr.add_lit] at this)
  go_wp2_with fail
  refine HS.out.mono ?_
  rintro e w3 ⟨rfl, Ds, hp, hs, ho, hg⟩
  have hDl : Ds.length = Os.length := hp.length_eq
  have hfin : Hid ((Ds.map (·.ns)).Perm ((groupsV r 0 l []).map fun g => sortV g.1)) := Lib.hid ((hp.map _).trans hmap.out)
  have heach : Hid (∀ q ∈ Ds, w3.ownsRow w.heap.size 3 1 (rwV q) q.ns.length (intsC q.ns)) := Lib.hid (fun q hq => by
    have hq1 := M.each q (hp.mem_iff.1 hq)
    exact hq1.kept hg (own_two hq1 M.outs (by decide)))
  have hbel := Lib.hid (below_own M.below (Nat.le_refl _) M.outs hg)
  have HP := Lib.hid hs; have HO := Lib.hid ho
  clear hp hs ho hg HS M hmap hpos
  go_wp2
  go_ret2
  exact ⟨_, Ds, rfl, hfin.out, HP.out, by rw [hDl]; exact HO.out, heach.out, hbel.out⟩
end Go.Proofs.YtjimdnmdnjhnjaaGreatDoor
