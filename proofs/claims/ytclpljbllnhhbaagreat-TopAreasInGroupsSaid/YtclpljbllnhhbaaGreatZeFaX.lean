/- Contract: the area of a cell: the loops and the whole. Contract: the area of a cell: its peak. Contract: the area of a cell: the whole. -/
import Derived.Deep.LoopGhost
import Derived.BigQuiet
import Derived.Test.YtclpljbllnhhbaaGreatZeFaR
namespace Go.Proofs.YtclpljbllnhhbaaGreat
open Go.RowKit Go.Shelf

attribute [local go_sem] Oper.semAt_some
attribute [local irreducible] nbV

set_option maxRecDepth 100000 in
set_option maxHeartbeats 4000000 in
theorem area_loop (b n S B4 B6 B7 B8 : Nat) (g : Int → Int → Int) (level : Int) (corners : Bool) (from_ : Int × Int) (w : World) (hn : n ≤ 100000) (hb : b < w.heap.size) (h68 : B6 ≠ B8) (hkn : Hid (∀ x y, 0 ≤ g x y → (-100000 ≤ x ∧ x ≤ 100023) ∧ (-100000 ≤ y ∧ y ≤ 100023))) (ha : Hid (abv g from_.1 from_.2 level = true))
    (q6 : w.heap.size ≤ B6 ∧ w.heap.size ≤ B8 ∧ w.heap.size ≤ S ∧ w.heap.size ≤ B7) (Q' : Exit → Act → World → Prop)
    (hexit : ∀ (t0 t1 t2 t5 t10 t11 t12 t13 t14 t15 t16 t17 t18 t19 t20 t21 t22 t23 t24 t25 t26 t27 t28 t29 t30 t31 t32 t33 t34 t35 t36 t37 t38 t39 t40 t41 t42 t43 t44 t45 t46 t47 t48 t49 t50 t51 t52 t53 t54 t55 t56 t57 t58 t59 t60 t61 t62 t63 t64 t65 t66 t67 t68 t69 t70 t71 t72 t73 t74 t75 t76 t77 t78 t79 t80 t81 t82 t83 t84 t85 : Value) (i : Nat) (L : List (Int × Int)) (v : Value) (Ds : List Nat) (wr : World), Bfs g level corners from_ L.length L → ArI w b n S w.heap.size B4 B6 B7 B8 g level corners L v wr → Marks w.heap.size Ds wr →
      Q' (.exit 0) ⟨#[t0, t1, t2, .pointer (some ⟨w.heap.size, 0, none⟩), .pointer (some ⟨B4, 0, none⟩), t5, .pointer (some ⟨B6, 0, none⟩), .pointer (some ⟨B7, 0, none⟩), .pointer (some ⟨B8, 0, none⟩), .int .i64 (i : Int), t10, t11, t12, t13, t14, t15, t16, t17, t18, t19, t20, t21, t22, t23, t24, t25, t26, t27, t28, t29, t30, t31, t32, t33, t34, t35, t36, t37, t38, t39, t40, t41, t42, t43, t44, t45, t46, t47, t48, t49, t50, t51, t52, t53, t54, t55, t56, t57, t58, t59, t60, t61, t62, t63, t64, t65, t66, t67, t68, t69, t70, t71, t72, t73, t74, t75, t76, t77, t78, t79, t80, t81, t82, t83, t84, t85], marksOf Ds⟩ wr)
    {t0 t1 t2 t5 t10 t11 t12 t13 t14 t15 t16 t17 t18 t19 t20 t21 t22 t23 t24 t25 t26 t27 t28 t29 t30 t31 t32 t33 t34 t35 t36 t37 t38 t39 t40 t41 t42 t43 t44 t45 t46 t47 t48 t49 t50 t51 t52 t53 t54 t55 t56 t57 t58 t59 t60 t61 t62 t63 t64 t65 t66 t67 t68 t69 t70 t71 t72 t73 t74 t75 t76 t77 t78 t79 t80 t81 t82 t83 t84 t85 : Value} (i : Nat) (L : List (Int × Int)) (v : Value) (Ds : List Nat) (wr : World) (hin : i ≤ n + 1) (hBf : Bfs g level corners from_ i L) (hAI : ArI w b n S w.heap.size B4 B6 B7 B8 g level corners L v wr) (hMk : Marks w.heap.size Ds wr) :
    (Code.loop (bodyOf Tryz.f37 0)).wp Tryz.prog Q' ⟨#[t0, t1, t2, .pointer (some ⟨w.heap.size, 0, none⟩), .pointer (some ⟨B4, 0, none⟩), t5, .pointer (some ⟨B6, 0, none⟩), .pointer (some ⟨B7, 0, none⟩), .pointer (some ⟨B8, 0, none⟩), .int .i64 (i : Int), t10, t11, t12, t13, t14, t15, t16, t17, t18, t19, t20, t21, t22, t23, t24, t25, t26, t27, t28, t29, t30, t31, t32, t33, t34, t35, t36, t37, t38, t39, t40, t41, t42, t43, t44, t45, t46, t47, t48, t49, t50, t51, t52, t53, t54, t55, t56, t57, t58, t59, t60, t61, t62, t63, t64, t65, t66, t67, t68, t69, t70, t71, t72, t73, t74, t75, t76, t77, t78, t79, t80, t81, t82, t83, t84, t85], marksOf Ds⟩ wr := by
  refine wp_loop_ghost (fun m a' wr => ∃ (z : Nat → Value) (i : Nat) (L : List (Int × Int)) (v : Value) (Ds : List Nat), a' = ⟨#[z 0, z 1, z 2, .pointer (some ⟨w.heap.size, 0, none⟩), .pointer (some ⟨B4, 0, none⟩), z 5, .pointer (some ⟨B6, 0, none⟩), .pointer (some ⟨B7, 0, none⟩), .pointer (some ⟨B8, 0, none⟩), .int .i64 (i : Int), z 10, z 11, z 12, z 13, z 14, z 15, z 16, z 17, z 18, z 19, z 20, z 21, z 22, z 23, z 24, z 25, z 26, z 27, z 28, z 29, z 30, z 31, z 32, z 33, z 34, z 35, z 36, z 37, z 38, z 39, z 40, z 41, z 42, z 43, z 44, z 45, z 46, z 47, z 48, z 49, z 50, z 51, z 52, z 53, z 54, z 55, z 56, z 57, z 58, z 59, z 60, z 61, z 62, z 63, z 64, z 65, z 66, z 67, z 68, z 69, z 70, z 71, z 72, z 73, z 74, z 75, z 76, z 77, z 78, z 79, z 80, z 81, z 82, z 83, z 84, z 85], marksOf Ds⟩ ∧ m + i = n + 1 ∧
    Bfs g level corners from_ i L ∧ ArI w b n S w.heap.size B4 B6 B7 B8 g level corners L v wr ∧ Marks w.heap.size Ds wr) (n + 1 - i) ⟨fun k => (#[t0, t1, t2, undef, undef, t5, undef, undef, undef, undef, t10, t11, t12, t13, t14, t15, t16, t17, t18, t19, t20, t21, t22, t23, t24, t25, t26, t27, t28, t29, t30, t31, t32, t33, t34, t35, t36, t37, t38, t39, t40, t41, t42, t43, t44, t45, t46, t47, t48, t49, t50, t51, t52, t53, t54, t55, t56, t57, t58, t59, t60, t61, t62, t63, t64, t65, t66, t67, t68, t69, t70, t71, t72, t73, t74, t75, t76, t77, t78, t79, t80, t81, t82, t83, t84, t85] : Array Value).getD k undef, i, L, v, Ds, rfl, by omega, hBf, hAI, hMk⟩ ?_
  clear hBf hAI hMk hin
  rintro m a' wr ⟨z, i, L, v, Ds, rfl, hmi, hBf, hAI, hMk⟩
  refine area_round b n S B4 B6 B7 B8 g level corners from_ w hn hb h68 hkn ha q6 i L v Ds wr hBf hAI hMk _ _ ?_ ?_
  · intro t0 t1 t2 t5 t10 t11 t12 t13 t14 t15 t16 t17 t18 t19 t20 t21 t22 t23 t24 t25 t26 t27 t28 t29 t30 t31 t32 t33 t34 t35 t36 t37 t38 t39 t40 t41 t42 t43 t44 t45 t46 t47 t48 t49 t50 t51 t52 t53 t54 t55 t56 t57 t58 t59 t60 t61 t62 t63 t64 t65 t66 t67 t68 t69 t70 t71 t72 t73 t74 t75 t76 t77 t78 t79 t80 t81 t82 t83 t84 t85 L v Ds wr h1 h2 h3 h4
    exact ⟨m - 1, by omega, fun k => (#[t0, t1, t2, undef, undef, t5, undef, undef, undef, undef, t10, t11, t12, t13, t14, t15, t16, t17, t18, t19, t20, t21, t22, t23, t24, t25, t26, t27, t28, t29, t30, t31, t32, t33, t34, t35, t36, t37, t38, t39, t40, t41, t42, t43, t44, t45, t46, t47, t48, t49, t50, t51, t52, t53, t54, t55, t56, t57, t58, t59, t60, t61, t62, t63, t64, t65, t66, t67, t68, t69, t70, t71, t72, t73, t74, t75, t76, t77, t78, t79, t80, t81, t82, t83, t84, t85] : Array Value).getD k undef, i + 1, L, v, Ds, rfl, by omega, h2, h3, h4⟩
  · intro t0 t1 t2 t5 t10 t11 t12 t13 t14 t15 t16 t17 t18 t19 t20 t21 t22 t23 t24 t25 t26 t27 t28 t29 t30 t31 t32 t33 t34 t35 t36 t37 t38 t39 t40 t41 t42 t43 t44 t45 t46 t47 t48 t49 t50 t51 t52 t53 t54 t55 t56 t57 t58 t59 t60 t61 t62 t63 t64 t65 t66 t67 t68 t69 t70 t71 t72 t73 t74 t75 t76 t77 t78 t79 t80 t81 t82 t83 t84 t85 h1
    exact hexit _ _ _ _ _ _ _ _ _ _ _ _ _ _ _ _ _ _ _ _ _ _ _ _ _ _ _ _ _ _ _ _ _ _ _ _ _ _ _ _ _ _ _ _ _ _ _ _ _ _ _ _ _ _ _ _ _ _ _ _ _ _ _ _ _ _ _ _ _ _ _ _ _ _ _ _ _ _ _ _ i L v Ds wr h1 hAI hMk
end Go.Proofs.YtclpljbllnhhbaaGreat

namespace Go.Proofs.YtclpljbllnhhbaaGreat
open Go.RowKit Go.Shelf

attribute [local go_sem] Oper.semAt_some
attribute [local irreducible] nbV

theorem grownBy_set (W : World) (a : Addr) (v : Value) : W.grownBy (W.setCell a v) (some a.block) :=
  ⟨rfl, rfl, rfl, (KeepsWalks.setCell W _ v).size, fun k _ hk => Below.heap_setCell _ _ _ k (fun e => hk (by rw [e]))⟩
theorem gr_drewN (W : World) (k : Nat) : Gr W (W.drewN k) := ⟨rfl, rfl, rfl, Nat.le_refl _, fun _ _ => rfl⟩
/-- The memory of the loop for the peak. -/
structure PkI (w : World) (b n B6 B8 G cap : Nat) (g : Int → Int → Int) (cs : List (Int × Int)) (p : Int × Int) (a : Int) (W : World) : Prop where
  b3 : Blk W w.heap.size 85 #[.map (some b)]
  b6 : Blk W B6 42 #[.slice none 0 0, .int .i64 0, .int .i64 0, .int .i64 0]
  b8 : Blk W B8 42 #[.slice (some ⟨G, 0, none⟩) cs.length cap, .int .i64 p.1, .int .i64 p.2, .int .i64 a]
  hM : FMap W b n g
  row : W.ownsRow w.heap.size 39 2 (.slice (some ⟨G, 0, none⟩) cs.length cap) cs.length (cellsC cs)
  below : Below w.heap.size w W
section
variable {w W W' : World} {b n B6 B8 G cap : Nat} {g : Int → Int → Int} {cs : List (Int × Int)} {p q : Int × Int} {a a' : Int}
theorem PkI.gr (h : PkI w b n B6 B8 G cap g cs p a W) (k : Gr W W') : PkI w b n B6 B8 G cap g cs p a W' :=
  ⟨h.b3.gr k, h.b6.gr k, h.b8.gr k, h.hM.gr k, own_below h.row k, h.below.trans (Below.mono k (Below.size h.below))⟩
theorem PkI.alloc (h : PkI w b n B6 B8 G cap g cs p a W) (o : Obj) : PkI w b n B6 B8 G cap g cs p a (W.alloc o) := h.gr ((Below.refl _ _).alloc (Nat.le_refl _) _)
theorem PkI.set1 (h : PkI w b n B6 B8 G cap g cs p a W) (hb : b < w.heap.size) (h68 : B6 ≠ B8) (h8 : w.heap.size ≤ B8) (k : Nat) (x : Int) {cs' : Array Value} (e : (#[.slice (some ⟨G, 0, none⟩) cs.length cap, .int .i64 p.1, .int .i64 p.2, .int .i64 a] : Array Value).setIfInBounds k (.int .i64 x) = cs')
    (hq : cs' = #[.slice (some ⟨G, 0, none⟩) cs.length cap, .int .i64 q.1, .int .i64 q.2, .int .i64 a']) : PkI w b n B6 B8 G cap g cs q a' (W.setCell ⟨B8, k, none⟩ (.int .i64 x)) := by
  refine ⟨h.b3.far (Blk.ne_ h.b3 h.b8 (by decide)) _, h.b6.far h68 _, ?_, FMap.setCell h.hM (show b ≠ B8 by omega) _, ?_, ?_⟩
  · have := h.b8.set_ k (.int .i64 x)
    rw [e, hq] at this
    exact this
  · exact h.row.kept (grownBy_set _ _ _) (.inr (own_blk_ne h.row h.b8 (by decide)))
  · exact h.below.grown (grownBy_set _ _ _) (Below.size h.below) (fun r e => by cases e; exact h8)
theorem PkI.peak (h : PkI w b n B6 B8 G cap g cs p a W) (hb : b < w.heap.size) (h68 : B6 ≠ B8) (h8 : w.heap.size ≤ B8) (x y : Int) : PkI w b n B6 B8 G cap g cs (x, y) a ((W.setCell ⟨B8, 1, none⟩ (.int .i64 x)).setCell ⟨B8, 2, none⟩ (.int .i64 y)) :=
  (h.set1 (q := (x, p.2)) hb h68 h8 1 x rfl rfl).set1 (q := (x, y)) hb h68 h8 2 y rfl rfl
theorem PkI.amp (h : PkI w b n B6 B8 G cap g cs p a W) (hb : b < w.heap.size) (h68 : B6 ≠ B8) (h8 : w.heap.size ≤ B8) (x : Int) : PkI w b n B6 B8 G cap g cs p x (W.setCell ⟨B8, 3, none⟩ (.int .i64 x)) :=
  h.set1 hb h68 h8 3 x rfl rfl
end
abbrev pkF (g : Int → Int → Int) (p x : Int × Int) : Int × Int := if g p.1 p.2 < g x.1 x.2 then x else p

set_option maxRecDepth 100000 in
set_option maxHeartbeats 4000000 in
theorem peak_round (b n B6 B8 G cap : Nat) (g : Int → Int → Int) (cs : List (Int × Int)) (w : World) (hb : b < w.heap.size) (h68 : B6 ≠ B8) (h8 : w.heap.size ≤ B8) (hkn : Hid (∀ x ∈ cs, 0 ≤ g x.1 x.2 ∧ W64 x.1 ∧ W64 x.2)) (hlen : cs.length ≤ 100000) (i : Nat) (hi : i ≤ cs.length) (p : Int × Int) (hp : Hid (p ∈ cs)) (Ds : List Nat) (wr : World)
    (hI : PkI w b n B6 B8 G cap g cs p 0 wr) (hMk : Marks w.heap.size Ds wr)
    (K' : Act → World → Prop) (Q' : Exit → Act → World → Prop) {t0 t1 t2 t4 t5 t7 t9 t10 t11 t12 t13 t14 t15 t16 t17 t18 t19 t20 t21 t22 t23 t24 t25 t26 t27 t28 t29 t30 t31 t32 t33 t34 t35 t36 t37 t38 t39 t40 t41 t42 t43 t44 t45 t46 t47 t48 t49 t50 t51 t52 t53 t54 t55 t56 t57 t58 t59 t60 t61 t62 t66 t67 t68 t69 t70 t71 t72 t73 t74 t75 t76 t77 t78 t79 t80 t81 t82 t83 t84 t85 : Value}
    (hnext : ∀ (t0 t1 t2 t4 t5 t7 t9 t10 t11 t12 t13 t14 t15 t16 t17 t18 t19 t20 t21 t22 t23 t24 t25 t26 t27 t28 t29 t30 t31 t32 t33 t34 t35 t36 t37 t38 t39 t40 t41 t42 t43 t44 t45 t46 t47 t48 t49 t50 t51 t52 t53 t54 t55 t56 t57 t58 t59 t60 t61 t62 t66 t67 t68 t69 t70 t71 t72 t73 t74 t75 t76 t77 t78 t79 t80 t81 t82 t83 t84 t85 : Value) (h : i < cs.length) (wr : World), PkI w b n B6 B8 G cap g cs (pkF g p cs[i]) 0 wr → Marks w.heap.size Ds wr → K' ⟨#[t0, t1, t2, .pointer (some ⟨w.heap.size, 0, none⟩), t4, t5, .pointer (some ⟨B6, 0, none⟩), t7, .pointer (some ⟨B8, 0, none⟩), t9, t10, t11, t12, t13, t14, t15, t16, t17, t18, t19, t20, t21, t22, t23, t24, t25, t26, t27, t28, t29, t30, t31, t32, t33, t34, t35, t36, t37, t38, t39, t40, t41, t42, t43, t44, t45, t46, t47, t48, t49, t50, t51, t52, t53, t54, t55, t56, t57, t58, t59, t60, t61, t62, .slice (some ⟨G, 0, none⟩) cs.length cap, .int .i64 (cs.length : Int), .int .i64 ((i + 1 : Nat) : Int), t66, t67, t68, t69, t70, t71, t72, t73, t74, t75, t76, t77, t78, t79, t80, t81, t82, t83, t84, t85], marksOf Ds⟩ wr)
    (hexit : ∀ (t0 t1 t2 t4 t5 t7 t9 t10 t11 t12 t13 t14 t15 t16 t17 t18 t19 t20 t21 t22 t23 t24 t25 t26 t27 t28 t29 t30 t31 t32 t33 t34 t35 t36 t37 t38 t39 t40 t41 t42 t43 t44 t45 t46 t47 t48 t49 t50 t51 t52 t53 t54 t55 t56 t57 t58 t59 t60 t61 t62 t66 t67 t68 t69 t70 t71 t72 t73 t74 t75 t76 t77 t78 t79 t80 t81 t82 t83 t84 t85 : Value), i = cs.length → Q' (.exit 4) ⟨#[t0, t1, t2, .pointer (some ⟨w.heap.size, 0, none⟩), t4, t5, .pointer (some ⟨B6, 0, none⟩), t7, .pointer (some ⟨B8, 0, none⟩), t9, t10, t11, t12, t13, t14, t15, t16, t17, t18, t19, t20, t21, t22, t23, t24, t25, t26, t27, t28, t29, t30, t31, t32, t33, t34, t35, t36, t37, t38, t39, t40, t41, t42, t43, t44, t45, t46, t47, t48, t49, t50, t51, t52, t53, t54, t55, t56, t57, t58, t59, t60, t61, t62, .slice (some ⟨G, 0, none⟩) cs.length cap, .int .i64 (cs.length : Int), .int .i64 (i : Int), t66, t67, t68, t69, t70, t71, t72, t73, t74, t75, t76, t77, t78, t79, t80, t81, t82, t83, t84, t85], marksOf Ds⟩ wr) :
    (bodyOf Tryz.f37 1).wp Tryz.prog (Exit.then K' Q') ⟨#[t0, t1, t2, .pointer (some ⟨w.heap.size, 0, none⟩), t4, t5, .pointer (some ⟨B6, 0, none⟩), t7, .pointer (some ⟨B8, 0, none⟩), t9, t10, t11, t12, t13, t14, t15, t16, t17, t18, t19, t20, t21, t22, t23, t24, t25, t26, t27, t28, t29, t30, t31, t32, t33, t34, t35, t36, t37, t38, t39, t40, t41, t42, t43, t44, t45, t46, t47, t48, t49, t50, t51, t52, t53, t54, t55, t56, t57, t58, t59, t60, t61, t62, .slice (some ⟨G, 0, none⟩) cs.length cap, .int .i64 (cs.length : Int), .int .i64 (i : Int), t66, t67, t68, t69, t70, t71, t72, t73, t74, t75, t76, t77, t78, t79, t80, t81, t82, t83, t84, t85], marksOf Ds⟩ wr := by
  have HN := Lib.hid hnext; have HX := Lib.hid hexit
  clear hnext hexit
  conv in (bodyOf _ _) => whnf
  by_cases hlt : i < cs.length
  · obtain ⟨p0, p1⟩ := rowCell hI.row hlt
    obtain ⟨g0, x1, x2⟩ := hkn.out _ (List.getElem_mem hlt)
    obtain ⟨gp, y1, y2⟩ := hkn.out _ hp.out
    obtain ⟨x, hx⟩ : ∃ x, cs[i] = x := ⟨_, rfl⟩
    have HS : Hid (∀ q wq, pkF g p x = q → PkI w b n B6 B8 G cap g cs q 0 wq → PkI w b n B6 B8 G cap g cs (pkF g p cs[i]) 0 wq) := Lib.hid (fun q wq e h => by rw [hx, e]; exact h)
    rw [hx] at p0 p1 g0 x1 x2
    clear hx
    have hI1 := hI.alloc (.cells #[.int .i64 x.1, .int .i64 x.2] 39)
    have hm1 := hMk.alloc (.cells #[.int .i64 x.1, .int .i64 x.2] 39)
    have l1 := fun k => (hI1.hM.gr (gr_drewN _ k)).look Tryz.underlying85 x1 x2
    have l2 := fun k => (hI1.hM.gr (gr_drewN _ k)).look Tryz.underlying85 y1 y2
    have bx := Blk.new wr 39 #[.int .i64 x.1, .int .i64 x.2]
    have e3 := hI.b3; have c3 := e3.cell 0; have l3 := e3.lt
    have e8 := hI.b8; have l8 := e8.lt
    obtain ⟨c80, c81, c82, c83, f8⟩ := blk4 e8
    have pe1 : pos (g x.1 x.2) = g x.1 x.2 := if_pos g0
    have pe2 : pos (g p.1 p.2) = g p.1 p.2 := if_pos gp
    simp only [pe1] at l1; simp only [pe2] at l2
    have HI := Lib.hid hI1; have HM := Lib.hid hm1
    clear hI hMk hI1 hm1 pe1 pe2 g0 gp
    by_cases hg : g p.1 p.2 < g x.1 x.2
    · have HE : Hid (pkF g p x = x) := Lib.hid (if_pos hg)
      have hd : decide (g p.1 p.2 < g x.1 x.2) = true := by simpa using hg
      clear hg
      go_wp2_with fail
      go_quiet (fail)
      go_wp2_with fail
      have hJ := HI.out.gr (gr_drewN _ nq)
      have hM := HM.out.gr (gr_drewN _ nq)
      exact HN.out _ _ _ _ _ _ _ _ _ _ _ _ _ _ _ _ _ _ _ _ _ _ _ _ _ _ _ _ _ _ _ _ _ _ _ _ _ _ _ _ _ _ _ _ _ _ _ _ _ _ _ _ _ _ _ _ _ _ _ _ _ _ _ _ _ _ _ _ _ _ _ _ _ _ _ _ _ _ _ _ hlt _ (HS.out _ _ HE.out (hJ.peak hb h68 h8 x.1 x.2)) ((hM.setCell hJ.b8 _).setCell (hJ.b8.set_ 1 _) _)
    · have HE : Hid (pkF g p x = p) := Lib.hid (if_neg hg)
      have hd : decide (g p.1 p.2 < g x.1 x.2) = false := by simpa using hg
      clear hg
      go_wp2_with fail
      go_quiet (fail)
      go_wp2_with fail
      exact HN.out _ _ _ _ _ _ _ _ _ _ _ _ _ _ _ _ _ _ _ _ _ _ _ _ _ _ _ _ _ _ _ _ _ _ _ _ _ _ _ _ _ _ _ _ _ _ _ _ _ _ _ _ _ _ _ _ _ _ _ _ _ _ _ _ _ _ _ _ _ _ _ _ _ _ _ _ _ _ _ _ hlt _ (HS.out _ _ HE.out (HI.out.gr (gr_drewN _ nq))) (HM.out.gr (gr_drewN _ nq))
  · obtain rfl : i = cs.length := by omega
    go_wp2
    exact HX.out _ _ _ _ _ _ _ _ _ _ _ _ _ _ _ _ _ _ _ _ _ _ _ _ _ _ _ _ _ _ _ _ _ _ _ _ _ _ _ _ _ _ _ _ _ _ _ _ _ _ _ _ _ _ _ _ _ _ _ _ _ _ _ _ _ _ _ _ _ _ _ _ _ _ _ _ _ _ _ _ trivial

theorem pk_take (g : Int → Int → Int) (cs : List (Int × Int)) (z : Int × Int) {i : Nat} (h : i < cs.length) : (cs.take (i + 1)).foldl (pkF g) z = pkF g ((cs.take i).foldl (pkF g) z) cs[i] := by
  rw [List.take_succ_eq_append_getElem h, List.foldl_append]; rfl
theorem pkF_mem {g : Int → Int → Int} {cs : List (Int × Int)} {p x : Int × Int} (hp : p ∈ cs) (hx : x ∈ cs) : pkF g p x ∈ cs := by
  unfold pkF; split
  · exact hx
  · exact hp
set_option maxRecDepth 100000 in
set_option maxHeartbeats 4000000 in
theorem peak_loop (b n B6 B8 G cap : Nat) (g : Int → Int → Int) (cs : List (Int × Int)) (w : World) (hb : b < w.heap.size) (h68 : B6 ≠ B8) (h8 : w.heap.size ≤ B8) (hkn : Hid (∀ x ∈ cs, 0 ≤ g x.1 x.2 ∧ W64 x.1 ∧ W64 x.2)) (hlen : cs.length ≤ 100000) (Ds : List Nat)
    (Q' : Exit → Act → World → Prop)
    (hexit : ∀ (t0 t1 t2 t4 t5 t7 t9 t10 t11 t12 t13 t14 t15 t16 t17 t18 t19 t20 t21 t22 t23 t24 t25 t26 t27 t28 t29 t30 t31 t32 t33 t34 t35 t36 t37 t38 t39 t40 t41 t42 t43 t44 t45 t46 t47 t48 t49 t50 t51 t52 t53 t54 t55 t56 t57 t58 t59 t60 t61 t62 t66 t67 t68 t69 t70 t71 t72 t73 t74 t75 t76 t77 t78 t79 t80 t81 t82 t83 t84 t85 : Value) (wr : World), peakV g cs ∈ cs → PkI w b n B6 B8 G cap g cs (peakV g cs) 0 wr → Marks w.heap.size Ds wr → Q' (.exit 4) ⟨#[t0, t1, t2, .pointer (some ⟨w.heap.size, 0, none⟩), t4, t5, .pointer (some ⟨B6, 0, none⟩), t7, .pointer (some ⟨B8, 0, none⟩), t9, t10, t11, t12, t13, t14, t15, t16, t17, t18, t19, t20, t21, t22, t23, t24, t25, t26, t27, t28, t29, t30, t31, t32, t33, t34, t35, t36, t37, t38, t39, t40, t41, t42, t43, t44, t45, t46, t47, t48, t49, t50, t51, t52, t53, t54, t55, t56, t57, t58, t59, t60, t61, t62, .slice (some ⟨G, 0, none⟩) cs.length cap, .int .i64 (cs.length : Int), .int .i64 (cs.length : Int), t66, t67, t68, t69, t70, t71, t72, t73, t74, t75, t76, t77, t78, t79, t80, t81, t82, t83, t84, t85], marksOf Ds⟩ wr)
    {t0 t1 t2 t4 t5 t7 t9 t10 t11 t12 t13 t14 t15 t16 t17 t18 t19 t20 t21 t22 t23 t24 t25 t26 t27 t28 t29 t30 t31 t32 t33 t34 t35 t36 t37 t38 t39 t40 t41 t42 t43 t44 t45 t46 t47 t48 t49 t50 t51 t52 t53 t54 t55 t56 t57 t58 t59 t60 t61 t62 t66 t67 t68 t69 t70 t71 t72 t73 t74 t75 t76 t77 t78 t79 t80 t81 t82 t83 t84 t85 : Value} (z : Int × Int) (h0 : cs.headD (0, 0) = z) (hz : z ∈ cs) (wr : World) (hI : PkI w b n B6 B8 G cap g cs z 0 wr) (hMk : Marks w.heap.size Ds wr) :
    (Code.loop (bodyOf Tryz.f37 1)).wp Tryz.prog Q' ⟨#[t0, t1, t2, .pointer (some ⟨w.heap.size, 0, none⟩), t4, t5, .pointer (some ⟨B6, 0, none⟩), t7, .pointer (some ⟨B8, 0, none⟩), t9, t10, t11, t12, t13, t14, t15, t16, t17, t18, t19, t20, t21, t22, t23, t24, t25, t26, t27, t28, t29, t30, t31, t32, t33, t34, t35, t36, t37, t38, t39, t40, t41, t42, t43, t44, t45, t46, t47, t48, t49, t50, t51, t52, t53, t54, t55, t56, t57, t58, t59, t60, t61, t62, .slice (some ⟨G, 0, none⟩) cs.length cap, .int .i64 (cs.length : Int), .int .i64 ((0 : Nat) : Int), t66, t67, t68, t69, t70, t71, t72, t73, t74, t75, t76, t77, t78, t79, t80, t81, t82, t83, t84, t85], marksOf Ds⟩ wr := by
  refine wp_loop_ghost (fun m a' wr => ∃ (zf : Nat → Value) (i : Nat) (p : Int × Int), a' = ⟨#[zf 0, zf 1, zf 2, .pointer (some ⟨w.heap.size, 0, none⟩), zf 4, zf 5, .pointer (some ⟨B6, 0, none⟩), zf 7, .pointer (some ⟨B8, 0, none⟩), zf 9, zf 10, zf 11, zf 12, zf 13, zf 14, zf 15, zf 16, zf 17, zf 18, zf 19, zf 20, zf 21, zf 22, zf 23, zf 24, zf 25, zf 26, zf 27, zf 28, zf 29, zf 30, zf 31, zf 32, zf 33, zf 34, zf 35, zf 36, zf 37, zf 38, zf 39, zf 40, zf 41, zf 42, zf 43, zf 44, zf 45, zf 46, zf 47, zf 48, zf 49, zf 50, zf 51, zf 52, zf 53, zf 54, zf 55, zf 56, zf 57, zf 58, zf 59, zf 60, zf 61, zf 62, .slice (some ⟨G, 0, none⟩) cs.length cap, .int .i64 (cs.length : Int), .int .i64 (i : Int), zf 66, zf 67, zf 68, zf 69, zf 70, zf 71, zf 72, zf 73, zf 74, zf 75, zf 76, zf 77, zf 78, zf 79, zf 80, zf 81, zf 82, zf 83, zf 84, zf 85], marksOf Ds⟩ ∧ m + i = cs.length ∧ p ∈ cs ∧ p = (cs.take i).foldl (pkF g) z ∧ PkI w b n B6 B8 G cap g cs p 0 wr ∧ Marks w.heap.size Ds wr) cs.length ⟨fun k => (#[t0, t1, t2, undef, t4, t5, undef, t7, undef, t9, t10, t11, t12, t13, t14, t15, t16, t17, t18, t19, t20, t21, t22, t23, t24, t25, t26, t27, t28, t29, t30, t31, t32, t33, t34, t35, t36, t37, t38, t39, t40, t41, t42, t43, t44, t45, t46, t47, t48, t49, t50, t51, t52, t53, t54, t55, t56, t57, t58, t59, t60, t61, t62, undef, undef, undef, t66, t67, t68, t69, t70, t71, t72, t73, t74, t75, t76, t77, t78, t79, t80, t81, t82, t83, t84, t85] : Array Value).getD k undef, 0, z, rfl, by omega, hz, rfl, hI, hMk⟩ ?_
  clear hI hMk
  rintro m a' wr ⟨zf, i, p, rfl, hmi, hpm, hpv, hI, hMk⟩
  refine peak_round b n B6 B8 G cap g cs w hb h68 h8 hkn hlen i (by omega) p (Lib.hid hpm) Ds wr hI hMk _ _ ?_ ?_
  · intro t0 t1 t2 t4 t5 t7 t9 t10 t11 t12 t13 t14 t15 t16 t17 t18 t19 t20 t21 t22 t23 t24 t25 t26 t27 t28 t29 t30 t31 t32 t33 t34 t35 t36 t37 t38 t39 t40 t41 t42 t43 t44 t45 t46 t47 t48 t49 t50 t51 t52 t53 t54 t55 t56 t57 t58 t59 t60 t61 t62 t66 t67 t68 t69 t70 t71 t72 t73 t74 t75 t76 t77 t78 t79 t80 t81 t82 t83 t84 t85 hlt wr h1 h2
    exact ⟨m - 1, by omega, fun k => (#[t0, t1, t2, undef, t4, t5, undef, t7, undef, t9, t10, t11, t12, t13, t14, t15, t16, t17, t18, t19, t20, t21, t22, t23, t24, t25, t26, t27, t28, t29, t30, t31, t32, t33, t34, t35, t36, t37, t38, t39, t40, t41, t42, t43, t44, t45, t46, t47, t48, t49, t50, t51, t52, t53, t54, t55, t56, t57, t58, t59, t60, t61, t62, undef, undef, undef, t66, t67, t68, t69, t70, t71, t72, t73, t74, t75, t76, t77, t78, t79, t80, t81, t82, t83, t84, t85] : Array Value).getD k undef, i + 1, pkF g p cs[i], rfl, by omega, pkF_mem hpm (List.getElem_mem hlt), by rw [pk_take g cs z hlt, ← hpv], h1, h2⟩
  · intro t0 t1 t2 t4 t5 t7 t9 t10 t11 t12 t13 t14 t15 t16 t17 t18 t19 t20 t21 t22 t23 t24 t25 t26 t27 t28 t29 t30 t31 t32 t33 t34 t35 t36 t37 t38 t39 t40 t41 t42 t43 t44 t45 t46 t47 t48 t49 t50 t51 t52 t53 t54 t55 t56 t57 t58 t59 t60 t61 t62 t66 t67 t68 t69 t70 t71 t72 t73 t74 t75 t76 t77 t78 t79 t80 t81 t82 t83 t84 t85 h1
    subst h1
    have e : p = peakV g cs := by rw [hpv, List.take_length, ← h0]; rfl
    subst e
    exact hexit _ _ _ _ _ _ _ _ _ _ _ _ _ _ _ _ _ _ _ _ _ _ _ _ _ _ _ _ _ _ _ _ _ _ _ _ _ _ _ _ _ _ _ _ _ _ _ _ _ _ _ _ _ _ _ _ _ _ _ _ _ _ _ _ _ _ _ _ _ _ _ _ _ _ _ _ _ _ _ _ wr hpm hI hMk
end Go.Proofs.YtclpljbllnhhbaaGreat

namespace Go.Proofs.YtclpljbllnhhbaaGreat
open Go.RowKit Go.Shelf

attribute [local go_sem] Oper.semAt_some
attribute [local irreducible] nbV

theorem PkI.of_sort {w wr W1 : World} {b n S B4 B6 B7 B8 G cap : Nat} {g : Int → Int → Int} {level : Int} {corners : Bool} {L : List (Int × Int)} (h : ArI w b n S w.heap.size B4 B6 B7 B8 g level corners L (.slice (some ⟨G, 0, none⟩) L.length cap) wr)
    (hg : wr.grownBy W1 (some G)) (hrow : W1.ownsRow w.heap.size 39 2 (.slice (some ⟨G, 0, none⟩) L.length cap) L.length (cellsC (sortC L))) (hb : b < w.heap.size) : PkI w b n B6 B8 G cap g (sortC L) (0, 0) 0 W1 := by
  have hl := sortC_length L
  have key : ∀ {x t cs}, Blk wr x t cs → 39 ≠ t → Blk W1 x t cs := fun hb hne => hb.grown hg (fun e => own_blk_ne h.row hb hne e.symm)
  refine ⟨key h.b3 (by decide), key h.b6 (by decide), by rw [hl]; exact key h.b8 (by decide), h.hM.kept hg (own_ne h.row (.inl hb)), by rw [hl]; exact hrow, h.below.grown hg (Below.size h.below) (fun r e => (own_iscells h.row (by rw [← e]; rfl)).1)⟩
theorem Marks.sorted {w wr W1 : World} {base G cap k : Nat} {Ds : List Nat} {e : TypeId} {xs : List Value} (h : Marks w.heap.size Ds wr) (hrow : wr.ownsRow base e 2 (.slice (some ⟨G, 0, none⟩) k cap) k xs) (hg : wr.grownBy W1 (some G)) : Marks w.heap.size Ds W1 :=
  h.grown hg (fun r o e ho => by
    cases e
    obtain ⟨_, o', ho', _, h3⟩ := own_iscells hrow (g := G) rfl
    exact ⟨o', ho', h3⟩)
/-- The result's box, the row beside it. -/
structure OutI (w : World) (B6 : Nat) (cs : Array Value) (v : Value) (k : Nat) (xs : List Value) (Ds : List Nat) (W : World) : Prop where
  b6 : Blk W B6 42 cs
  row : W.ownsRow w.heap.size 39 2 v k xs
  below : Below w.heap.size w W
  marks : Marks w.heap.size Ds W
theorem OutI.set {w W : World} {B6 k : Nat} {cs : Array Value} {v : Value} {xs : List Value} {Ds : List Nat} (h : OutI w B6 cs v k xs Ds W) (h6 : w.heap.size ≤ B6) (i : Nat) (u : Value) : OutI w B6 (cs.setIfInBounds i u) v k xs Ds (W.setCell ⟨B6, i, none⟩ u) :=
  ⟨h.b6.set_ i u, h.row.kept (grownBy_set _ _ _) (.inr (own_blk_ne h.row h.b6 (by decide))), h.below.grown (grownBy_set _ _ _) (Below.size h.below) (fun r e => by cases e; exact h6), h.marks.setCell h.b6 u⟩
theorem results_row {P : Program} {fn : Func} {p : Tmp} {ty : TypeId} (h : fn.results = #[.cell p ty]) (tmps : Array Value) (w : World) (g : Nat) (t : TypeId) (cs : Array Value) (d : TypeDesc)
    (hp : tmps.getD p undef = .pointer (some ⟨g, 0, none⟩)) (hg : Blk w g t cs)
    (hu : P.underlying ty = some d) (hd : (match d with | .struct _ | .array _ _ => true | _ => false) = true) (hi : (P.info? ty).map (·.size) = some cs.size) :
    (results fn tmps).run P w = .ok (.agg cs) w := results_cell_row h tmps w g t cs (0, 0) d hp hg hu hd hi

set_option maxRecDepth 100000 in
set_option maxHeartbeats 4000000 in
theorem area_any (b n : Nat) (g : Int → Int → Int) (level : Int) (corners : Bool) (r c : Int) (w : World) (hM : FMap w b n g) (hn : n ≤ 100000) (hkn : Hid (∀ x y, 0 ≤ g x y → (-100000 ≤ x ∧ x ≤ 100023) ∧ (-100000 ≤ y ∧ y ≤ 100023))) (_hbd : Hid (∀ x y, g x y ≤ 1000000000)) (ha : abv g r c level = true) :
    Calls Tryz.prog 37 #[.map (some b), .agg #[.int .i64 level, .bool corners], .agg #[.int .i64 r, .int .i64 c]] w fun e w' => ∃ v cs, e = .returned (.agg #[v, .int .i64 (peakV g cs).1, .int .i64 (peakV g cs).2, .int .i64 (g (peakV g cs).1 (peakV g cs).2)]) ∧
      AreaOk g level corners (r, c) cs ∧ w'.ownsRow w.heap.size 39 2 v cs.length (cellsC cs) ∧ Below w.heap.size w w' := by
  have hmm := @run_makeMap Tryz.prog
  have HA := Lib.hid ha; clear ha
  obtain ⟨hg0, hg1⟩ := (abv_iff g r c level).1 HA.out
  obtain ⟨hr, hc⟩ := hkn.out r c hg0
  have wrr : W64 r := by unfold W64; omega
  have wc : W64 c := by unfold W64; omega
  refine callsIn_wide.1 (callsIn_of_wp_marks (F := Fence.wide) (n := 5) Tryz.func37 rfl trivial (wpIn_wide.2 ?_) rfl)
  simp only [Tryz.ntmps37, List.size_toArray, List.length_cons, List.length_nil, Nat.reduceAdd, Nat.reduceSub, Array.replicate_succ, Array.replicate_zero, List.push_toArray, List.append_toArray, List.nil_append, List.cons_append]
  have b3 := (((Blk.new w 85 #[.map (some b)]).alloc (.cells #[.int .i64 level, .bool corners] 24)).alloc (.cells #[.int .i64 r, .int .i64 c] 39)).alloc (.cells #[.slice none 0 0, .int .i64 0, .int .i64 0, .int .i64 0] 42)
  have b4 := ((Blk.new (w.alloc (.cells #[.map (some b)] 85)) 24 #[.int .i64 level, .bool corners]).alloc (.cells #[.int .i64 r, .int .i64 c] 39)).alloc (.cells #[.slice none 0 0, .int .i64 0, .int .i64 0, .int .i64 0] 42)
  have b5 := (Blk.new ((w.alloc (.cells #[.map (some b)] 85)).alloc (.cells #[.int .i64 level, .bool corners] 24)) 39 #[.int .i64 r, .int .i64 c]).alloc (.cells #[.slice none 0 0, .int .i64 0, .int .i64 0, .int .i64 0] 42)
  have b6 := Blk.new (((w.alloc (.cells #[.map (some b)] 85)).alloc (.cells #[.int .i64 level, .bool corners] 24)).alloc (.cells #[.int .i64 r, .int .i64 c] 39)) 42 #[.slice none 0 0, .int .i64 0, .int .i64 0, .int .i64 0]
  have hMw := (((hM.alloc (.cells #[.map (some b)] 85)).alloc (.cells #[.int .i64 level, .bool corners] 24)).alloc (.cells #[.int .i64 r, .int .i64 c] 39)).alloc (.cells #[.slice none 0 0, .int .i64 0, .int .i64 0, .int .i64 0] 42)
  have hBB : Below w.heap.size w ((((w.alloc (.cells #[.map (some b)] 85)).alloc (.cells #[.int .i64 level, .bool corners] 24)).alloc (.cells #[.int .i64 r, .int .i64 c] 39)).alloc (.cells #[.slice none 0 0, .int .i64 0, .int .i64 0, .int .i64 0] 42)) := (by repeat (first | (with_reducible exact Below.refl _ _) | (with_reducible assumption) | ((with_reducible refine Below.setCell ?_ ?_ _); rotate_left; · (first | exact Nat.le_refl _ | (simp; done) | (simp; omega) | omega)) | ((with_reducible refine Below.alloc ?_ ?_ _); rotate_left; · (first | exact Nat.le_refl _ | (simp; done) | (simp; omega) | omega)) | (with_reducible apply Below.drew) | (with_reducible apply below_drewN') | (refine Below.trans ?_ (Below.mono (by assumption) (by first | exact Nat.le_refl _ | (simp; done) | (simp; omega) | omega))) | exact Below.refl _ _ | assumption))
  have hS0 := BMap.made ((((w.alloc (.cells #[.map (some b)] 85)).alloc (.cells #[.int .i64 level, .bool corners] 24)).alloc (.cells #[.int .i64 r, .int .i64 c] 39)).alloc (.cells #[.slice none 0 0, .int .i64 0, .int .i64 0, .int .i64 0] 42))
  simp only [World.size_alloc] at b4 b5 b6 hS0
  obtain ⟨wi, hrun, hS, hgi⟩ := hS0.put Tryz.underlying91 (by unfold maxLen; omega) true wrr wc
  have gne : ∀ {k : Nat}, k < w.heap.size + 1 + 1 + 1 + 1 → some k ≠ some (w.heap.size + 1 + 1 + 1 + 1) := fun hk e => by have := Option.some.inj e; omega
  replace b3 := (b3.alloc (.map #[] 0)).grown hgi (gne (by omega))
  replace b4 := (b4.alloc (.map #[] 0)).grown hgi (gne (by omega))
  replace b5 := (b5.alloc (.map #[] 0)).grown hgi (gne (by omega))
  replace b6 := (b6.alloc (.map #[] 0)).grown hgi (gne (by omega))
  replace hMw := (hMw.alloc (.map #[] 0)).kept hgi (gne (by have := hM.lt; omega))
  replace hBB := (hBB.alloc (Below.size hBB) (.map #[] 0)).grown hgi (by simp; omega) (fun k e => by cases e; omega)
  have c3 := b3.cell 0
  obtain ⟨c40, c41, _⟩ := blk2c b4
  obtain ⟨c50, c51, _⟩ := blk2c b5
  obtain ⟨c60, c61, c62, c63, _⟩ := blk4 b6
  have l3 := b3.lt; have l4 := b4.lt; have l5 := b5.lt; have l6 := b6.lt
  have lM := hMw.lt; have lS := hS.lt
  go_wp2_with fail
  have d7 := ((Blk.new wi 91 #[.map (some (w.heap.size + 1 + 1 + 1 + 1))]).alloc (.cells #[.int .i64 r, .int .i64 c] 39)).alloc (.cells #[.slice (some ⟨wi.heap.size + 1, 0, none⟩) 1 1, .int .i64 0, .int .i64 0, .int .i64 0] 42)
  have dr := (Blk.new (wi.alloc (.cells #[.map (some (w.heap.size + 1 + 1 + 1 + 1))] 91)) 39 #[.int .i64 r, .int .i64 c]).alloc (.cells #[.slice (some ⟨wi.heap.size + 1, 0, none⟩) 1 1, .int .i64 0, .int .i64 0, .int .i64 0] 42)
  have d8 := Blk.new ((wi.alloc (.cells #[.map (some (w.heap.size + 1 + 1 + 1 + 1))] 91)).alloc (.cells #[.int .i64 r, .int .i64 c] 39)) 42 #[.slice (some ⟨wi.heap.size + 1, 0, none⟩) 1 1, .int .i64 0, .int .i64 0, .int .i64 0]
  have hgr : Gr wi (((wi.alloc (.cells #[.map (some (w.heap.size + 1 + 1 + 1 + 1))] 91)).alloc (.cells #[.int .i64 r, .int .i64 c] 39)).alloc (.cells #[.slice (some ⟨wi.heap.size + 1, 0, none⟩) 1 1, .int .i64 0, .int .i64 0, .int .i64 0] 42)) := show Below wi.heap.size wi _ from (by repeat (first | (with_reducible exact Below.refl _ _) | (with_reducible assumption) | ((with_reducible refine Below.setCell ?_ ?_ _); rotate_left; · (first | exact Nat.le_refl _ | (simp; done) | (simp; omega) | omega)) | ((with_reducible refine Below.alloc ?_ ?_ _); rotate_left; · (first | exact Nat.le_refl _ | (simp; done) | (simp; omega) | omega)) | (with_reducible apply Below.drew) | (with_reducible apply below_drewN') | (refine Below.trans ?_ (Below.mono (by assumption) (by first | exact Nat.le_refl _ | (simp; done) | (simp; omega) | omega))) | exact Below.refl _ _ | assumption))
  simp only [World.size_alloc] at d8 dr
  obtain ⟨Wx, hWx⟩ : ∃ Wx, ((wi.alloc (.cells #[.map (some (w.heap.size + 1 + 1 + 1 + 1))] 91)).alloc (.cells #[.int .i64 r, .int .i64 c] 39)).alloc (.cells #[.slice (some ⟨wi.heap.size + 1, 0, none⟩) 1 1, .int .i64 0, .int .i64 0, .int .i64 0] 42) = Wx := ⟨_, rfl⟩
  rw [hWx] at d7 dr d8 hgr ⊢
  clear hWx
  have hzi := Below.size hBB
  have hAI : ArI w b n (w.heap.size + 1 + 1 + 1 + 1) w.heap.size (w.heap.size + 1) (w.heap.size + 1 + 1 + 1) wi.heap.size (wi.heap.size + 1 + 1) g level corners [(r, c)] (.slice (some ⟨wi.heap.size + 1, 0, none⟩) 1 1) Wx :=
    ⟨b3.gr hgr, b4.gr hgr, b6.gr hgr, d7, d8, hMw.gr hgr, by
      have hq := hS.gr hgr
      have e : (fun x y => decide ((x, y) ∈ [(r, c)])) = upd (fun _ _ => false) r c true := by
        funext x y
        unfold upd
        by_cases h : x = r ∧ y = c
        · rw [if_pos h]; simp [h]
        · rw [if_neg h]; simpa using h
      rw [e]; exact hq, ⟨rfl, .inr ⟨wi.heap.size + 1, 1, #[.int .i64 r, .int .i64 c], rfl, by omega, dr, Nat.le_refl _, by unfold maxLen; omega, rfl, rfl⟩⟩, hBB.trans (Below.mono hgr hzi)⟩
  have hBf := Bfs.start g level corners (r, c)
  have h68 : w.heap.size + 1 + 1 + 1 ≠ wi.heap.size + 1 + 1 := by omega
  clear d7 dr d8 hgr b3 b4 b5 b6 hMw hBB hS hgi hrun c3 c40 c41 c50 c51 c60 c61 c62 c63 l3 l4 l5 l6 lM lS hS0 gne
  obtain ⟨S, hS⟩ : ∃ S, w.heap.size + 1 + 1 + 1 + 1 = S := ⟨_, rfl⟩
  obtain ⟨B6, hB6⟩ : ∃ B6, w.heap.size + 1 + 1 + 1 = B6 := ⟨_, rfl⟩
  obtain ⟨B4, hB4⟩ : ∃ B4, w.heap.size + 1 = B4 := ⟨_, rfl⟩
  obtain ⟨B8, hB8⟩ : ∃ B8, wi.heap.size + 1 + 1 = B8 := ⟨_, rfl⟩
  obtain ⟨B7, hB7⟩ : ∃ B7, wi.heap.size = B7 := ⟨_, rfl⟩
  rw [hS, hB6, hB4, hB8] at hAI
  rw [hB6, hB8] at h68
  rw [hB8, hS, hB6, hB4]
  rw [hB7] at hAI ⊢
  have q6 : w.heap.size ≤ B6 ∧ w.heap.size ≤ B8 ∧ w.heap.size ≤ S ∧ w.heap.size ≤ B7 := by omega
  have hl := area_loop b n S B4 B6 B7 B8 g level corners (r, c) w hn hM.lt h68 hkn HA q6
  unfold bodyOf at hl
  conv at hl in (Option.getD _ Code.skip) => whnf
  refine hl _ ?_ 0 _ _ [] _ (by omega) hBf hAI (Marks.nil _ _)
  clear hl hBf hAI
  intro t0 t1 t2 t5 t10 t11 t12 t13 t14 t15 t16 t17 t18 t19 t20 t21 t22 t23 t24 t25 t26 t27 t28 t29 t30 t31 t32 t33 t34 t35 t36 t37 t38 t39 t40 t41 t42 t43 t44 t45 t46 t47 t48 t49 t50 t51 t52 t53 t54 t55 t56 t57 t58 t59 t60 t61 t62 t63 t64 t65 t66 t67 t68 t69 t70 t71 t72 t73 t74 t75 t76 t77 t78 t79 t80 t81 t82 t83 t84 t85 i L v Ds wr hBf hAI hMk
  have hb := hM.lt
  have hpos : 0 < L.length := List.length_pos_of_mem hBf.has
  obtain ⟨G, cap, rfl, hG, hGl⟩ := hAI.row.form hpos
  have hcs : ∀ x ∈ L, 0 ≤ g x.1 x.2 ∧ W64 x.1 ∧ W64 x.2 := fun x hx => by
    obtain ⟨gx, _⟩ := (abv_iff _ _ _ _).1 ((hBf.conn x hx).abv HA.out)
    obtain ⟨a1, a2⟩ := hkn.out _ _ gx
    exact ⟨gx, by unfold W64; omega, by unfold W64; omega⟩
  have hlen : L.length ≤ n := hAI.hM.count hBf.nodup hcs
  have HC : Hid (∀ x ∈ sortC L, 0 ≤ g x.1 x.2 ∧ W64 x.1 ∧ W64 x.2) := Lib.hid (fun x hx => hcs x ((sortC_perm L).mem_iff.1 hx))
  have HAR : Hid (AreaOk g level corners (r, c) (sortC L)) := Lib.hid hBf.area
  have HAI := Lib.hid hAI; have HMK := Lib.hid hMk
  have e8 := hAI.b8; have l8 := e8.lt
  obtain ⟨c80, c81, c82, c83, f8⟩ := blk4 e8
  clear hcs hBf hAI hMk wrr wc hg0 hg1 hr hc hmm
  go_wp2_with (go_at_call 35; refine (sortC_any w.heap.size G cap L _ HAI.out.row (by omega)).mono ?_; rintro e W1 ⟨rfl, hrow1, hg1⟩; refine RowKit.Hid.out ?_)
  refine Lib.hid ?_
  have hP0 := PkI.of_sort HAI.out hg1 hrow1 hb
  have hM1 := HMK.out.sorted HAI.out.row hg1
  have hls := sortC_length L
  obtain ⟨cs, hcs⟩ : ∃ cs, sortC L = cs := ⟨_, rfl⟩
  rw [hcs] at hP0 HC HAR hls
  clear hcs hrow1 HAI HMK e8 c80 c81 c82 c83 f8 l8 hg1 hGl
  have hposc : 0 < cs.length := by omega
  have HLS : Hid (cs.length ≤ 100000) := Lib.hid (by omega)
  clear hls hlen hpos
  obtain ⟨z0, z1⟩ := rowCell hP0.row hposc
  obtain ⟨z, hz⟩ : ∃ z, cs[0] = z := ⟨_, rfl⟩
  have HZ : Hid (cs.headD (0, 0) = z) := Lib.hid (by rw [← hz]; cases cs with | nil => simp at hposc | cons a l => rfl)
  have HZM : Hid (z ∈ cs) := Lib.hid (by rw [← hz]; exact List.getElem_mem hposc)
  rw [hz] at z0 z1
  rw [Nat.zero_mul] at z0 z1
  clear hz
  have e8 := hP0.b8; have l8 := e8.lt; have l3 := hP0.b3.lt
  obtain ⟨c80, c81, c82, c83, f8⟩ := blk4 e8
  obtain ⟨_, _, _, hGW⟩ := hP0.row.form hposc
  have hG8 : G ≠ B8 := fun e => own_blk_ne hP0.row e8 (by decide) (by rw [← e]; rfl)
  have hP1 := Lib.hid (hP0.peak hb h68 q6.2.1 z.1 z.2)
  have HM1 := Lib.hid ((hM1.setCell e8 (o := 1) (.int .i64 z.1)).setCell (e8.set_ 1 _) (o := 2) (.int .i64 z.2))
  clear hP0 hM1 e8
  go_wp2_with fail
  have hl2 := peak_loop b n B6 B8 G cap g cs w hb h68 q6.2.1 HC HLS.out Ds
  unfold bodyOf at hl2
  conv at hl2 in (Option.getD _ Code.skip) => whnf
  refine hl2 _ ?_ z HZ.out HZM.out _ hP1.out HM1.out
  clear hl2 hP1 HM1 HZ HZM z0 z1 c80 c81 c82 c83 f8 l8 l3 hG hGW hG8
  intro t0 t1 t2 t4 t5 t7 t9 t10 t11 t12 t13 t14 t15 t16 t17 t18 t19 t20 t21 t22 t23 t24 t25 t26 t27 t28 t29 t30 t31 t32 t33 t34 t35 t36 t37 t38 t39 t40 t41 t42 t43 t44 t45 t46 t47 t48 t49 t50 t51 t52 t53 t54 t55 t56 t57 t58 t59 t60 t61 t62 t66 t67 t68 t69 t70 t71 t72 t73 t74 t75 t76 t77 t78 t79 t80 t81 t82 t83 t84 t85 w2 hpm hP hMk
  obtain ⟨gp, p1, p2⟩ := HC.out _ hpm
  have HPV : Hid (∀ q, peakV g cs = q → PkI w b n B6 B8 G cap g cs q 0 w2) := Lib.hid (fun q e => by rw [← e]; exact hP)
  obtain ⟨q, hq⟩ : ∃ q, peakV g cs = q := ⟨_, rfl⟩
  rw [hq] at gp p1 p2
  have hP := HPV.out q hq
  have HQV := Lib.hid hq
  have hlk := hP.hM.look Tryz.underlying85 p1 p2
  rw [show pos (g q.1 q.2) = g q.1 q.2 from if_pos gp] at hlk
  have e3 := hP.b3; have c3 := e3.cell 0; have l3 := e3.lt
  have e6 := hP.b6; have l6 := e6.lt
  have e8 := hP.b8; have l8 := e8.lt
  obtain ⟨c60, c61, c62, c63, f6⟩ := blk4 e6
  obtain ⟨c80, c81, c82, c83, f8⟩ := blk4 e8
  have hPA := hP.amp hb h68 q6.2.1 (g q.1 q.2)
  have hO := Lib.hid (((((OutI.mk hPA.b6 hPA.row hPA.below (hMk.setCell e8 (o := 3) (.int .i64 (g q.1 q.2)))).set q6.1 0 (.slice (some ⟨G, 0, none⟩) cs.length cap)).set q6.1 1 (.int .i64 q.1)).set q6.1 2 (.int .i64 q.2)).set q6.1 3 (.int .i64 (g q.1 q.2)))
  clear hpm hq gp HPV hMk hPA hP e3 e6 e8
  go_wp2_with fail
  refine ret_marks hO.out.marks fun w' hs => ⟨_, results_row (t := 42) (cs := #[.slice (some ⟨G, 0, none⟩) cs.length cap, .int .i64 q.1, .int .i64 q.2, .int .i64 (g q.1 q.2)]) rfl _ _ B6 _ rfl (hs.blk hO.out.b6) Tryz.underlying42 rfl (by kernel_rfl), ?_⟩
  exact ⟨_, cs, by rw [HQV.out], HAR.out, hs.own hO.out.row, hO.out.below.trans hs.below⟩
end Go.Proofs.YtclpljbllnhhbaaGreat
