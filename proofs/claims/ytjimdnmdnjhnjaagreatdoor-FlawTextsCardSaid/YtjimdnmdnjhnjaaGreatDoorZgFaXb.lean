/- Contract: the area of a cell: the loops and the whole. Contract: the area of a cell: its peak. -/
import Derived.Deep.LoopGhost
import Derived.BigQuiet
import Derived.Test.YtjimdnmdnjhnjaaGreatDoorZgFaR
namespace Go.Proofs.YtjimdnmdnjhnjaaGreatDoor
open Go.RowKit Go.Shelf

attribute [local go_sem] Oper.semAt_some
attribute [local irreducible] nbV

set_option maxRecDepth 100000 in
set_option maxHeartbeats 4000000 in
theorem area_loop (b n S B4 B6 B7 B8 : Nat) (g : Int → Int → Int) (level : Int) (corners : Bool) (from_ : Int × Int) (w : World) (hn : n ≤ 100000) (hb : b < w.heap.size) (h68 : B6 ≠ B8) (hkn : Hid (∀ x y, 0 ≤ g x y → (-100000 ≤ x ∧ x ≤ 100023) ∧ (-100000 ≤ y ∧ y ≤ 100023))) (ha : Hid (abv g from_.1 from_.2 level = true))
    (q6 : w.heap.size ≤ B6 ∧ w.heap.size ≤ B8 ∧ w.heap.size ≤ S ∧ w.heap.size ≤ B7) (Q' : Exit → Act → World → Prop)
    (hexit : ∀ (t0 t1 t2 t5 t10 t11 t12 t13 t14 t15 t16 t17 t18 t19 t20 t21 t22 t23 t24 t25 t26 t27 t28 t29 t30 t31 t32 t33 t34 t35 t36 t37 t38 t39 t40 t41 t42 t43 t44 t45 t46 t47 t48 t49 t50 t51 t52 t53 t54 t55 t56 t57 t58 t59 t60 t61 t62 t63 t64 t65 t66 t67 t68 t69 t70 t71 t72 t73 t74 t75 t76 t77 t78 t79 t80 t81 t82 t83 t84 t85 : Value) (i : Nat) (L : List (Int × Int)) (v : Value) (Ds : List Nat) (wr : World), Bfs g level corners from_ L.length L → ArI w b n S w.heap.size B4 B6 B7 B8 g level corners L v wr → Marks w.heap.size Ds wr →
      Q' (.exit 0) ⟨#[t0, t1, t2, .pointer (some ⟨w.heap.size, 0, none⟩), .pointer (some ⟨B4, 0, none⟩), t5, .pointer (some ⟨B6, 0, none⟩), .pointer (some ⟨B7, 0, none⟩), .pointer (some ⟨B8, 0, none⟩), .int .i64 (i : Int), t10, t11, t12, t13, t14, t15, t16, t17, t18, t19, t20, t21, t22, t23, t24, t25, t26, t27, t28, t29, t30, t31, t32, t33, t34, t35, t36, t37, t38, t39, t40, t41, t42, t43, t44, t45, t46, t47, t48, t49, t50, t51, t52, t53, t54, t55, t56, t57, t58, t59, t60, t61, t62, t63, t64, t65, t66, t67, t68, t69, t70, t71, t72, t73, t74, t75, t76, t77, t78, t79, t80, t81, t82, t83, t84, t85], marksOf Ds⟩ wr)
    {t0 t1 t2 t5 t10 t11 t12 t13 t14 t15 t16 t17 t18 t19 t20 t21 t22 t23 t24 t25 t26 t27 t28 t29 t30 t31 t32 t33 t34 t35 t36 t37 t38 t39 t40 t41 t42 t43 t44 t45 t46 t47 t48 t49 t50 t51 t52 t53 t54 t55 t56 t57 t58 t59 t60 t61 t62 t63 t64 t65 t66 t67 t68 t69 t70 t71 t72 t73 t74 t75 t76 t77 t78 t79 t80 t81 t82 t83 t84 t85 : Value} (i : Nat) (L : List (Int × Int)) (v : Value) (Ds : List Nat) (wr : World) (hin : i ≤ n + 1) (hBf : Bfs g level corners from_ i L) (hAI : ArI w b n S w.heap.size B4 B6 B7 B8 g level corners L v wr) (hMk : Marks w.heap.size Ds wr) :
    (Code.loop (bodyOf Tryz.f36 0)).wp Tryz.prog Q' ⟨#[t0, t1, t2, .pointer (some ⟨w.heap.size, 0, none⟩), .pointer (some ⟨B4, 0, none⟩), t5, .pointer (some ⟨B6, 0, none⟩), .pointer (some ⟨B7, 0, none⟩), .pointer (some ⟨B8, 0, none⟩), .int .i64 (i : Int), t10, t11, t12, t13, t14, t15, t16, t17, t18, t19, t20, t21, t22, t23, t24, t25, t26, t27, t28, t29, t30, t31, t32, t33, t34, t35, t36, t37, t38, t39, t40, t41, t42, t43, t44, t45, t46, t47, t48, t49, t50, t51, t52, t53, t54, t55, t56, t57, t58, t59, t60, t61, t62, t63, t64, t65, t66, t67, t68, t69, t70, t71, t72, t73, t74, t75, t76, t77, t78, t79, t80, t81, t82, t83, t84, t85], marksOf Ds⟩ wr := by
  refine wp_loop_ghost (fun m a' wr => ∃ (z : Nat → Value) (i : Nat) (L : List (Int × Int)) (v : Value) (Ds : List Nat), a' = ⟨#[z 0, z 1, z 2, .pointer (some ⟨w.heap.size, 0, none⟩), .pointer (some ⟨B4, 0, none⟩), z 5, .pointer (some ⟨B6, 0, none⟩), .pointer (some ⟨B7, 0, none⟩), .pointer (some ⟨B8, 0, none⟩), .int .i64 (i : Int), z 10, z 11, z 12, z 13, z 14, z 15, z 16, z 17, z 18, z 19, z 20, z 21, z 22, z 23, z 24, z 25, z 26, z 27, z 28, z 29, z 30, z 31, z 32, z 33, z 34, z 35, z 36, z 37, z 38, z 39, z 40, z 41, z 42, z 43, z 44, z 45, z 46, z 47, z 48, z 49, z 50, z 51, z 52, z 53, z 54, z 55, z 56, z 57, z 58, z 59, z 60, z 61, z 62, z 63, z 64, z 65, z 66, z 67, z 68, z 69, z 70, z 71, z 72, z 73, z 74, z 75, z 76, z 77, z 78, z 79, z 80, z 81, z 82, z 83, z 84, z 85], marksOf Ds⟩ ∧ m + i = n + 1 ∧
    Bfs g level corners from_ i L ∧ ArI w b n S w.heap.size B4 B6 B7 B8 g level corners L v wr ∧ Marks w.heap.size Ds wr) (n + 1 - i) ⟨fun k => (#[t0, t1, t2, undef, undef, t5, undef, undef, undef, undef, t10, t11, t12, t13, t14, t15, t16, t17, t18, t19, t20, t21, t22, t23, t24, t25, t26, t27, t28, t29, t30, t31, t32, t33, t34, t35, t36, t37, t38, t39, t40, t41, t42, t43, t44, t45, t46, t47, t48, t49, t50, t51, t52, t53, t54, t55, t56, t57, t58, t59, t60, t61, t62, t63, t64, t65, t66, t67, t68, t69, t70, t71, t72, t73, t74, t75, t76, t77, t78, t79, t80, t81, t82, t83, t84, t85] : Array Value).getD k undef, i, L, v, Ds, rfl, by omega, hBf, hAI, hMk⟩ ?_
  clear hBf hAI hMk hin
  rintro m a' wr ⟨z, i, L, v, Ds, rfl, hmi, hBf, hAI, hMk⟩
  refine area_round b n S B4 B6 B7 B8 g level corners from_ w hn hb h68 hkn ha q6 i L v Ds wr hBf hAI hMk _ _ ?_ ?_
  · intro t0 t1 t2 t5 t10 t11 t12 t13 t14 t15 t16 t17 t18 t19 t20 t21 t22 t23 t24 t25 t26 t27 t28 t29 t30 t31 t32 t33 t34 t35 t36 t37 t38 t39 t40 t41 t42 t43 t44 t45 t46 t47 t48 t49 t50 t51 t52 t53 t54 t55 t56 t57 t58 t59 t60 t61 t62 t63 t64 t65 t66 t67 t68 t69 t70 t71 t72 t73 t74 t75 t76 t77 t78 t79 t80 t81 t82 t83 t84 t85 L v Ds wr h1 h2 h3 h4
    exact ⟨m - 1, by omega, fun k => (#[t0, t1, t2, undef, undef, t5, undef, undef, undef, undef, t10, t11, t12, t13, t14, t15, t16, t17, t18, t19, t20, t21, t22, t23, t24, t25, t26, t27, t28, t29, t30, t31, t32, t33, t34, t35, t36, t37, t38, t39, t40, t41, t42, t43, t44, t45, t46, t47, t48, t49, t50, t51, t52, t53, t54, t55, t56, t57, t58, t59, t60, t61, t62, t63, t64, t65, t66, t67, t68, t69, t70, t71, t72, t73, t74, t75, t76, t77, t78, t79, t80, t81, t82, t83, t84, t85] : Array Value).getD k undef, i + 1, L, v, Ds, rfl, by omega, h2, h3, h4⟩
  · intro t0 t1 t2 t5 t10 t11 t12 t13 t14 t15 t16 t17 t18 t19 t20 t21 t22 t23 t24 t25 t26 t27 t28 t29 t30 t31 t32 t33 t34 t35 t36 t37 t38 t39 t40 t41 t42 t43 t44 t45 t46 t47 t48 t49 t50 t51 t52 t53 t54 t55 t56 t57 t58 t59 t60 t61 t62 t63 t64 t65 t66 t67 t68 t69 t70 t71 t72 t73 t74 t75 t76 t77 t78 t79 t80 t81 t82 t83 t84 t85 h1
    exact hexit _ _ _ _ _ _ _ _ _ _ _ _ _ _ _ _ _ _ _ _ _ _ _ _ _ _ _ _ _ _ _ _ _ _ _ _ _ _ _ _ _ _ _ _ _ _ _ _ _ _ _ _ _ _ _ _ _ _ _ _ _ _ _ _ _ _ _ _ _ _ _ _ _ _ _ _ _ _ _ _ i L v Ds wr h1 hAI hMk
end Go.Proofs.YtjimdnmdnjhnjaaGreatDoor

namespace Go.Proofs.YtjimdnmdnjhnjaaGreatDoor
open Go.RowKit Go.Shelf

attribute [local go_sem] Oper.semAt_some
attribute [local irreducible] nbV

theorem grownBy_set (W : World) (a : Addr) (v : Value) : W.grownBy (W.setCell a v) (some a.block) :=
  ⟨rfl, rfl, rfl, (KeepsWalks.setCell W _ v).size, fun k _ hk => Below.heap_setCell _ _ _ k (fun e => hk (by rw [e]))⟩
theorem gr_drewN (W : World) (k : Nat) : Gr W (W.drewN k) := ⟨rfl, rfl, rfl, Nat.le_refl _, fun _ _ => rfl⟩
/-- The memory of the loop for the peak. -/
structure PkI (w : World) (b n B6 B8 G cap : Nat) (g : Int → Int → Int) (cs : List (Int × Int)) (p : Int × Int) (a : Int) (W : World) : Prop where
  b3 : Blk W w.heap.size 90 #[.map (some b)]
  b6 : Blk W B6 64 #[.slice none 0 0, .int .i64 0, .int .i64 0, .int .i64 0]
  b8 : Blk W B8 64 #[.slice (some ⟨G, 0, none⟩) cs.length cap, .int .i64 p.1, .int .i64 p.2, .int .i64 a]
  hM : FMap W b n g
  row : W.ownsRow w.heap.size 62 2 (.slice (some ⟨G, 0, none⟩) cs.length cap) cs.length (cellsC cs)
  below : Below w.heap.size w W
section
variable {w W W' : World} {b n B6 B8 G cap : Nat} {g : Int → Int → Int} {cs : List (Int × Int)} {p q : Int × Int} {a a' : Int}
theorem PkI.gr (h : PkI w b n B6 B8 G cap g cs p a W) (k : Gr W W') : PkI w b n B6 B8 G cap g cs p a W' :=
  ⟨h.b3.gr k, h.b6.gr k, h.b8.gr k, h.hM.gr k, own_below h.row k, h.below.trans (Below.mono k (Below.size h.below))⟩
theorem PkI.alloc (h : PkI w b n B6 B8 G cap g cs p a W) (o : Obj) : PkI w b n B6 B8 G cap g cs p a (W.alloc o) := h.gr ((Below.refl _ _).alloc (Nat.le_refl _) _)
theorem PkI.set1 (h : PkI w b n B6 B8 G cap g cs p a W) (hb : b < w.heap.size) (h68 : B6 ≠ B8) (h8 : w.heap.size ≤ B8) (k : Nat) (x : Int) {cs' : Array Value} (e : (#[.slice (some ⟨G, 0, none⟩) cs.length cap, .int .i64 p.1, .int .i64 p.2, .int .i64 a] : Array Value).setIfInBounds k (.int .i64 x) = cs')
    (hq : cs' = #[.slice (some ⟨G, 0, none⟩) cs.length cap, .int .i64 q.1, .int .i64 q.2, .int .i64 a']) : PkI w b n B6 B8 G cap g cs q a' (W.setCell ⟨B8, k, none⟩ (.int .i64 x)) := by
  refine ⟨h.b3.far (Blk.ne_ h.b3 h.b8 (by decide)) _, h.b6.far h68 _, ?_, FMap.setCell h.hM (show b ≠ B8 by omega) _, ?_, ?_⟩
  · have := h.b8.set_ k (.int .i64 x)
    rw [e, hq] at this
    exact this
  · exact h.row.kept (grownBy_set _ _ _) (.inr (own_blk_ne h.row h.b8 (by decide)))
  · exact h.below.grown (grownBy_set _ _ _) (Below.size h.below) (fun r e => by cases e; exact h8)
theorem PkI.peak (h : PkI w b n B6 B8 G cap g cs p a W) (hb : b < w.heap.size) (h68 : B6 ≠ B8) (h8 : w.heap.size ≤ B8) (x y : Int) : PkI w b n B6 B8 G cap g cs (x, y) a ((W.setCell ⟨B8, 1, none⟩ (.int .i64 x)).setCell ⟨B8, 2, none⟩ (.int .i64 y)) :=
  (h.set1 (q := (x, p.2)) hb h68 h8 1 x rfl rfl).set1 (q := (x, y)) hb h68 h8 2 y rfl rfl
theorem PkI.amp (h : PkI w b n B6 B8 G cap g cs p a W) (hb : b < w.heap.size) (h68 : B6 ≠ B8) (h8 : w.heap.size ≤ B8) (x : Int) : PkI w b n B6 B8 G cap g cs p x (W.setCell ⟨B8, 3, none⟩ (.int .i64 x)) :=
  h.set1 hb h68 h8 3 x rfl rfl
end
abbrev pkF (g : Int → Int → Int) (p x : Int × Int) : Int × Int := if g p.1 p.2 < g x.1 x.2 then x else p

set_option maxRecDepth 100000 in
set_option maxHeartbeats 4000000 in
theorem peak_round (b n B6 B8 G cap : Nat) (g : Int → Int → Int) (cs : List (Int × Int)) (w : World) (hb : b < w.heap.size) (h68 : B6 ≠ B8) (h8 : w.heap.size ≤ B8) (hkn : Hid (∀ x ∈ cs, 0 ≤ g x.1 x.2 ∧ W64 x.1 ∧ W64 x.2)) (hlen : cs.length ≤ 100000) (i : Nat) (hi : i ≤ cs.length) (p : Int × Int) (hp : Hid (p ∈ cs)) (Ds : List Nat) (wr : World)
    (hI : PkI w b n B6 B8 G cap g cs p 0 wr) (hMk : Marks w.heap.size Ds wr)
    (K' : Act → World → Prop) (Q' : Exit → Act → World → Prop) {t0 t1 t2 t4 t5 t7 t9 t10 t11 t12 t13 t14 t15 t16 t17 t18 t19 t20 t21 t22 t23 t24 t25 t26 t27 t28 t29 t30 t31 t32 t33 t34 t35 t36 t37 t38 t39 t40 t41 t42 t43 t44 t45 t46 t47 t48 t49 t50 t51 t52 t53 t54 t55 t56 t57 t58 t59 t60 t61 t62 t66 t67 t68 t69 t70 t71 t72 t73 t74 t75 t76 t77 t78 t79 t80 t81 t82 t83 t84 t85 : Value}
    (hnext : ∀ (t0 t1 t2 t4 t5 t7 t9 t10 t11 t12 t13 t14 t15 t16 t17 t18 t19 t20 t21 t22 t23 t24 t25 t26 t27 t28 t29 t30 t31 t32 t33 t34 t35 t36 t37 t38 t39 t40 t41 t42 t43 t44 t45 t46 t47 t48 t49 t50 t51 t52 t53 t54 t55 t56 t57 t58 t59 t60 t61 t62 t66 t67 t68 t69 t70 t71 t72 t73 t74 t75 t76 t77 t78 t79 t80 t81 t82 t83 t84 t85 : Value) (h : i < cs.length) (wr : World), PkI w b n B6 B8 G cap g cs (pkF g p cs[i]) 0 wr → Marks w.heap.size Ds wr → K' ⟨#[t0, t1, t2, .pointer (some ⟨w.heap.size, 0, none⟩), t4, t5, .pointer (some ⟨B6, 0, none⟩), t7, .pointer (some ⟨B8, 0, none⟩), t9, t10, t11, t12, t13, t14, t15, t16, t17, t18, t19, t20, t21, t22, t23, t24, t25, t26, t27, t28, t29, t30, t31, t32, t33, t34, t35, t36, t37, t38, t39, t40, t41, t42, t43, t44, t45, t46, t47, t48, t49, t50, t51, t52, t53, t54, t55, t56, t57, t58, t59, t60, t61, t62, .slice (some ⟨G, 0, none⟩) cs.length cap, .int .i64 (cs.length : Int), .int .i64 ((i + 1 : Nat) : Int), t66, t67, t68, t69, t70, t71, t72, t73, t74, t75, t76, t77, t78, t79, t80, t81, t82, t83, t84, t85], marksOf Ds⟩ wr)
    (hexit : ∀ (t0 t1 t2 t4 t5 t7 t9 t10 t11 t12 t13 t14 t15 t16 t17 t18 t19 t20 t21 t22 t23 t24 t25 t26 t27 t28 t29 t30 t31 t32 t33 t34 t35 t36 t37 t38 t39 t40 t41 t42 t43 t44 t45 t46 t47 t48 t49 t50 t51 t52 t53 t54 t55 t56 t57 t58 t59 t60 t61 t62 t66 t67 t68 t69 t70 t71 t72 t73 t74 t75 t76 t77 t78 t79 t80 t81 t82 t83 t84 t85 : Value), i = cs.length → Q' (.exit 4) ⟨#[t0, t1, t2, .pointer (some ⟨w.heap.size, 0, none⟩), t4, t5, .pointer (some ⟨B6, 0, none⟩), t7, .pointer (some ⟨B8, 0, none⟩), t9, t10, t11, t12, t13, t14, t15, t16, t17, t18, t19, t20, t21, t22, t23, t24, t25, t26, t27, t28, t29, t30, t31, t32, t33, t34, t35, t36, t37, t38, t39, t40, t41, t42, t43, t44, t45, t46, t47, t48, t49, t50, t51, t52, t53, t54, t55, t56, t57, t58, t59, t60, t61, t62, .slice (some ⟨G, 0, none⟩) cs.length cap, .int .i64 (cs.length : Int), .int .i64 (i : Int), t66, t67, t68, t69, t70, t71, t72, t73, t74, t75, t76, t77, t78, t79, t80, t81, t82, t83, t84, t85], marksOf Ds⟩ wr) :
    (bodyOf Tryz.f36 1).wp Tryz.prog (Exit.then K' Q') ⟨#[t0, t1, t2, .pointer (some ⟨w.heap.size, 0, none⟩), t4, t5, .pointer (some ⟨B6, 0, none⟩), t7, .pointer (some ⟨B8, 0, none⟩), t9, t10, t11, t12, t13, t14, t15, t16, t17, t18, t19, t20, t21, t22, t23, t24, t25, t26, t27, t28, t29, t30, t31, t32, t33, t34, t35, t36, t37, t38, t39, t40, t41, t42, t43, t44, t45, t46, t47, t48, t49, t50, t51, t52, t53, t54, t55, t56, t57, t58, t59, t60, t61, t62, .slice (some ⟨G, 0, none⟩) cs.length cap, .int .i64 (cs.length : Int), .int .i64 (i : Int), t66, t67, t68, t69, t70, t71, t72, t73, t74, t75, t76, t77, t78, t79, t80, t81, t82, t83, t84, t85], marksOf Ds⟩ wr := by
  have HN := Lib.hid hnext; have HX := Lib.hid hexit
  clear hnext hexit
  conv in (bodyOf _ _) => whnf
  by_cases hlt : i < cs.length
  · obtain ⟨p0, p1⟩ := rowCell hI.row hlt
    obtain ⟨g0, x1, x2⟩ := hkn.out _ (List.getElem_mem hlt)
    obtain ⟨gp, y1, y2⟩ := hkn.out _ hp.out
    obtain ⟨x, hx⟩ : ∃ x, cs[i] = x := ⟨_, rfl⟩
    have HS : Hid (∀ q wq, pkF g p x = q → PkI w b n B6 B8 G cap g cs q 0 wq → PkI w b n B6 B8 G cap g cs (pkF g p cs[i]) 0 wq) := Lib.hid (fun q wq e h => by rw [hx, e]; exact h)
    rw [hx] at p0 p1 g0 x1 x2
    clear hx
    have hI1 := hI.alloc (.cells #[.int .i64 x.1, .int .i64 x.2] 62)
    have hm1 := hMk.alloc (.cells #[.int .i64 x.1, .int .i64 x.2] 62)
    have l1 := fun k => (hI1.hM.gr (gr_drewN _ k)).look Tryz.underlying90 x1 x2
    have l2 := fun k => (hI1.hM.gr (gr_drewN _ k)).look Tryz.underlying90 y1 y2
    have bx := Blk.new wr 62 #[.int .i64 x.1, .int .i64 x.2]
    have e3 := hI.b3; have c3 := e3.cell 0; have l3 := e3.lt
    have e8 := hI.b8; have l8 := e8.lt
    obtain ⟨c80, c81, c82, c83, f8⟩ := blk4 e8
    have pe1 : pos (g x.1 x.2) = g x.1 x.2 := if_pos g0
    have pe2 : pos (g p.1 p.2) = g p.1 p.2 := if_pos gp
    simp only [pe1] at l1; simp only [pe2] at l2
    have HI := Lib.hid hI1; have HM := Lib.hid hm1
    clear hI hMk hI1 hm1 pe1 pe2 g0 gp
    by_cases hg : g p.1 p.2 < g x.1 x.2
    · have HE : Hid (pkF g p x = x) := Lib.hid (if_pos hg)
      have hd : decide (g p.1 p.2 < g x.1 x.2) = true := by simpa using hg
      clear hg
      go_wp2_with fail
      go_quiet (fail)
      go_wp2_with fail
      have hJ := HI.out.gr (gr_drewN _ nq)
      have hM := HM.out.gr (gr_drewN _ nq)
      exact HN.out _ _ _ _ _ _ _ _ _ _ _ _ _ _ _ _ _ _ _ _ _ _ _ _ _ _ _ _ _ _ _ _ _ _ _ _ _ _ _ _ _ _ _ _ _ _ _ _ _ _ _ _ _ _ _ _ _ _ _ _ _ _ _ _ _ _ _ _ _ _ _ _ _ _ _ _ _ _ _ _ hlt _ (HS.out _ _ HE.out (hJ.peak hb h68 h8 x.1 x.2)) ((hM.setCell hJ.b8 _).setCell (hJ.b8.set_ 1 _) _)
    · have HE : Hid (pkF g p x = p) := Lib.hid (if_neg hg)
      have hd : decide (g p.1 p.2 < g x.1 x.2) = false := by simpa using hg
      clear hg
      go_wp2_with fail
      go_quiet (fail)
      go_wp2_with fail
      exact HN.out _ _ _ _ _ _ _ _ _ _ _ _ _ _ _ _ _ _ _ _ _ _ _ _ _ _ _ _ _ _ _ _ _ _ _ _ _ _ _ _ _ _ _ _ _ _ _ _ _ _ _ _ _ _ _ _ _ _ _ _ _ _ _ _ _ _ _ _ _ _ _ _ _ _ _ _ _ _ _ _ hlt _ (HS.out _ _ HE.out (HI.out.gr (gr_drewN _ nq))) (HM.out.gr (gr_drewN _ nq))
  · obtain rfl : i = cs.length := by omega
    go_wp2
    exact HX.out _ _ _ _ _ _ _ _ _ _ _ _ _ _ _ _ _ _ _ _ _ _ _ _ _ _ _ _ _ _ _ _ _ _ _ _ _ _ _ _ _ _ _ _ _ _ _ _ _ _ _ _ _ _ _ _ _ _ _ _ _ _ _ _ _ _ _ _ _ _ _ _ _ _ _ _ _ _ _ _ trivial

theorem pk_take (g : Int → Int → Int) (cs : List (Int × Int)) (z : Int × Int) {i : Nat} (h : i < cs.length) : (cs.take (i + 1)).foldl (pkF g) z = pkF g ((cs.take i).foldl (pkF g) z) cs[i] := by
  rw [List.take_succ_eq_append_getElem h, List.foldl_append]; rfl
theorem pkF_mem {g : Int → Int → Int} {cs : List (Int × Int)} {p x : Int × Int} (hp : p ∈ cs) (hx : x ∈ cs) : pkF g p x ∈ cs := by
  unfold pkF; split
  · exact hx
  · exact hp
set_option maxRecDepth 100000 in
set_option maxHeartbeats 4000000 in
theorem peak_loop (b n B6 B8 G cap : Nat) (g : Int → Int → Int) (cs : List (Int × Int)) (w : World) (hb : b < w.heap.size) (h68 : B6 ≠ B8) (h8 : w.heap.size ≤ B8) (hkn : Hid (∀ x ∈ cs, 0 ≤ g x.1 x.2 ∧ W64 x.1 ∧ W64 x.2)) (hlen : cs.length ≤ 100000) (Ds : List Nat)
    (Q' : Exit → Act → World → Prop)
    (hexit : ∀ (t0 t1 t2 t4 t5 t7 t9 t10 t11 t12 t13 t14 t15 t16 t17 t18 t19 t20 t21 t22 t23 t24 t25 t26 t27 t28 t29 t30 t31 t32 t33 t34 t35 t36 t37 t38 t39 t40 t41 t42 t43 t44 t45 t46 t47 t48 t49 t50 t51 t52 t53 t54 t55 t56 t57 t58 t59 t60 t61 t62 t66 t67 t68 t69 t70 t71 t72 t73 t74 t75 t76 t77 t78 t79 t80 t81 t82 t83 t84 t85 : Value) (wr : World), peakV g cs ∈ cs → PkI w b n B6 B8 G cap g cs (peakV g cs) 0 wr → Marks w.heap.size Ds wr → Q' (.exit 4) ⟨#[t0, t1, t2, .pointer (some ⟨w.heap.size, 0, none⟩), t4, t5, .pointer (some ⟨B6, 0, none⟩), t7, .pointer (some ⟨B8, 0, none⟩), t9, t10, t11, t12, t13, t14, t15, t16, t17, t18, t19, t20, t21, t22, t23, t24, t25, t26, t27, t28, t29, t30, t31, t32, t33, t34, t35, t36, t37, t38, t39, t40, t41, t42, t43, t44, t45, t46, t47, t48, t49, t50, t51, t52, t53, t54, t55, t56, t57, t58, t59, t60, t61, t62, .slice (some ⟨G, 0, none⟩) cs.length cap, .int .i64 (cs.length : Int), .int .i64 (cs.length : Int), t66, t67, t68, t69, t70, t71, t72, t73, t74, t75, t76, t77, t78, t79, t80, t81, t82, t83, t84, t85], marksOf Ds⟩ wr)
    {t0 t1 t2 t4 t5 t7 t9 t10 t11 t12 t13 t14 t15 t16 t17 t18 t19 t20 t21 t22 t23 t24 t25 t26 t27 t28 t29 t30 t31 t32 t33 t34 t35 t36 t37 t38 t39 t40 t41 t42 t43 t44 t45 t46 t47 t48 t49 t50 t51 t52 t53 t54 t55 t56 t57 t58 t59 t60 t61 t62 t66 t67 t68 t69 t70 t71 t72 t73 t74 t75 t76 t77 t78 t79 t80 t81 t82 t83 t84 t85 : Value} (z : Int × Int) (h0 : cs.headD (0, 0) = z) (hz : z ∈ cs) (wr : World) (hI : PkI w b n B6 B8 G cap g cs z 0 wr) (hMk : Marks w.heap.size Ds wr) :
    (Code.loop (bodyOf Tryz.f36 1)).wp Tryz.prog Q' ⟨#[t0, t1, t2, .pointer (some ⟨w.heap.size, 0, none⟩), t4, t5, .pointer (some ⟨B6, 0, none⟩), t7, .pointer (some ⟨B8, 0, none⟩), t9, t10, t11, t12, t13, t14, t15, t16, t17, t18, t19, t20, t21, t22, t23, t24, t25, t26, t27, t28, t29, t30, t31, t32, t33, t34, t35, t36, t37, t38, t39, t40, t41, t42, t43, t44, t45, t46, t47, t48, t49, t50, t51, t52, t53, t54, t55, t56, t57, t58, t59, t60, t61, t62, .slice (some ⟨G, 0, none⟩) cs.length cap, .int .i64 (cs.length : Int), .int .i64 ((0 : Nat) : Int), t66, t67, t68, t69, t70, t71, t72, t73, t74, t75, t76, t77, t78, t79, t80, t81, t82, t83, t84, t85], marksOf Ds⟩ wr := by
  refine wp_loop_ghost (fun m a' wr => ∃ (zf : Nat → Value) (i : Nat) (p : Int × Int), a' = ⟨#[zf 0, zf 1, zf 2, .pointer (some ⟨w.heap.size, 0, none⟩), zf 4, zf 5, .pointer (some ⟨B6, 0, none⟩), zf 7, .pointer (some ⟨B8, 0, none⟩), zf 9, zf 10, zf 11, zf 12, zf 13, zf 14, zf 15, zf 16, zf 17, zf 18, zf 19, zf 20, zf 21, zf 22, zf 23, zf 24, zf 25, zf 26, zf 27, zf 28, zf 29, zf 30, zf 31, zf 32, zf 33, zf 34, zf 35, zf 36, zf 37, zf 38, zf 39, zf 40, zf 41, zf 42, zf 43, zf 44, zf 45, zf 46, zf 47, zf 48, zf 49, zf 50, zf 51, zf 52, zf 53, zf 54, zf 55, zf 56, zf 57, zf 58, zf 59, zf 60, zf 61, zf 62, .slice (some ⟨G, 0, none⟩) cs.length cap, .int .i64 (cs.length : Int), .int .i64 (i : Int), zf 66, zf 67, zf 68, zf 69, zf 70, zf 71, zf 72, zf 73, zf 74, zf 75, zf 76, zf 77, zf 78, zf 79, zf 80, zf 81, zf 82, zf 83, zf 84, zf 85], marksOf Ds⟩ ∧ m + i = cs.length ∧ p ∈ cs ∧ p = (cs.take i).foldl (pkF g) z ∧ PkI w b n B6 B8 G cap g cs p 0 wr ∧ Marks w.heap.size Ds wr) cs.length ⟨fun k => (#[t0, t1, t2, undef, t4, t5, undef, t7, undef, t9, t10, t11, t12, t13, t14, t15, t16, t17, t18, t19, t20, t21, t22, t23, t24, t25, t26, t27, t28, t29, t30, t31, t32, t33, t34, t35, t36, t37, t38, t39, t40, t41, t42, t43, t44, t45, t46, t47, t48, t49, t50, t51, t52, t53, t54, t55, t56, t57, t58, t59, t60, t61, t62, undef, undef, undef, t66, t67, t68, t69, t70, t71, t72, t73, t74, t75, t76, t77, t78, t79, t80, t81, t82, t83, t84, t85] : Array Value).getD k undef, 0, z, rfl, by omega, hz, rfl, hI, hMk⟩ ?_
  clear hI hMk
  rintro m a' wr ⟨zf, i, p, rfl, hmi, hpm, hpv, hI, hMk⟩
  refine peak_round b n B6 B8 G cap g cs w hb h68 h8 hkn hlen i (by omega) p (Lib.hid hpm) Ds wr hI hMk _ _ ?_ ?_
  · intro t0 t1 t2 t4 t5 t7 t9 t10 t11 t12 t13 t14 t15 t16 t17 t18 t19 t20 t21 t22 t23 t24 t25 t26 t27 t28 t29 t30 t31 t32 t33 t34 t35 t36 t37 t38 t39 t40 t41 t42 t43 t44 t45 t46 t47 t48 t49 t50 t51 t52 t53 t54 t55 t56 t57 t58 t59 t60 t61 t62 t66 t67 t68 t69 t70 t71 t72 t73 t74 t75 t76 t77 t78 t79 t80 t81 t82 t83 t84 t85 hlt wr h1 h2
    exact ⟨m - 1, by omega, fun k => (#[t0, t1, t2, undef, t4, t5, undef, t7, undef, t9, t10, t11, t12, t13, t14, t15, t16, t17, t18, t19, t20, t21, t22, t23, t24, t25, t26, t27, t28, t29, t30, t31, t32, t33, t34, t35, t36, t37, t38, t39, t40, t41, t42, t43, t44, t45, t46, t47, t48, t49, t50, t51, t52, t53, t54, t55, t56, t57, t58, t59, t60, t61, t62, undef, undef, undef, t66, t67, t68, t69, t70, t71, t72, t73, t74, t75, t76, t77, t78, t79, t80, t81, t82, t83, t84, t85] : Array Value).getD k undef, i + 1, pkF g p cs[i], rfl, by omega, pkF_mem hpm (List.getElem_mem hlt), by rw [pk_take g cs z hlt, ← hpv], h1, h2⟩
  · intro t0 t1 t2 t4 t5 t7 t9 t10 t11 t12 t13 t14 t15 t16 t17 t18 t19 t20 t21 t22 t23 t24 t25 t26 t27 t28 t29 t30 t31 t32 t33 t34 t35 t36 t37 t38 t39 t40 t41 t42 t43 t44 t45 t46 t47 t48 t49 t50 t51 t52 t53 t54 t55 t56 t57 t58 t59 t60 t61 t62 t66 t67 t68 t69 t70 t71 t72 t73 t74 t75 t76 t77 t78 t79 t80 t81 t82 t83 t84 t85 h1
    subst h1
    have e : p = peakV g cs := by rw [hpv, List.take_length, ← h0]; rfl
    subst e
    exact hexit _ _ _ _ _ _ _ _ _ _ _ _ _ _ _ _ _ _ _ _ _ _ _ _ _ _ _ _ _ _ _ _ _ _ _ _ _ _ _ _ _ _ _ _ _ _ _ _ _ _ _ _ _ _ _ _ _ _ _ _ _ _ _ _ _ _ _ _ _ _ _ _ _ _ _ _ _ _ _ _ wr hpm hI hMk
end Go.Proofs.YtjimdnmdnjhnjaaGreatDoor
