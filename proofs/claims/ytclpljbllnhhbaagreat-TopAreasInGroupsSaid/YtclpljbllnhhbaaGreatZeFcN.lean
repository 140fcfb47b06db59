/- Grouped: a mark's own group takes in all groups that it meets (the inner loop). Grouped: the loop over the marks. Contracts: slices.Sorted(slices.Values(..)) of ints: the iterator over a slice, what is collected of it, and sorted. Grouped: the rows of numbers are sorted by their first numbers. Grouped: the loops as wholes. Contract: the groups of marks. -/
import Derived.Deep.Onto
import Derived.RangeFuncBox
import Derived.RangeFuncLeaves
import Derived.Shelf.Abstract
import Derived.WalkKit
import Derived.OwnWalkIn
import Derived.TacticsInMore
import Derived.LoopNIn
import Derived.LoopIn
import Derived.Maps.AppendAt
import Derived.Sort.OwnSortedInts
import Derived.Test.YtclpljbllnhhbaaGreatZeFcH
import Derived.Test.YtclpljbllnhhbaaGreatZeFaR
import Derived.Test.YtclpljbllnhhbaaGreatZeFaN
import Derived.Test.YtclpljbllnhhbaaGreatZeShB
import Derived.Test.YtclpljbllnhhbaaGreatZeFaO
namespace Go.Proofs.YtclpljbllnhhbaaGreat
open Go.RowKit

/-- A group: its numbers, its hull. -/
abbrev PG := List Int × Mk
def Gp.p (g : Gp) : PG := (g.ns, g.m)
def meetP (r : Ru) (o g : PG) : Bool := interactV g.2 o.2 r
/-- A group takes in all that it meets, one behind the other. -/
def absorbV (r : Ru) : Nat → PG → List PG → PG × List PG
  | 0, o, gs => (o, gs)
  | f + 1, o, gs => match gs.findIdx? (meetP r o) with
    | none => (o, gs)
    | some k => absorbV r f (o.1 ++ (gs[k]?.getD o).1, hullV o.2 (gs[k]?.getD o).2) (gs.eraseIdx k)
theorem absorbV_none {r : Ru} {n : Nat} {o : PG} {gs : List PG} (h : gs.any (meetP r o) = false) : absorbV r n o gs = (o, gs) := by
  cases n with
  | zero => rfl
  | succ n =>
    have : gs.findIdx? (meetP r o) = none := by
      rw [List.findIdx?_eq_none_iff]
      intro x hx
      exact (List.any_eq_false.1 h x hx) |> fun h => by simpa using h
    unfold absorbV; rw [this]
theorem absorbV_some {r : Ru} {n : Nat} {o : PG} {gs : List PG} {k : Nat} (hk : k < gs.length) (h : meetP r o gs[k] = true) (hb : (gs.take k).any (meetP r o) = false) :
    absorbV r (n + 1) o gs = absorbV r n (o.1 ++ gs[k].1, hullV o.2 gs[k].2) (gs.eraseIdx k) := by
  have : gs.findIdx? (meetP r o) = some k := by
    rw [List.findIdx?_eq_some_iff_getElem]
    refine ⟨hk, h, fun j hj => ?_⟩
    have := List.any_eq_false.1 hb gs[j] (by rw [List.mem_take_iff_getElem]; exact ⟨j, by omega, rfl⟩)
    simpa using this
  show (match gs.findIdx? (meetP r o) with
    | none => (o, gs)
    | some k => absorbV r n (o.1 ++ (gs[k]?.getD o).1, hullV o.2 (gs[k]?.getD o).2) (gs.eraseIdx k)) = _
  rw [this]
  show absorbV r n (o.1 ++ (gs[k]?.getD o).1, hullV o.2 (gs[k]?.getD o).2) (gs.eraseIdx k) = _
  rw [List.getElem?_eq_getElem hk]; rfl
theorem map_erase {α β : Type} (f : α → β) : ∀ (l : List α) (k : Nat), (l.eraseIdx k).map f = (l.map f).eraseIdx k
  | [], _ => by simp
  | a :: l, 0 => by simp
  | a :: l, k + 1 => by simp only [List.eraseIdx_cons_succ, List.map_cons]; rw [map_erase f l k]

theorem mem_le_sum : ∀ {l : List Nat} {x : Nat}, x ∈ l → x ≤ l.sum
  | a :: l, x, h => by
    rw [List.sum_cons]
    rcases List.mem_cons.1 h with rfl | h
    · omega
    · have := mem_le_sum h; omega
theorem sum_erase : ∀ (l : List Nat) (k : Nat) (h : k < l.length), (l.eraseIdx k).sum + l[k] = l.sum
  | a :: l, 0, _ => by simp; omega
  | a :: l, k + 1, h => by
    have := sum_erase l k (by simpa using h)
    simp only [List.eraseIdx_cons_succ, List.sum_cons, List.getElem_cons_succ]; omega
/-- What holds of the numbers and hulls. -/
structure GrS (os : List Int) (om : Mk) (Gs : List Gp) : Prop where
  pos : 0 < os.length
  each : ∀ g ∈ Gs, 0 < g.ns.length
  om : MkS om
  ms : ∀ g ∈ Gs, MkS g.m
  cnt : os.length + (Gs.map fun g => g.ns.length).sum ≤ 100
  len : Gs.length ≤ 100
theorem GrS.le {os : List Int} {om : Mk} {Gs : List Gp} (h : GrS os om Gs) {g : Gp} (hg : g ∈ Gs) : os.length + g.ns.length ≤ 100 := by
  have := mem_le_sum (List.mem_map_of_mem (f := fun g : Gp => g.ns.length) hg)
  have := h.cnt; omega
theorem GrS.take {os : List Int} {om : Mk} {Gs : List Gp} (h : GrS os om Gs) {k : Nat} (hk : k < Gs.length) : GrS (os ++ Gs[k].ns) (hullV om Gs[k].m) (Gs.eraseIdx k) := by
  have hs := sum_erase (Gs.map fun g => g.ns.length) k (by simpa using hk)
  have e : ((Gs.eraseIdx k).map fun g => g.ns.length) = (Gs.map fun g => g.ns.length).eraseIdx k := map_erase _ _ _
  refine ⟨by rw [List.length_append]; have := h.pos; omega, fun g hg => h.each g (List.mem_of_mem_eraseIdx hg), h.om.hull (h.ms _ (List.getElem_mem hk)), fun g hg => h.ms g (List.mem_of_mem_eraseIdx hg), ?_, ?_⟩
  · rw [e, List.length_append]
    have := h.cnt
    simp only [List.getElem_map] at hs
    omega
  · rw [List.length_eraseIdx_of_lt hk]; have := h.len; omega

section
variable {w W W' : World} {N b3 : Nat} {r : Ru} {Gs : List Gp} {vg vo : Value} {os : List Int}
theorem GrR.form (h : GrR w N b3 r Gs vg vo os W) : ∃ A c, vg = .slice A Gs.length c ∧ Row W N 7 A Gs.length (gpsC Gs) := by
  rcases h.grow.2 with ⟨rfl, h0⟩ | ⟨g, cap, cur, rfl, _⟩
  · exact ⟨none, 0, by rw [h0], gpsC_length _, fun hn => by omega⟩
  · refine ⟨_, _, rfl, gpsC_length _, fun _ => ⟨g, 0, rfl, h.vlt g rfl, fun j u hj => ?_⟩⟩
    have := h.grow.cells (g := g) rfl j u hj
    rw [Nat.zero_add]
    rwa [Addr.add_lit, Nat.zero_add] at this
theorem gpsC_one {B : Nat} {W : World} {N : Nat} {Gs : List Gp} (hp : ∀ g ∈ Gs, 0 < g.ns.length) (hr : ∀ g ∈ Gs, NsOk B W N g) : ∀ u ∈ gpsC Gs, u.oneCell' = true := by
  intro u hu
  obtain ⟨g, hg, hu⟩ := List.mem_flatMap.1 hu
  obtain ⟨gk, ck, hv, _, _⟩ := (hr g hg).1.form (hp g hg)
  simp only [gpL, List.mem_cons, List.not_mem_nil, or_false] at hu
  rcases hu with rfl | rfl | rfl | rfl | rfl | rfl | rfl
  · rw [hv]; rfl
  all_goals rfl
theorem GrR.erase (h : GrR w N b3 r Gs vg vo os W) {k : Nat} {vg' : Value} (ho : W'.ownsRow w.heap.size 98 7 vg' (Gs.eraseIdx k).length (gpsC (Gs.eraseIdx k))) (hg : W.grownBy W' vg.ownBlock) (hv : ∀ j, vg'.ownBlock = some j → j < N) : GrR w N b3 r (Gs.eraseIdx k) vg' vo os W' :=
  ⟨h.rule.grown hg (fun e => own_blk_ne h.grow h.rule (by decide) e.symm), h.orow.kept hg (own_two h.orow h.grow (by decide)), ho,
    fun g hg' => ⟨(h.rows g (List.mem_of_mem_eraseIdx hg')).1.kept hg (own_two (h.rows g (List.mem_of_mem_eraseIdx hg')).1 h.grow (by decide)), (h.rows g (List.mem_of_mem_eraseIdx hg')).2⟩,
    below_own h.below (Nat.le_refl _) h.grow hg, h.base, Nat.le_trans h.nlt hg.size, hv, h.b3lt⟩
end

set_option maxRecDepth 100000 in
set_option maxHeartbeats 4000000 in
theorem absorb_round (u24 u25 u26 : Value) (w : World) (N b3 b10 : Nat) (r : Ru) (hr : RuS r) (Gs : List Gp) (vg vo : Value) (os : List Int) (om : Mk) (wr : World) (M : GrR w N b3 r Gs vg vo os wr) (bo : Blk wr b10 98 (gpA vo om)) (hb10 : N ≤ b10) (S : GrS os om Gs) (T : PG × List PG)
    (hT : absorbV r Gs.length (os, om) (Gs.map Gp.p) = T) (K' : Act → World → Prop) (Q' : Exit → Act → World → Prop) {t0 t1 t2 t4 t5 t6 t8 t9 t11 t12 t13 t14 t15 t16 t17 t18 t19 t20 t21 t22 t23 t27 t28 t29 t30 t31 t32 t33 t34 t35 t36 t37 t38 t39 t40 t41 t42 t43 t44 t45 t46 t47 t48 t49 t50 t51 t52 t53 t54 t55 t56 t57 t58 t59 t60 t61 t62 t63 t64 t65 t66 t67 t68 t69 t70 t71 t72 t73 t74 t75 t76 t77 t78 t79 t80 t81 t82 t83 : Value}
    (hnext : ∀ (t0 t1 t2 t4 t5 t6 t8 t9 t11 t12 t13 t14 t15 t16 t17 t18 t19 t20 t21 t22 t23 t27 t28 t29 t30 t31 t32 t33 t34 t35 t36 t37 t38 t39 t40 t41 t42 t43 t44 t45 t46 t47 t48 t49 t50 t51 t52 t53 t54 t55 t56 t57 t58 t59 t60 t61 t62 t63 t64 t65 t66 t67 t68 t69 t70 t71 t72 t73 t74 t75 t76 t77 t78 t79 t80 t81 t82 t83 : Value) (Gs' : List Gp) (vg' vo' : Value) (os' : List Int) (om' : Mk) (wr' : World), Gs'.length < Gs.length → GrR w N b3 r Gs' vg' vo' os' wr' → Blk wr' b10 98 (gpA vo' om') → GrS os' om' Gs' →
      absorbV r Gs'.length (os', om') (Gs'.map Gp.p) = T → K' ⟨#[t0, t1, t2, .pointer (some ⟨b3, 0, none⟩), t4, t5, t6, vg', t8, t9, .pointer (some ⟨b10, 0, none⟩), t11, t12, t13, t14, t15, t16, t17, t18, t19, t20, t21, t22, t23, u24, u25, u26, t27, t28, t29, t30, t31, t32, t33, t34, t35, t36, t37, t38, t39, t40, t41, t42, t43, t44, t45, t46, t47, t48, t49, t50, t51, t52, t53, t54, t55, t56, t57, t58, t59, t60, t61, t62, t63, t64, t65, t66, t67, t68, t69, t70, t71, t72, t73, t74, t75, t76, t77, t78, t79, t80, t81, t82, t83], []⟩ wr')
    (hexit : ∀ (t0 t1 t2 t4 t5 t6 t8 t9 t11 t12 t13 t14 t15 t16 t17 t18 t19 t20 t21 t22 t23 t27 t28 t29 t30 t31 t32 t33 t34 t35 t36 t37 t38 t39 t40 t41 t42 t43 t44 t45 t46 t47 t48 t49 t50 t51 t52 t53 t54 t55 t56 t57 t58 t59 t60 t61 t62 t63 t64 t65 t66 t67 t68 t69 t70 t71 t72 t73 t74 t75 t76 t77 t78 t79 t80 t81 t82 t83 : Value) (wr' : World), GrR w N b3 r Gs vg vo os wr' → Blk wr' b10 98 (gpA vo om) → T = ((os, om), Gs.map Gp.p) → Q' (.exit 2) ⟨#[t0, t1, t2, .pointer (some ⟨b3, 0, none⟩), t4, t5, t6, vg, t8, t9, .pointer (some ⟨b10, 0, none⟩), t11, t12, t13, t14, t15, t16, t17, t18, t19, t20, t21, t22, t23, u24, u25, u26, t27, t28, t29, t30, t31, t32, t33, t34, t35, t36, t37, t38, t39, t40, t41, t42, t43, t44, t45, t46, t47, t48, t49, t50, t51, t52, t53, t54, t55, t56, t57, t58, t59, t60, t61, t62, t63, t64, t65, t66, t67, t68, t69, t70, t71, t72, t73, t74, t75, t76, t77, t78, t79, t80, t81, t82, t83], []⟩ wr') :
    (bodyOf Tryz.f15 1).wp Tryz.prog (Exit.then K' Q') ⟨#[t0, t1, t2, .pointer (some ⟨b3, 0, none⟩), t4, t5, t6, vg, t8, t9, .pointer (some ⟨b10, 0, none⟩), t11, t12, t13, t14, t15, t16, t17, t18, t19, t20, t21, t22, t23, u24, u25, u26, t27, t28, t29, t30, t31, t32, t33, t34, t35, t36, t37, t38, t39, t40, t41, t42, t43, t44, t45, t46, t47, t48, t49, t50, t51, t52, t53, t54, t55, t56, t57, t58, t59, t60, t61, t62, t63, t64, t65, t66, t67, t68, t69, t70, t71, t72, t73, t74, t75, t76, t77, t78, t79, t80, t81, t82, t83], []⟩ wr := by
  have HN := Lib.hid hnext; have HX := Lib.hid hexit
  clear hnext hexit
  obtain ⟨A, c, rfl, hrow⟩ := M.form
  have HT := Lib.hid hT; clear hT
  have hlen := S.len
  have hnl := M.nlt
  conv in (bodyOf _ _) => whnf
  try dsimp only
  go_wp2_with fail
  refine (indexGp_any Gs A c vo om r b10 b3 N wr (by omega) hrow hnl (Lib.hid S.ms) S.om hr ⟨bo, M.rule⟩).mono ?_
  rintro e w1 ⟨i, rfl, HI, hB1⟩
  replace M := M.gr hB1
  replace bo := bo.gr hB1
  clear hB1 hnl hrow
  rcases HI.out with ⟨rfl, hno⟩ | ⟨k, hk, rfl, hy, hb⟩
  · have HNO := Lib.hid hno
    clear hno HI
    go_wp2
    exact HX.out _ _ _ _ _ _ _ _ _ _ _ _ _ _ _ _ _ _ _ _ _ _ _ _ _ _ _ _ _ _ _ _ _ _ _ _ _ _ _ _ _ _ _ _ _ _ _ _ _ _ _ _ _ _ _ _ _ _ _ _ _ _ _ _ _ _ _ _ _ _ _ _ _ _ _ _ _ _ _ M bo (by rw [← HT.out]; exact absorbV_none (by rw [List.any_map]; exact HNO.out))
  · have HY := Lib.hid hy; have HB := Lib.hid hb
    clear hy hb HI
    have hk0 : ¬ (k : Int) < 0 := by omega
    go_wp2_with fail
    refine takeReg w N b3 b10 r Gs (.slice A Gs.length c) vo os om w1 M bo hb10 k hk hlen (S.le (List.getElem_mem hk)) (S.each _ (List.getElem_mem hk)) (ds := []) _ _ ?_
    clear M bo
    intro t40 t41 t42 t43 t44 t45 t46 t47 t48 t49 t50 t51 t52 t53 t54 t55 t56 vo' w2 M bo
    have S' := S.take hk
    have h1 := Lib.hid (gpsC_one S.each M.rows)
    try dsimp only
    go_wp2_with fail
    refine (delete_any Gs k hk (by omega) w.heap.size _ h1 w2 M.grow).mono ?_
    rintro e w3 ⟨vg', rfl, hd, hg, hvb⟩
    have M' := M.erase hd hg (fun j hj => M.vlt j (by rw [← hvb]; exact hj))
    have bo' := bo.grown hg (fun e => by have := M.vlt b10 e.symm; omega)
    have hT' : absorbV r (Gs.eraseIdx k).length (os ++ Gs[k].ns, hullV om Gs[k].m) ((Gs.eraseIdx k).map Gp.p) = T := by
      rw [← HT.out, List.length_eraseIdx_of_lt hk, map_erase]
      have h2 := absorbV_some (r := r) (n := Gs.length - 1) (o := (os, om)) (gs := Gs.map Gp.p) (k := k) (by simpa using hk) (by rw [List.getElem_map]; exact HY.out) (by rw [← List.map_take, List.any_map]; exact HB.out)
      rw [show Gs.length - 1 + 1 = Gs.length by omega, List.getElem_map] at h2
      exact h2.symm
    have HT' := Lib.hid hT'
    have hll : (Gs.eraseIdx k).length < Gs.length := by rw [List.length_eraseIdx_of_lt hk]; omega
    clear M bo hd hg hvb hT' HT HY HB h1
    go_wp2
    exact HN.out _ _ _ _ _ _ _ _ _ _ _ _ _ _ _ _ _ _ _ _ _ _ _ _ _ _ _ _ _ _ _ _ _ _ _ _ _ _ _ _ _ _ _ _ _ _ _ _ _ _ _ _ _ _ _ _ _ _ _ _ _ _ _ _ _ _ _ _ _ _ _ _ _ _ _ _ _ _ _ _ _ _ _ _ hll M' bo' S' HT'.out

set_option maxRecDepth 100000 in
set_option maxHeartbeats 4000000 in
theorem absorb_loop (u24 u25 u26 : Value) (w : World) (N b3 b10 : Nat) (r : Ru) (hr : RuS r) (hb10 : N ≤ b10) (T : PG × List PG) (_K' : Act → World → Prop) (Q' : Exit → Act → World → Prop)
    (hexit : ∀ (t0 t1 t2 t4 t5 t6 t8 t9 t11 t12 t13 t14 t15 t16 t17 t18 t19 t20 t21 t22 t23 t27 t28 t29 t30 t31 t32 t33 t34 t35 t36 t37 t38 t39 t40 t41 t42 t43 t44 t45 t46 t47 t48 t49 t50 t51 t52 t53 t54 t55 t56 t57 t58 t59 t60 t61 t62 t63 t64 t65 t66 t67 t68 t69 t70 t71 t72 t73 t74 t75 t76 t77 t78 t79 t80 t81 t82 t83 : Value) (Gs : List Gp) (vg vo : Value) (os : List Int) (om : Mk) (wr' : World), GrR w N b3 r Gs vg vo os wr' → Blk wr' b10 98 (gpA vo om) → GrS os om Gs → T = ((os, om), Gs.map Gp.p) →
      Q' (.exit 2) ⟨#[t0, t1, t2, .pointer (some ⟨b3, 0, none⟩), t4, t5, t6, vg, t8, t9, .pointer (some ⟨b10, 0, none⟩), t11, t12, t13, t14, t15, t16, t17, t18, t19, t20, t21, t22, t23, u24, u25, u26, t27, t28, t29, t30, t31, t32, t33, t34, t35, t36, t37, t38, t39, t40, t41, t42, t43, t44, t45, t46, t47, t48, t49, t50, t51, t52, t53, t54, t55, t56, t57, t58, t59, t60, t61, t62, t63, t64, t65, t66, t67, t68, t69, t70, t71, t72, t73, t74, t75, t76, t77, t78, t79, t80, t81, t82, t83], []⟩ wr') :
    ∀ (f : Nat) (t0 t1 t2 t4 t5 t6 t8 t9 t11 t12 t13 t14 t15 t16 t17 t18 t19 t20 t21 t22 t23 t27 t28 t29 t30 t31 t32 t33 t34 t35 t36 t37 t38 t39 t40 t41 t42 t43 t44 t45 t46 t47 t48 t49 t50 t51 t52 t53 t54 t55 t56 t57 t58 t59 t60 t61 t62 t63 t64 t65 t66 t67 t68 t69 t70 t71 t72 t73 t74 t75 t76 t77 t78 t79 t80 t81 t82 t83 : Value) (Gs : List Gp) (vg vo : Value) (os : List Int) (om : Mk) (wr : World), Gs.length ≤ f → GrR w N b3 r Gs vg vo os wr → Blk wr b10 98 (gpA vo om) → GrS os om Gs → absorbV r Gs.length (os, om) (Gs.map Gp.p) = T →
      (bodyOf Tryz.f15 1).loop.wp Tryz.prog Q' ⟨#[t0, t1, t2, .pointer (some ⟨b3, 0, none⟩), t4, t5, t6, vg, t8, t9, .pointer (some ⟨b10, 0, none⟩), t11, t12, t13, t14, t15, t16, t17, t18, t19, t20, t21, t22, t23, u24, u25, u26, t27, t28, t29, t30, t31, t32, t33, t34, t35, t36, t37, t38, t39, t40, t41, t42, t43, t44, t45, t46, t47, t48, t49, t50, t51, t52, t53, t54, t55, t56, t57, t58, t59, t60, t61, t62, t63, t64, t65, t66, t67, t68, t69, t70, t71, t72, t73, t74, t75, t76, t77, t78, t79, t80, t81, t82, t83], []⟩ wr := by
  intro f t0 t1 t2 t4 t5 t6 t8 t9 t11 t12 t13 t14 t15 t16 t17 t18 t19 t20 t21 t22 t23 t27 t28 t29 t30 t31 t32 t33 t34 t35 t36 t37 t38 t39 t40 t41 t42 t43 t44 t45 t46 t47 t48 t49 t50 t51 t52 t53 t54 t55 t56 t57 t58 t59 t60 t61 t62 t63 t64 t65 t66 t67 t68 t69 t70 t71 t72 t73 t74 t75 t76 t77 t78 t79 t80 t81 t82 t83 Gs vg vo os om wr hf M bo S hT
  refine wp_loop_rounds (f + 1) ?_
  induction f generalizing Gs vg vo os om wr t0 t1 t2 t4 t5 t6 t8 t9 t11 t12 t13 t14 t15 t16 t17 t18 t19 t20 t21 t22 t23 t27 t28 t29 t30 t31 t32 t33 t34 t35 t36 t37 t38 t39 t40 t41 t42 t43 t44 t45 t46 t47 t48 t49 t50 t51 t52 t53 t54 t55 t56 t57 t58 t59 t60 t61 t62 t63 t64 t65 t66 t67 t68 t69 t70 t71 t72 t73 t74 t75 t76 t77 t78 t79 t80 t81 t82 t83 with
  | zero =>
    rw [rounds_succ]
    exact absorb_round u24 u25 u26 w N b3 b10 r hr Gs vg vo os om wr M bo hb10 S T hT _ _ (fun t0 t1 t2 t4 t5 t6 t8 t9 t11 t12 t13 t14 t15 t16 t17 t18 t19 t20 t21 t22 t23 t27 t28 t29 t30 t31 t32 t33 t34 t35 t36 t37 t38 t39 t40 t41 t42 t43 t44 t45 t46 t47 t48 t49 t50 t51 t52 t53 t54 t55 t56 t57 t58 t59 t60 t61 t62 t63 t64 t65 t66 t67 t68 t69 t70 t71 t72 t73 t74 t75 t76 t77 t78 t79 t80 t81 t82 t83 Gs' vg' vo' os' om' wr' hlt => by omega) (fun t0 t1 t2 t4 t5 t6 t8 t9 t11 t12 t13 t14 t15 t16 t17 t18 t19 t20 t21 t22 t23 t27 t28 t29 t30 t31 t32 t33 t34 t35 t36 t37 t38 t39 t40 t41 t42 t43 t44 t45 t46 t47 t48 t49 t50 t51 t52 t53 t54 t55 t56 t57 t58 t59 t60 t61 t62 t63 t64 t65 t66 t67 t68 t69 t70 t71 t72 t73 t74 t75 t76 t77 t78 t79 t80 t81 t82 t83 wr' hM hb hE => hexit t0 t1 t2 t4 t5 t6 t8 t9 t11 t12 t13 t14 t15 t16 t17 t18 t19 t20 t21 t22 t23 t27 t28 t29 t30 t31 t32 t33 t34 t35 t36 t37 t38 t39 t40 t41 t42 t43 t44 t45 t46 t47 t48 t49 t50 t51 t52 t53 t54 t55 t56 t57 t58 t59 t60 t61 t62 t63 t64 t65 t66 t67 t68 t69 t70 t71 t72 t73 t74 t75 t76 t77 t78 t79 t80 t81 t82 t83 Gs vg vo os om wr' hM hb S hE)
  | succ f ih =>
    rw [rounds_succ]
    exact absorb_round u24 u25 u26 w N b3 b10 r hr Gs vg vo os om wr M bo hb10 S T hT _ _ (fun t0 t1 t2 t4 t5 t6 t8 t9 t11 t12 t13 t14 t15 t16 t17 t18 t19 t20 t21 t22 t23 t27 t28 t29 t30 t31 t32 t33 t34 t35 t36 t37 t38 t39 t40 t41 t42 t43 t44 t45 t46 t47 t48 t49 t50 t51 t52 t53 t54 t55 t56 t57 t58 t59 t60 t61 t62 t63 t64 t65 t66 t67 t68 t69 t70 t71 t72 t73 t74 t75 t76 t77 t78 t79 t80 t81 t82 t83 Gs' vg' vo' os' om' wr' hlt hM hb hS hE => ih t0 t1 t2 t4 t5 t6 t8 t9 t11 t12 t13 t14 t15 t16 t17 t18 t19 t20 t21 t22 t23 t27 t28 t29 t30 t31 t32 t33 t34 t35 t36 t37 t38 t39 t40 t41 t42 t43 t44 t45 t46 t47 t48 t49 t50 t51 t52 t53 t54 t55 t56 t57 t58 t59 t60 t61 t62 t63 t64 t65 t66 t67 t68 t69 t70 t71 t72 t73 t74 t75 t76 t77 t78 t79 t80 t81 t82 t83 Gs' vg' vo' os' om' wr' (by omega) hM hb hS hE) (fun t0 t1 t2 t4 t5 t6 t8 t9 t11 t12 t13 t14 t15 t16 t17 t18 t19 t20 t21 t22 t23 t27 t28 t29 t30 t31 t32 t33 t34 t35 t36 t37 t38 t39 t40 t41 t42 t43 t44 t45 t46 t47 t48 t49 t50 t51 t52 t53 t54 t55 t56 t57 t58 t59 t60 t61 t62 t63 t64 t65 t66 t67 t68 t69 t70 t71 t72 t73 t74 t75 t76 t77 t78 t79 t80 t81 t82 t83 wr' hM hb hE => hexit t0 t1 t2 t4 t5 t6 t8 t9 t11 t12 t13 t14 t15 t16 t17 t18 t19 t20 t21 t22 t23 t27 t28 t29 t30 t31 t32 t33 t34 t35 t36 t37 t38 t39 t40 t41 t42 t43 t44 t45 t46 t47 t48 t49 t50 t51 t52 t53 t54 t55 t56 t57 t58 t59 t60 t61 t62 t63 t64 t65 t66 t67 t68 t69 t70 t71 t72 t73 t74 t75 t76 t77 t78 t79 t80 t81 t82 t83 Gs vg vo os om wr' hM hb S hE)
end Go.Proofs.YtclpljbllnhhbaaGreat

namespace Go.Proofs.YtclpljbllnhhbaaGreat
open Go.RowKit

def groupStep (r : Ru) (gs : List PG) (i : Nat) (m : Mk) : List PG := (absorbV r gs.length ([(i : Int)], m) gs).2 ++ [(absorbV r gs.length ([(i : Int)], m) gs).1]
def groupsV (r : Ru) : Nat → List Mk → List PG → List PG
  | _, [], gs => gs
  | i, m :: l, gs => groupsV r (i + 1) l (groupStep r gs i m)
theorem absorbV_cnt (r : Ru) : ∀ (n : Nat) (o : PG) (gs : List PG), (absorbV r n o gs).1.1.length + ((absorbV r n o gs).2.map fun g => g.1.length).sum = o.1.length + (gs.map fun g => g.1.length).sum
  | 0, o, gs => rfl
  | n + 1, o, gs => by
    cases h : gs.findIdx? (meetP r o) with
    | none => unfold absorbV; rw [h]
    | some k =>
      obtain ⟨hk, _⟩ := List.findIdx?_eq_some_iff_getElem.1 h
      have e : absorbV r (n + 1) o gs = absorbV r n (o.1 ++ gs[k].1, hullV o.2 gs[k].2) (gs.eraseIdx k) := by
        show (match gs.findIdx? (meetP r o) with
          | none => (o, gs)
          | some k => absorbV r n (o.1 ++ (gs[k]?.getD o).1, hullV o.2 (gs[k]?.getD o).2) (gs.eraseIdx k)) = _
        rw [h]
        show absorbV r n (o.1 ++ (gs[k]?.getD o).1, hullV o.2 (gs[k]?.getD o).2) (gs.eraseIdx k) = _
        rw [List.getElem?_eq_getElem hk]; rfl
      rw [e, absorbV_cnt r n, List.length_append, map_erase]
      have := sum_erase (gs.map fun g => g.1.length) k (by simpa using hk)
      simp only [List.getElem_map] at this
      omega
theorem cell_seven_new (w : World) (x0 x1 x2 x3 x4 x5 x6 : Value) (t : TypeId) : ∀ j v, [x0, x1, x2, x3, x4, x5, x6][j]? = some v → (w.alloc (.cells #[x0, x1, x2, x3, x4, x5, x6] t)).cell? ((⟨w.heap.size, 0, none⟩ : Addr).add j) = some v := by
  intro j v hj
  have hb := Blk.new w t #[x0, x1, x2, x3, x4, x5, x6]
  match j, hj with
  | 0, hj => simp at hj; subst hj; exact hb.cell 0
  | 1, hj => simp at hj; subst hj; exact hb.cell 1
  | 2, hj => simp at hj; subst hj; exact hb.cell 2
  | 3, hj => simp at hj; subst hj; exact hb.cell 3
  | 4, hj => simp at hj; subst hj; exact hb.cell 4
  | 5, hj => simp at hj; subst hj; exact hb.cell 5
  | 6, hj => simp at hj; subst hj; exact hb.cell 6
  | k + 7, hj => simp at hj
/-- What lies in memory between the rounds. -/
structure GmM (w : World) (b3 : Nat) (r : Ru) (Gs : List Gp) (vg : Value) (W : World) : Prop where
  rule : Blk W b3 63 (ruC r)
  grow : W.ownsRow w.heap.size 98 7 vg Gs.length (gpsC Gs)
  rows : ∀ g ∈ Gs, W.ownsRow w.heap.size 3 1 g.v g.ns.length (intsC g.ns)
  below : Below w.heap.size w W
structure GmS (l : List Mk) (i : Nat) (Gs : List Gp) : Prop where
  each : ∀ g ∈ Gs, 0 < g.ns.length
  ms : ∀ g ∈ Gs, MkS g.m
  cnt : (Gs.map fun g => g.ns.length).sum = i
theorem len_le_sum : ∀ {l : List Nat}, (∀ x ∈ l, 0 < x) → l.length ≤ l.sum
  | [], _ => by simp
  | a :: l, h => by
    have := len_le_sum (l := l) (fun x hx => h x (by simp [hx]))
    have := h a (by simp)
    simp only [List.length_cons, List.sum_cons]; omega
theorem GmS.len {l : List Mk} {i : Nat} {Gs : List Gp} (h : GmS l i Gs) : Gs.length ≤ i := by
  have := len_le_sum (l := Gs.map fun g => g.ns.length) (fun x hx => by obtain ⟨g, hg, rfl⟩ := List.mem_map.1 hx; exact h.each g hg)
  rw [h.cnt] at this; simpa using this
section
variable {w W W' : World} {b3 : Nat} {r : Ru} {Gs : List Gp} {vg : Value}
theorem GmM.gr (h : GmM w b3 r Gs vg W) (hb : Gr W W') : GmM w b3 r Gs vg W' :=
  ⟨h.rule.gr hb, own_below h.grow hb, fun g hg => own_below (h.rows g hg) hb, h.below.trans (Below.mono hb (Below.size h.below))⟩
/-- A round begins: the mark's own row is made. -/
theorem GmM.start (h : GmM w b3 r Gs vg W) (hb : Gr W W') {vo : Value} {os : List Int} (ho : W'.ownsRow W.heap.size 3 1 vo os.length (intsC os)) : GrR w W.heap.size b3 r Gs vg vo os W' :=
  ⟨h.rule.gr hb, ho, own_below h.grow hb, fun g hg => ⟨own_below (h.rows g hg) hb, fun k hk => ((h.rows g hg).lt k hk).2⟩, h.below.trans (Below.mono hb (Below.size h.below)), Below.size h.below, Below.size hb, fun k hk => (h.grow.lt k hk).2, h.rule.lt⟩
end
theorem GrR.done {w W : World} {N b3 : Nat} {r : Ru} {Gs : List Gp} {vg vo : Value} {os : List Int} {om : Mk} (h : GrR w N b3 r Gs vg vo os W) : (∀ g ∈ Gs ++ [⟨vo, os, om⟩], W.ownsRow w.heap.size 3 1 g.v g.ns.length (intsC g.ns)) := by
  intro g hg
  rcases List.mem_append.1 hg with hg | hg
  · exact (h.rows g hg).1
  · rw [List.mem_singleton] at hg; subst hg
    exact h.orow.mono h.base
theorem GrS.done {l : List Mk} {i : Nat} {os : List Int} {om : Mk} {Gs : List Gp} {vo : Value} (h : GrS os om Gs) (hc : os.length + (Gs.map fun g => g.ns.length).sum = i) : GmS l i (Gs ++ [⟨vo, os, om⟩]) := by
  refine ⟨fun g hg => ?_, fun g hg => ?_, by simp; omega⟩
  · rcases List.mem_append.1 hg with hg | hg
    · exact h.each g hg
    · rw [List.mem_singleton] at hg; subst hg; exact h.pos
  · rcases List.mem_append.1 hg with hg | hg
    · exact h.ms g hg
    · rw [List.mem_singleton] at hg; subst hg; exact h.om

set_option maxRecDepth 100000 in
set_option maxHeartbeats 4000000 in
theorem marks_round (w : World) (b3 : Nat) (r : Ru) (hr : RuS r) (l : List Mk) (A : Option Addr) (c B : Nat) (hl : MkOk l A B w) (hB : B ≤ w.heap.size) (hl20 : l.length ≤ 20) (hms : Hid (∀ m ∈ l, MkS m)) (i : Nat) (hi : i ≤ l.length) (Gs : List Gp) (vg : Value) (wr : World) (M : GmM w b3 r Gs vg wr) (S : GmS l i Gs) (T : List PG)
    (hT : groupsV r i (l.drop i) (Gs.map Gp.p) = T) (K' : Act → World → Prop) (Q' : Exit → Act → World → Prop) {t0 t1 t2 t4 t5 t6 t8 t9 t10 t11 t12 t13 t14 t15 t16 t17 t18 t19 t20 t21 t22 t23 t27 t28 t29 t30 t31 t32 t33 t34 t35 t36 t37 t38 t39 t40 t41 t42 t43 t44 t45 t46 t47 t48 t49 t50 t51 t52 t53 t54 t55 t56 t57 t58 t59 t60 t61 t62 t63 t64 t65 t66 t67 t68 t69 t70 t71 t72 t73 t74 t75 t76 t77 t78 t79 t80 t81 t82 t83 : Value}
    (hnext : ∀ (t0 t1 t2 t4 t5 t6 t8 t9 t10 t11 t12 t13 t14 t15 t16 t17 t18 t19 t20 t21 t22 t23 t27 t28 t29 t30 t31 t32 t33 t34 t35 t36 t37 t38 t39 t40 t41 t42 t43 t44 t45 t46 t47 t48 t49 t50 t51 t52 t53 t54 t55 t56 t57 t58 t59 t60 t61 t62 t63 t64 t65 t66 t67 t68 t69 t70 t71 t72 t73 t74 t75 t76 t77 t78 t79 t80 t81 t82 t83 : Value) (Gs' : List Gp) (vg' : Value) (wr' : World), i < l.length → GmM w b3 r Gs' vg' wr' → GmS l (i + 1) Gs' → groupsV r (i + 1) (l.drop (i + 1)) (Gs'.map Gp.p) = T →
      K' ⟨#[t0, t1, t2, .pointer (some ⟨b3, 0, none⟩), t4, t5, t6, vg', t8, t9, t10, t11, t12, t13, t14, t15, t16, t17, t18, t19, t20, t21, t22, t23, .slice A l.length c, .int .i64 l.length, .int .i64 ((i : Int) + 1), t27, t28, t29, t30, t31, t32, t33, t34, t35, t36, t37, t38, t39, t40, t41, t42, t43, t44, t45, t46, t47, t48, t49, t50, t51, t52, t53, t54, t55, t56, t57, t58, t59, t60, t61, t62, t63, t64, t65, t66, t67, t68, t69, t70, t71, t72, t73, t74, t75, t76, t77, t78, t79, t80, t81, t82, t83], []⟩ wr')
    (hexit : ∀ (t0 t1 t2 t4 t5 t6 t8 t9 t10 t11 t12 t13 t14 t15 t16 t17 t18 t19 t20 t21 t22 t23 t27 t28 t29 t30 t31 t32 t33 t34 t35 t36 t37 t38 t39 t40 t41 t42 t43 t44 t45 t46 t47 t48 t49 t50 t51 t52 t53 t54 t55 t56 t57 t58 t59 t60 t61 t62 t63 t64 t65 t66 t67 t68 t69 t70 t71 t72 t73 t74 t75 t76 t77 t78 t79 t80 t81 t82 t83 : Value), i = l.length → T = Gs.map Gp.p → Q' (.exit 0) ⟨#[t0, t1, t2, .pointer (some ⟨b3, 0, none⟩), t4, t5, t6, vg, t8, t9, t10, t11, t12, t13, t14, t15, t16, t17, t18, t19, t20, t21, t22, t23, .slice A l.length c, .int .i64 l.length, .int .i64 i, t27, t28, t29, t30, t31, t32, t33, t34, t35, t36, t37, t38, t39, t40, t41, t42, t43, t44, t45, t46, t47, t48, t49, t50, t51, t52, t53, t54, t55, t56, t57, t58, t59, t60, t61, t62, t63, t64, t65, t66, t67, t68, t69, t70, t71, t72, t73, t74, t75, t76, t77, t78, t79, t80, t81, t82, t83], []⟩ wr) :
    (bodyOf Tryz.f15 0).wp Tryz.prog (Exit.then K' Q') ⟨#[t0, t1, t2, .pointer (some ⟨b3, 0, none⟩), t4, t5, t6, vg, t8, t9, t10, t11, t12, t13, t14, t15, t16, t17, t18, t19, t20, t21, t22, t23, .slice A l.length c, .int .i64 l.length, .int .i64 i, t27, t28, t29, t30, t31, t32, t33, t34, t35, t36, t37, t38, t39, t40, t41, t42, t43, t44, t45, t46, t47, t48, t49, t50, t51, t52, t53, t54, t55, t56, t57, t58, t59, t60, t61, t62, t63, t64, t65, t66, t67, t68, t69, t70, t71, t72, t73, t74, t75, t76, t77, t78, t79, t80, t81, t82, t83], []⟩ wr := by
  have HN := Lib.hid hnext; have HX := Lib.hid hexit
  clear hnext hexit
  conv in (bodyOf _ _) => whnf
  try dsimp only
  by_cases hlt : i < l.length
  · obtain ⟨g, o, hA, hg, c0, c1, c2, c3, c4, c5⟩ := mkCells (hl.row.below M.below hB) hlt
    have HT : Hid (groupsV r (i + 1) (l.drop (i + 1)) (groupStep r (Gs.map Gp.p) i l[i]) = T) := Lib.hid (by rw [← hT, List.drop_eq_getElem_cons hlt]; rfl)
    have hmsi := hms.out l[i] (List.getElem_mem hlt)
    clear hT HX
    generalize l[i] = m at *
    subst hA
    have hltI : (i : Int) < (l.length : Int) := by omega
    have hi0 : (0 : Int) ≤ (i : Int) := by omega
    have hgr : Gr wr (((wr.alloc (.cells (mkC m) 46)).alloc (.cells #[.int .i64 i] 3)).alloc (.cells (gpA (.slice (some ⟨wr.heap.size + 1, 0, none⟩) 1 1) m) 98)) := show Below wr.heap.size wr _ from (by repeat (first | (with_reducible exact Below.refl _ _) | (with_reducible assumption) | ((with_reducible refine Below.setCell ?_ ?_ _); rotate_left; · (first | exact Nat.le_refl _ | (simp; done) | (simp; omega) | omega)) | ((with_reducible refine Below.alloc ?_ ?_ _); rotate_left; · (first | exact Nat.le_refl _ | (simp; done) | (simp; omega) | omega)) | (with_reducible apply Below.drew) | (with_reducible apply below_drewN') | (refine Below.trans ?_ (Below.mono (by assumption) (by first | exact Nat.le_refl _ | (simp; done) | (simp; omega) | omega))) | exact Below.refl _ _ | assumption))
    have bo := Blk.new ((wr.alloc (.cells (mkC m) 46)).alloc (.cells #[.int .i64 i] 3)) 98 (gpA (.slice (some ⟨wr.heap.size + 1, 0, none⟩) 1 1) m)
    have br := (Blk.new (wr.alloc (.cells (mkC m) 46)) 3 #[.int .i64 i]).alloc (.cells (gpA (.slice (some ⟨wr.heap.size + 1, 0, none⟩) 1 1) m) 98)
    simp only [World.size_alloc] at bo br
    have M0 : GrR w wr.heap.size b3 r Gs vg (.slice (some ⟨wr.heap.size + 1, 0, none⟩) 1 1) [(i : Int)] _ := M.start hgr ⟨rfl, .inr ⟨wr.heap.size + 1, 1, #[.int .i64 i], rfl, by omega, br, Nat.le_refl _, by unfold maxLen; omega, rfl, rfl⟩⟩
    have S0 : GrS [(i : Int)] m Gs := ⟨by simp, S.each, hmsi, S.ms, by have := S.cnt; simp only [List.length_cons, List.length_nil]; omega, by have := S.len; omega⟩
    have hcnt := absorbV_cnt r Gs.length ([(i : Int)], m) (Gs.map Gp.p)
    rw [List.map_map] at hcnt
    have hs : (Gs.map ((fun g : PG => g.1.length) ∘ Gp.p)).sum = i := S.cnt
    rw [hs] at hcnt
    clear hs M
    go_wp2_with fail
    refine absorb_loop _ _ _ w wr.heap.size b3 (wr.heap.size + 1 + 1) r hr (by omega) _ (fun _ _ => True) _ ?_ Gs.length _ _ _ _ _ _ _ _ _ _ _ _ _ _ _ _ _ _ _ _ _ _ _ _ _ _ _ _ _ _ _ _ _ _ _ _ _ _ _ _ _ _ _ _ _ _ _ _ _ _ _ _ _ _ _ _ _ _ _ _ _ _ _ _ _ _ _ _ _ _ _ _ _ _ _ _ _ _ Gs vg _ [(i : Int)] m _ (Nat.le_refl _) M0 bo S0 rfl
    clear M0 bo S0 br hgr S
    intro t0 t1 t2 t4 t5 t6 t8 t9 t11 t12 t13 t14 t15 t16 t17 t18 t19 t20 t21 t22 t23 t27 t28 t29 t30 t31 t32 t33 t34 t35 t36 t37 t38 t39 t40 t41 t42 t43 t44 t45 t46 t47 t48 t49 t50 t51 t52 t53 t54 t55 t56 t57 t58 t59 t60 t61 t62 t63 t64 t65 t66 t67 t68 t69 t70 t71 t72 t73 t74 t75 t76 t77 t78 t79 t80 t81 t82 t83 Gs' vg' vo' os' om' w' M bo S hE
    try dsimp only
    obtain ⟨gv, cv, rfl, _, _⟩ := M.orow.form S.pos
    obtain ⟨a0, a1, a2, a3, a4, a5, a6, af⟩ := blk7 bo
    obtain ⟨i0, hi0, hz0, hz1, hz2⟩ := info_parts infoGroup
    have hGl := S.len
    have hE1 : absorbV r Gs.length ([(i : Int)], m) (Gs.map Gp.p) = ((os', om'), Gs'.map Gp.p) := hE
    have hD := M.done (om := om')
    have hGo := M.grow.alloc (.cells (gpA (.slice (some ⟨gv, 0, none⟩) os'.length cv) om') 98)
    have hbz := Below.size M.below
    have hT2 : Hid (groupsV r (i + 1) (l.drop (i + 1)) ((Gs' ++ [(⟨.slice (some ⟨gv, 0, none⟩) os'.length cv, os', om'⟩ : Gp)]).map Gp.p) = T) := Lib.hid (by
      rw [← HT.out]
      unfold groupStep
      rw [List.length_map, hE1, List.map_append]; rfl)
    rw [hE1] at hcnt
    have hS2 : GmS l (i + 1) (Gs' ++ [(⟨.slice (some ⟨gv, 0, none⟩) os'.length cv, os', om'⟩ : Gp)]) := S.done (by
      rw [List.map_map] at hcnt
      have e : (Gs'.map ((fun g : PG => g.1.length) ∘ Gp.p)).sum = (Gs'.map fun g => g.ns.length).sum := rfl
      rw [e] at hcnt
      simp only [List.length_cons, List.length_nil] at hcnt
      omega)
    have HS2 := Lib.hid hS2
    clear hE hE1 hcnt hS2 HT
    go_wp2_with (at_builtin; refine wpList_append_own _ rfl _ _ 96 rfl w.heap.size 98 i0 _ 7 80 Tryz.underlying96 hi0 hz0 hz1 hz2 rfl (by decide) _ _ _ rfl hGo ⟨w'.heap.size, 0, none⟩ 1 1 (gpL ⟨.slice (some ⟨gv, 0, none⟩) os'.length cv, os', om'⟩) rfl rfl (cell_seven_new _ _ _ _ _ _ _ _ _) (by simp [Value.oneCell']) (by unfold maxLen; omega) (by omega) (by simp; omega) ?_; intro v2 W5 hown' hgrow _)
    have e1 : (Gs' ++ [(⟨.slice (some ⟨gv, 0, none⟩) os'.length cv, os', om'⟩ : Gp)]).length = Gs'.length + 1 := by simp
    have e2 : gpsC (Gs' ++ [(⟨.slice (some ⟨gv, 0, none⟩) os'.length cv, os', om'⟩ : Gp)]) = gpsC Gs' ++ gpL ⟨.slice (some ⟨gv, 0, none⟩) os'.length cv, os', om'⟩ := by rw [gpsC_append]; simp [gpsC]
    have M2 : GmM w b3 r (Gs' ++ [(⟨.slice (some ⟨gv, 0, none⟩) os'.length cv, os', om'⟩ : Gp)]) v2 W5 :=
      ⟨(M.rule.alloc _).grown hgrow (fun e => own_blk_ne hGo (M.rule.alloc _) (by decide) e.symm), by rw [e1, e2]; exact hown',
        fun q hq => ((hD q hq).alloc _).kept hgrow (own_two ((hD q hq).alloc _) hGo (by decide)), below_own (M.below.alloc hbz _) (Nat.le_refl _) hGo hgrow⟩
    exact HN.out _ _ _ _ _ _ _ _ _ _ _ _ _ _ _ _ _ _ _ _ _ _ _ _ _ _ _ _ _ _ _ _ _ _ _ _ _ _ _ _ _ _ _ _ _ _ _ _ _ _ _ _ _ _ _ _ _ _ _ _ _ _ _ _ _ _ _ _ _ _ _ _ _ _ _ _ _ _ _ _ v2 W5 hlt M2 HS2.out hT2.out
  · obtain rfl : i = l.length := by omega
    have HT : Hid (T = Gs.map Gp.p) := Lib.hid (by rw [← hT, List.drop_length]; rfl)
    clear HN hT
    go_wp2
    exact HX.out _ _ _ _ _ _ _ _ _ _ _ _ _ _ _ _ _ _ _ _ _ _ _ _ _ _ _ _ _ _ _ _ _ _ _ _ _ _ _ _ _ _ _ _ _ _ _ _ _ _ _ _ _ _ _ _ _ _ _ _ _ _ _ _ _ _ _ _ _ _ _ _ _ _ _ _ _ _ _ (by trivial) HT.out
end Go.Proofs.YtclpljbllnhhbaaGreat

namespace Go.Proofs.YtclpljbllnhhbaaGreat
open Go.RowKit Go.Shelf

attribute [local go_sem] Oper.semAt_some

/-- What has come when k rounds are over. -/
def came {α : Type} (f : Nat → α) (k : Nat) : List α := (List.range k).map f
theorem came_succ {α : Type} (f : Nat → α) (k : Nat) : came f (k + 1) = came f k ++ [f k] := by simp [came, List.range_succ]
theorem came_length {α : Type} (f : Nat → α) (k : Nat) : (came f k).length = k := by simp [came]
theorem came_all (zs : List Int) : came (fun j => zs[j]?.getD 0) zs.length = zs := by
  apply List.ext_getElem
  · simp [came]
  · intro i h1 h2
    simp [came, h2]
theorem came_take (zs : List Int) {k : Nat} (hk : k ≤ zs.length) : came (fun j => zs[j]?.getD 0) k = zs.take k := by
  apply List.ext_getElem
  · simp [came, hk]
  · intro i h1 h2
    have : i < zs.length := by simp [came] at h1; omega
    simp [came, this]

set_option maxRecDepth 100000 in
set_option maxHeartbeats 2000000 in
theorem values1_in (F : Fence) (n : Nat) (h7 : F.fn 71) (hro : F.round = none) (hn : 1 ≤ n) (l Bs n₀ b off len cap : Nat) (zs : List Int) (hreach : len * 8 ≤ 140737488351232) (hb : b < n₀) (J Jx : List Int → World → Prop)
    (hY : ∀ pre x W, J pre W → pre.length < len → YieldAt F (n - 1) Tryz.prog l #[.int .i64 x] W fun e W' =>
      (e = .returned (.bool true) ∧ J (pre ++ [x]) W' ∧ Below n₀ W W') ∨ (e = .returned (.bool false) ∧ Jx (pre ++ [x]) W'))
    (W : World) (hBs : W.cell? ⟨Bs, 0, none⟩ = some (.slice (some ⟨b, off, none⟩) len cap)) (hc : ∀ j, j < len → W.cell? ⟨b, off + j, none⟩ = some (.int .i64 (zs[j]?.getD 0))) (h0 : J [] W) :
    CallsIn F n Tryz.prog 71 #[.func (.yield l) #[] #[], .pointer (some ⟨Bs, 0, none⟩)] W fun e W' => (∃ v, e = .returned v) ∧
      ((∃ ys, ys = came (fun j => zs[j]?.getD 0) len ∧ J ys W') ∨ (∃ pre, (∃ k, k ≤ len ∧ pre = came (fun j => zs[j]?.getD 0) k) ∧ Jx pre W')) := by
  refine callsIn_of_wp Tryz.func71 rfl h7 ?_ hro
  simp only [Tryz.ntmps71, List.size_toArray, List.length_cons, List.length_nil, Nat.reduceAdd, Nat.reduceSub, Array.replicate_succ, Array.replicate_zero, List.push_toArray, List.append_toArray, List.nil_append, List.cons_append]
  gi_wp2
  gi_loopw [7] (fun i wr => ∃ k : Nat, k ≤ len ∧ i = .int .i64 k ∧ J (came (fun j => zs[j]?.getD 0) k) wr ∧ Below n₀ W wr)
    (fun i _ => len - (intOf i).toNat)
  case atStart => exact ⟨0, Nat.zero_le _, rfl, h0, Below.refl _ _⟩
  case round =>
    obtain ⟨k, hk, rfl, hJs, hnx⟩ := hrel
    have hcx : k < len → wr.cell? ⟨b, off + k, none⟩ = some (.int .i64 (zs[k]?.getD 0)) := fun h => (hnx.cell (p := ⟨b, off + k, none⟩) hb).trans (hc k h)
    by_cases hlt : k < len
    · obtain ⟨fn, tmps, assign, body, hy, hR⟩ := hY _ (zs[k]?.getD 0) wr hJs (by rw [came_length]; exact hlt)
      have hcx' := hcx hlt
      gi_wp2
      refine hR.mono ?_
      rintro e W3 (⟨rfl, hJ3, hk3⟩ | ⟨rfl, hJx3⟩)
      · gi_wp2
        go_roundw
        case rel => exact ⟨k + 1, by omega, by simp, by rw [came_succ]; exact hJ3, hnx.trans hk3⟩
        case measure => simp [intOf]; omega
      · gi_wp2
        refine bodyPost_ret (results_none rfl _ _ _) rfl ?_
        exact ⟨⟨_, rfl⟩, .inr ⟨_, ⟨k + 1, by omega, (came_succ _ _).symm⟩, hJx3⟩⟩
    · obtain rfl : k = len := by omega
      gi_wp2
      go_end0
      exact ⟨⟨_, rfl⟩, .inl ⟨_, rfl, hJs⟩⟩

/-- The slice value sv holds the ints zs, in a block below n₀; or there are none. -/
def Ints (n₀ : Nat) (W : World) (sv : Value) (zs : List Int) : Prop :=
  (∃ A cap, sv = .slice A 0 cap ∧ zs = []) ∨ ∃ b off cap, sv = .slice (some ⟨b, off, none⟩) zs.length cap ∧ b < n₀ ∧ ∀ j, j < zs.length → W.cell? ⟨b, off + j, none⟩ = some (.int .i64 (zs[j]?.getD 0))
theorem Ints.below {n₀ : Nat} {A B : World} (h : Below n₀ A B) {sv : Value} {zs : List Int} : Ints n₀ A sv zs → Ints n₀ B sv zs
  | .inl e => .inl e
  | .inr ⟨b, off, cap, e, hb, hc⟩ => .inr ⟨b, off, cap, e, hb, fun j hj => (h.cell (p := ⟨b, off + j, none⟩) hb).trans (hc j hj)⟩

set_option maxRecDepth 100000 in
set_option maxHeartbeats 1000000 in
theorem values1_nil_in (F : Fence) (n : Nat) (h7 : F.fn 71) (hro : F.round = none) (l Bs : Nat) (A : Option Addr) (cap : Nat) (J : List Int → World → Prop) (W : World) (hBs : W.cell? ⟨Bs, 0, none⟩ = some (.slice A 0 cap)) (h0 : J [] W) :
    CallsIn F n Tryz.prog 71 #[.func (.yield l) #[] #[], .pointer (some ⟨Bs, 0, none⟩)] W fun e W' => (∃ v, e = .returned v) ∧ J [] W' := by
  refine callsIn_of_wp Tryz.func71 rfl h7 ?_ hro
  simp only [Tryz.ntmps71, List.size_toArray, List.length_cons, List.length_nil, Nat.reduceAdd, Nat.reduceSub, Array.replicate_succ, Array.replicate_zero, List.push_toArray, List.append_toArray, List.nil_append, List.cons_append]
  gi_wp2
  gi_loopw [7] (fun i wr => i = .int .i64 0 ∧ J [] wr) (fun _ _ => 0)
  case atStart => exact ⟨rfl, h0⟩
  case round =>
    obtain ⟨rfl, hJs⟩ := hrel
    gi_wp2
    go_end0
    exact ⟨⟨_, rfl⟩, hJs⟩

theorem values_stops (F : Fence) (n : Nat) (h7 : F.fn 71) (hro : F.round = none) (hn : 1 ≤ n) (Bs n₀ : Nat) (sv : Value) (zs : List Int) (hreach : zs.length * 8 ≤ 140737488351232) (w : World) (hBs : Bs < w.heap.size) (hn₀ : n₀ ≤ w.heap.size)
    (hc : w.cell? ⟨Bs, 0, none⟩ = some sv) (hI : Ints n₀ w sv zs) :
    SeqStopsK F n Tryz.prog 71 #[.pointer (some ⟨Bs, 0, none⟩)] (fun x : Int => #[Value.int .i64 x]) (Below n₀) (fun ys => ys = zs) (fun pre => pre <+: zs) zs.length w := fun l J Jx W hW _ _ hY h0 => by
  have hc' := (hW.cell (p := ⟨Bs, 0, none⟩) hBs).trans hc
  rcases hI.below (hW.mono hn₀) with ⟨A, cap, rfl, rfl⟩ | ⟨b, off, cap, rfl, hb, hcs⟩
  · exact (values1_nil_in F n h7 hro l Bs A cap J W hc' h0).mono fun e W' ⟨he, hj⟩ => ⟨he, .inl ⟨_, rfl, hj⟩⟩
  · refine (values1_in F n h7 hro hn l Bs n₀ b off zs.length cap zs hreach hb J Jx hY W hc' hcs h0).mono ?_
    rintro e W' ⟨he, ⟨ys, rfl, hj⟩ | ⟨pre, ⟨k, hk, rfl⟩, hj⟩⟩
    · exact ⟨he, .inl ⟨_, came_all zs, hj⟩⟩
    · exact ⟨he, .inr ⟨_, by rw [came_take zs hk]; exact List.take_prefix _ _, hj⟩⟩

set_option maxRecDepth 100000 in
set_option maxHeartbeats 2000000 in
theorem appendSeq_in (F : Fence) (n : Nat) (h3 : F.fn 90) (h5 : F.fn 71) (hro : F.round = none) (hn : 3 ≤ n) (Bs : Nat) (sv : Value) (zs : List Int) (hlen : zs.length ≤ maxLen) (hbytes : zs.length * 8 ≤ 140737488351232) (w : World)
    (hBs : Bs < w.heap.size) (hc : w.cell? ⟨Bs, 0, none⟩ = some sv) (hI : Ints w.heap.size w sv zs) :
    CallsIn F n Tryz.prog 90 #[.slice none 0 0, .func (.func 71) #[] #[.pointer (some ⟨Bs, 0, none⟩)]] w fun e W' => ∃ v, e = .returned v ∧ W'.ownsRow w.heap.size 3 1 v zs.length (zs.map (Value.int .i64)) ∧ (v = .slice none 0 0 ↔ zs = []) ∧ Below w.heap.size w W' := by
  have h1 : 1 ≤ n := by omega
  obtain ⟨i0, hi, hz0, hz1, hz2⟩ := info_parts infoInt
  refine callsIn_of_wp_marks Tryz.func90 rfl h3 ?_ hro
  simp only [Tryz.ntmps90, List.size_toArray, List.length_cons, List.length_nil, Nat.reduceAdd, Nat.reduceSub, Array.replicate_succ, Array.replicate_zero, List.push_toArray, List.append_toArray, List.nil_append, List.cons_append]
  gi_wp2
  have bO := Boxed.new w 30 (.slice none 0 0)
  have hB0 : Below w.heap.size w (w.alloc (.cells #[.slice none 0 0] 30)) := (Below.refl _ w).alloc (Nat.le_refl _) _
  refine wpIn_rangeFunc_ownG hro h1 (gf := 71) (lb := #[.pointer (some ⟨Bs, 0, none⟩)]) rfl h5 (enters_of Tryz.func71 (by kernel_rfl) rfl)
    (values_stops F (n - 1) h5 hro (by omega) Bs w.heap.size sv zs hbytes _ (by simp; omega) (by simp) ((hB0.cell (p := ⟨Bs, 0, none⟩) hBs).trans hc) (hI.below hB0)) belowK_t (belowK_b (by simp)) (Below.refl _ _) (fun _ => rfl)
    (fun pre W => (∃ v, Boxed W w.heap.size 30 v ∧ W.ownsRow w.heap.size 3 1 v pre.length (pre.map (Value.int .i64)) ∧ (v = .slice none 0 0 ↔ pre = [])) ∧ Below w.heap.size w W)
    (fun _ _ _ => False)
    (OwnFrom.and (Own.from (holdsRow_own w.heap.size w.heap.size 30 3 1 (fun pre : List Int => pre.length) (fun pre => pre.map (Value.int .i64)) (fun pre v => v = .slice none 0 0 ↔ pre = [])) _) (ownFrom_below (Nat.le_refl _) (by simp)))
    (fun _ _ _ _ _ hs _ _ => hs)
    ⟨⟨_, bO, World.ownsRow_nil _ _ _ _, by simp⟩, hB0⟩
    (fun x => { tmps := #[.slice none 0 0, .func (.func 71) #[] #[.pointer (some ⟨Bs, 0, none⟩)], .pointer (some ⟨w.heap.size, 0, none⟩), undef, .slice none 0 0, .int .i64 x, .func (.func 71) #[] #[.pointer (some ⟨Bs, 0, none⟩)], .int .i64 x, undef, undef, undef, undef, undef], defers := [] }) ?assign ?body ?done ?stop
  case assign =>
    intro l x W K hK
    gi_wp2
    exact hK
  case body =>
    rintro l pre x W ⟨⟨v, hv, hrow, hnil⟩, hB⟩ hlt
    have hc := hv.cell
    gi_wp2_with (gi_at_builtin; refine wpListIn_append_own _ rfl _ _ 30 rfl w.heap.size 3 i0 (.int .i64 0) 1 8 Tryz.underlying30 hi hz0 hz1 hz2 rfl (by decide) _ _ _ rfl (hrow.alloc _) ⟨W.heap.size, 0, none⟩ 1 1 [.int .i64 x] rfl rfl (cell_one_new _ _ _) (by simp [Value.oneCell']) (by omega) (by omega) (by have := hB.size; simp; omega) ?_; intro v' w1 hown' hgrow _; obtain ⟨g', cap', rfl⟩ := ownsRow_succ hown'; obtain ⟨hv1, hv2, hr2, hk2, hb2⟩ := hv.appended (by decide) hrow hB.size (Nat.le_refl _) hown' hgrow; have hc1 := hv1.cell; have hf1 := hv1.frozen)
    exact ⟨hk2.from _, hb2, ⟨_, hv2, by simpa using hr2, by simp⟩, hB.trans hb2⟩
  case done =>
    rintro D ys W hD rfl ⟨⟨v, hv, hrow, hnil⟩, hB⟩ hK
    have hc := hv.cell
    gi_wp2
    refine ⟨by simp, .inl ⟨_, _, rfl, run_takeDeferred hK, ?_⟩⟩
    exact ⟨_, results_tmp rfl _ _ _, v, rfl, ownsRow_putObj hrow _ hK rfl, hnil, hB.trans (belowK_b (w := w) (Nat.le_refl _) W D _ _ (by simp at hD; omega) hK rfl rfl)⟩
  case stop =>
    rintro D c pre W _ _ h _
    exact h.elim
set_option maxHeartbeats 400000 in
theorem values_any (A : Option Addr) (n c : Nat) (w : World) :
    Calls Tryz.prog 47 #[.slice A n c] w fun e w' => e = .returned (.func (.func 71) #[] #[.pointer (some ⟨w.heap.size, 0, none⟩)]) ∧ w' = w.alloc (.cells #[.slice A n c] 30) := by
  go_enter Tryz.func47, Tryz.ntmps47
  go_wp2
  go_ret
  exact ⟨rfl, rfl⟩

theorem appendSeq_any (Bs : Nat) (sv : Value) (zs : List Int) (hlen : zs.length ≤ 1000000000) (w : World) (hBs : Bs < w.heap.size) (hc : w.cell? ⟨Bs, 0, none⟩ = some sv) (hI : Ints w.heap.size w sv zs) :
    Calls Tryz.prog 90 #[.slice none 0 0, .func (.func 71) #[] #[.pointer (some ⟨Bs, 0, none⟩)]] w fun e W' => ∃ v, e = .returned v ∧ W'.ownsRow w.heap.size 3 1 v zs.length (zs.map (Value.int .i64)) ∧ (v = .slice none 0 0 ↔ zs = []) ∧ Below w.heap.size w W' :=
  callsIn_wide.1 (appendSeq_in Fence.wide 5 trivial trivial rfl (by omega) Bs sv zs (by unfold maxLen; omega) (by omega) w hBs hc hI)

theorem collect_any (Bs : Nat) (sv : Value) (zs : List Int) (hlen : zs.length ≤ 1000000000) (w : World) (hBs : Bs < w.heap.size) (hc : w.cell? ⟨Bs, 0, none⟩ = some sv) (hI : Ints w.heap.size w sv zs) :
    Calls Tryz.prog 69 #[.func (.func 71) #[] #[.pointer (some ⟨Bs, 0, none⟩)]] w fun e W' => ∃ v, e = .returned v ∧ W'.ownsRow w.heap.size 3 1 v zs.length (zs.map (Value.int .i64)) ∧ (v = .slice none 0 0 ↔ zs = []) ∧ Below w.heap.size w W' := by
  have h := Lib.hid (appendSeq_any Bs sv zs hlen w hBs hc hI)
  go_enter Tryz.func69, Tryz.ntmps69
  go_wp2_with fail
  refine h.out.mono ?_
  rintro e w1 ⟨v, rfl, h1, h2, h3⟩
  have H2 := Lib.hid h2; clear h2
  go_wp2
  go_ret
  exact ⟨v, rfl, h1, H2.out, h3⟩

/-- The numbers of a list, ascending. -/
def sortV (zs : List Int) : List Int := zs.mergeSort fun x y => decide (x ≤ y)
theorem sortV_length (zs : List Int) : (sortV zs).length = zs.length := List.length_mergeSort ..

set_option maxHeartbeats 400000 in
theorem sorted_any (Bs : Nat) (sv : Value) (zs : List Int) (hlen : zs.length ≤ 1000000000) (w : World) (hBs : Bs < w.heap.size) (hc : w.cell? ⟨Bs, 0, none⟩ = some sv) (hI : Ints w.heap.size w sv zs) :
    Calls Tryz.prog 46 #[.func (.func 71) #[] #[.pointer (some ⟨Bs, 0, none⟩)]] w fun e W' => ∃ v, e = .returned v ∧ W'.ownsRow w.heap.size 3 1 v zs.length ((sortV zs).map (Value.int .i64)) ∧ Below w.heap.size w W' := by
  have h := Lib.hid (collect_any Bs sv zs hlen w hBs hc hI)
  go_enter Tryz.func46, Tryz.ntmps46
  go_wp2_with fail
  refine h.out.mono ?_
  rintro e w1 ⟨v, rfl, h1, h2, h3⟩
  have H2 := Lib.hid h2; clear h2
  rcases h1.2 with ⟨rfl, h0⟩ | ⟨g, cap, cur, rfl, hbase, hb, hn1, hn2, hn3, hn4⟩
  · have hz : zs = [] := H2.out.1 rfl
    subst hz
    go_wp2_with fail
    refine (Tryz.slices_Sort_int_none none 0 _).mono ?_
    rintro e w2 ⟨rfl, rfl⟩
    go_wp2
    go_ret
    exact ⟨_, rfl, ⟨by simp [sortV], .inl ⟨rfl, rfl⟩⟩, h3⟩
  · have hH := holds_of_blockI hb (by simpa using hn4)
    have hgl : g < w1.heap.size := (Array.getElem?_eq_some_iff.1 hb).1
    have hs := Lib.hid (Tryz.slices_Sort_int g 0 cap zs w1 hH hgl (by omega))
    go_wp2_with fail
    refine hs.out.mono ?_
    rintro e w2 ⟨rfl, nn, os, hw⟩
    have o2 := ownsRow_sortedI (n := nn) (os := os) (ts := sortV zs) (by rw [sortV_length]) hbase hb hn1 hn2 hn3
    have g2 := grownBy_sortedI (w := w1) (g := g) (n := nn) (os := os) (sortV zs).toArray
    unfold sortV at o2 g2
    rw [← hw] at o2 g2
    clear hw
    go_wp2
    go_ret
    exact ⟨_, rfl, o2, h3.grown g2 (Below.size h3) (fun k e => by cases e; exact hbase)⟩

end Go.Proofs.YtclpljbllnhhbaaGreat

namespace Go.Proofs.YtclpljbllnhhbaaGreat
open Go.RowKit Go.Sort Go.Shelf

/-- A row of numbers. -/
structure Rw where
  b : Nat
  cap : Nat
  ns : List Int
def rwV (q : Rw) : Value := .slice (some ⟨q.b, 0, none⟩) q.ns.length q.cap
def hd (q : Rw) : Int := q.ns.headD 0
def RwIn (W : World) (g : Nat) (q : Rw) : Prop := q.b < W.heap.size ∧ q.b ≠ g ∧ 0 < q.ns.length ∧ W.cell? ⟨q.b, 0, none⟩ = some (.int .i64 (hd q))

set_option maxHeartbeats 1000000 in
theorem cmpHead_any (b1 b2 n1 n2 c1 c2 : Nat) (x y : Int) (W : World) (h1 : 0 < n1) (h2 : 0 < n2) (k1 : W.cell? ⟨b1, 0, none⟩ = some (.int .i64 x)) (k2 : W.cell? ⟨b2, 0, none⟩ = some (.int .i64 y)) :
    Calls Tryz.prog 49 #[.slice (some ⟨b1, 0, none⟩) n1 c1, .slice (some ⟨b2, 0, none⟩) n2 c2] W fun e w' => e = .returned (.int .i64 (Lib.compareInt x y)) ∧ ∃ q os, w' = Sort.grow (W.drewN q) os := by
  have i1 : (0 : Int) < (n1 : Int) := by omega
  have i2 : (0 : Int) < (n2 : Int) := by omega
  go_enter Tryz.func49, Tryz.ntmps49
  go_wp2_with fail
  refine wp_region_text 7 (fun w' => ∃ q, w' = W.drewN q) (by kernel_rfl) (by kernel_rfl) ⟨1, rfl⟩ ?_
  simp only [List.take, List.drop]
  repeat (first
    | (apply StepsD.run
       · go_simp
         done
       · rintro w' ⟨q, rfl⟩ K hK
         go_simp
         first
           | exact hK _ ⟨q, rfl⟩
           | ((go_at_call 50); refine (Tryz.cmp_Compare_int x y _).mono ?_; rintro e w1 ⟨rfl, rfl⟩; exact hK _ ⟨q, rfl⟩)
       · simp [Act.put]
         done))
  refine StepsD.done ?_
  rintro w' ⟨q, rfl⟩
  go_wp2
  go_ret
  exact ⟨rfl, q, #[], by rw [Sort.grow_empty]⟩

theorem heap_sortedE {α : Type} [Inhabited α] (enc : α → Value) {w : World} {g n : Nat} {os : Array Obj} {cur : Array Value} {e : TypeId} {fr : Nat × Nat} (d : Array α) (hb : w.heap[g]? = some (.cells cur e fr)) :
    (grow (putRow enc (Sort.ahead w n) g 0 d) os).heap[g]? = some (.cells (putCells enc 0 d cur) e fr) := by
  have hg : g < w.heap.size := (Array.getElem?_eq_some_iff.1 hb).1
  rw [heap_grow_old _ _ (by simpa using hg)]
  simp [putRow, mapBlock, Sort.ahead, Array.getElem?_modify, hb, onCells]
theorem grownBy_sortedE {α : Type} [Inhabited α] (enc : α → Value) {w : World} {g n : Nat} {os : Array Obj} (d : Array α) : w.grownBy (grow (putRow enc (Sort.ahead w n) g 0 d) os) (some g) := by
  refine ⟨rfl, rfl, rfl, by simp, fun k hk hne => ?_⟩
  rw [heap_grow_old _ _ (by simpa using hk)]
  have : g ≠ k := fun e => hne (by rw [e])
  simp [putRow, mapBlock, Sort.ahead, Array.getElem?_modify, this]
theorem take_putCellsE {α : Type} [Inhabited α] (enc : α → Value) (cur : Array Value) (ts : Array α) (h : ts.size ≤ cur.size) : (putCells enc 0 ts cur).toList.take ts.size = ts.toList.map enc := by
  apply List.ext_getElem?
  intro j
  by_cases hj : j < ts.size
  · rw [List.getElem?_take_of_lt hj, Array.getElem?_toList]
    simp [putCells, hj, show j < cur.size by omega]
  · rw [List.getElem?_take_eq_none (by omega), List.getElem?_eq_none (by simp; omega)]

abbrev Rs (W : World) (g : Nat) := { q : Rw // RwIn W g q }
def cfR (W : World) (g : Nat) (x y : Rs W g) : Int := Lib.compareInt (hd x.1) (hd y.1)
theorem ltR (W : World) (g : Nat) (x y : Rs W g) : ltOf (cfR W g) x y = decide (hd x.1 < hd y.1) := by
  unfold ltOf cfR
  rw [compareInt_eq]
  by_cases h1 : hd x.1 < hd y.1
  · simp [h1]
  · by_cases h2 : hd y.1 < hd x.1 <;> simp [h1, h2]
theorem swoR (W : World) (g : Nat) : SWO (ltOf (cfR W g)) where
  irrefl x := by rw [ltR]; simp
  trans x y z h1 h2 := by
    rw [ltR] at *
    simp only [decide_eq_true_eq] at *
    omega
  ntrans x y z h1 h2 := by
    rw [ltR] at *
    simp only [decide_eq_false_iff_not] at *
    omega
theorem encR_one (W : World) (g : Nat) : OneCell (fun q : Rs W g => rwV q.1) := fun _ => rfl

/-- Behind the sort the same slice owns the rows, by their first numbers. -/
theorem sortRows_any (base g cap : Nat) (D : List Rw) (w : World) (h : w.ownsRow base 30 1 (.slice (some ⟨g, 0, none⟩) D.length cap) D.length (D.map rwV)) (hD : ∀ q ∈ D, RwIn w g q) (hl : D.length ≤ 1000000) (hne : 0 < D.length) :
    Calls Tryz.prog 48 #[.slice (some ⟨g, 0, none⟩) D.length cap, .func (.func 49) #[] #[]] w fun e w' => e = .returned (.tuple #[]) ∧
      ∃ Ds : List Rw, Ds.Perm D ∧ Ds.Pairwise (fun x y => hd x ≤ hd y) ∧ w'.ownsRow base 30 1 (.slice (some ⟨g, 0, none⟩) D.length cap) D.length (Ds.map rwV) ∧ w.grownBy w' (some g) := by
  have eg : ∀ args w, (callFunc 49 args).run Tryz.prog w = .ok (.enter 49 args) w := enters_of Tryz.func49 (by kernel_rfl) rfl
  obtain ⟨g', cap', cur, hv, hbase, hb, hnc, hcap, hcur, htake⟩ : ∃ g' cap' cur, Value.slice (some ⟨g, 0, none⟩) D.length cap = .slice (some ⟨g', 0, none⟩) D.length cap' ∧ base ≤ g' ∧ w.heap[g']? = some (.cells cur 30 (0, 0)) ∧ D.length ≤ cap' ∧ cap' ≤ maxLen ∧ cur.size = cap' * 1 ∧ cur.toList.take (D.length * 1) = D.map rwV := by
    rcases h.2 with ⟨h0, _⟩ | h0
    · cases h0
    · exact h0
  cases hv
  have hlt : g < w.heap.size := (Array.getElem?_eq_some_iff.1 hb).1
  obtain ⟨q0, hq0⟩ : ∃ q, q ∈ D := ⟨D[0], List.getElem_mem hne⟩
  haveI : Inhabited (Rs w g) := ⟨⟨q0, hD q0 hq0⟩⟩
  obtain ⟨d, hdd⟩ : ∃ d : List (Rs w g), d = D.attach.map (fun q => ⟨q.1, hD q.1 q.2⟩) := ⟨_, rfl⟩
  have hdv : d.map (fun q => q.1) = D := by rw [hdd, List.map_map]; exact List.attach_map_subtype_val D
  have hdl : d.length = D.length := by rw [← hdv]; simp
  have hlay : CmpLays1 Tryz.prog 49 #[] (fun q : Rs w g => rwV q.1) (cfR w g) g 0 d.toArray.size w := by
    intro m os dk _ x y
    have hc : ∀ q : Rs w g, (sortWorld (fun q : Rs w g => rwV q.1) w g 0 m dk os).cell? ⟨q.1.b, 0, none⟩ = some (.int .i64 (hd q.1)) := fun q => by
      have hk := (grownBy_sortedE (fun q : Rs w g => rwV q.1) (w := w) (g := g) (n := m) (os := os) dk).block q.1.b q.2.1 (fun e => q.2.2.1 (by simpa using e))
      exact (World.cell?_of_block hk).trans q.2.2.2.2
    exact cmpHead_any x.1.b y.1.b x.1.ns.length y.1.ns.length x.1.cap y.1.cap _ _ _ x.2.2.2.1 y.2.2.2.1 (hc x) (hc y)
  have hH : Holds (fun q : Rs w g => rwV q.1) w g 0 d.toArray := by
    intro j hj
    have hj' : j < D.length := by simpa [hdl] using hj
    refine ⟨?_, by have := h.frozenAt j; simpa using this⟩
    rw [Nat.zero_add, h.cellAt j (by omega), getElem!_pos _ j hj, ← hdv, List.map_map, List.getElem?_map, List.getElem?_eq_getElem (by simpa using hj)]
    simp
  have hcon := Tryz.slices_SortFunc_f107 (fun q : Rs w g => rwV q.1) (encR_one w g) (cfR w g) (swoR w g) 49 #[] g 0 cap d.toArray w eg hlay hH hlt (by simp; omega)
  simp only [List.size_toArray, hdl] at hcon
  refine Calls.mono hcon ?_
  rintro e w' ⟨he, d', n, os, hp, hsrt, hw⟩
  have hs' : d'.size = D.length := by rw [hp.1]; simpa using hdl
  have hperm : d'.toList.Perm d := by
    have h3 := hp.2.2
    rw [show d'.extract 0 D.length = d' by rw [← hs']; simp, show d.toArray.extract 0 D.length = d.toArray by rw [← hdl]; simp] at h3
    simpa using h3
  refine ⟨he, d'.toList.map (fun q => q.1), ?_, ?_, ?_, ?_⟩
  · rw [← hdv]; exact hperm.map _
  · rw [List.pairwise_map, List.pairwise_iff_getElem]
    intro i j hi hj hij
    have h4 := hsrt i j (Nat.zero_le _) hij (by simpa [hs'] using hj)
    rw [ltR, getElem!_pos _ i (by simpa using hi), getElem!_pos _ j (by simpa using hj)] at h4
    simp only [decide_eq_false_iff_not] at h4
    simp only [Array.getElem_toList]
    omega
  · subst hw
    refine ⟨by simp [hs'], .inr ⟨g, cap, _, rfl, hbase, heap_sortedE _ _ hb, hnc, hcap, by simp [putCells, hcur], ?_⟩⟩
    rw [Nat.mul_one, ← hs', take_putCellsE _ _ _ (by rw [hs', hcur]; omega), List.map_map]; rfl
  · subst hw
    exact grownBy_sortedE _ _
end Go.Proofs.YtclpljbllnhhbaaGreat

namespace Go.Proofs.YtclpljbllnhhbaaGreat
open Go.RowKit Go.Shelf

set_option maxRecDepth 100000 in
set_option maxHeartbeats 4000000 in
theorem marks_loop (w : World) (b3 : Nat) (r : Ru) (hr : RuS r) (l : List Mk) (A : Option Addr) (c B : Nat) (hl : MkOk l A B w) (hB : B ≤ w.heap.size) (hl20 : l.length ≤ 20) (hms : Hid (∀ m ∈ l, MkS m)) (T : List PG) (Q' : Exit → Act → World → Prop)
    (hexit : ∀ (t0 t1 t2 t4 t5 t6 t8 t9 t10 t11 t12 t13 t14 t15 t16 t17 t18 t19 t20 t21 t22 t23 t27 t28 t29 t30 t31 t32 t33 t34 t35 t36 t37 t38 t39 t40 t41 t42 t43 t44 t45 t46 t47 t48 t49 t50 t51 t52 t53 t54 t55 t56 t57 t58 t59 t60 t61 t62 t63 t64 t65 t66 t67 t68 t69 t70 t71 t72 t73 t74 t75 t76 t77 t78 t79 t80 t81 t82 t83 : Value) (Gs : List Gp) (vg : Value) (wr : World), GmM w b3 r Gs vg wr → GmS l l.length Gs → T = Gs.map Gp.p → Q' (.exit 0) ⟨#[t0, t1, t2, .pointer (some ⟨b3, 0, none⟩), t4, t5, t6, vg, t8, t9, t10, t11, t12, t13, t14, t15, t16, t17, t18, t19, t20, t21, t22, t23, .slice A l.length c, .int .i64 l.length, .int .i64 l.length, t27, t28, t29, t30, t31, t32, t33, t34, t35, t36, t37, t38, t39, t40, t41, t42, t43, t44, t45, t46, t47, t48, t49, t50, t51, t52, t53, t54, t55, t56, t57, t58, t59, t60, t61, t62, t63, t64, t65, t66, t67, t68, t69, t70, t71, t72, t73, t74, t75, t76, t77, t78, t79, t80, t81, t82, t83], []⟩ wr) :
    ∀ (f : Nat) (t0 t1 t2 t4 t5 t6 t8 t9 t10 t11 t12 t13 t14 t15 t16 t17 t18 t19 t20 t21 t22 t23 t27 t28 t29 t30 t31 t32 t33 t34 t35 t36 t37 t38 t39 t40 t41 t42 t43 t44 t45 t46 t47 t48 t49 t50 t51 t52 t53 t54 t55 t56 t57 t58 t59 t60 t61 t62 t63 t64 t65 t66 t67 t68 t69 t70 t71 t72 t73 t74 t75 t76 t77 t78 t79 t80 t81 t82 t83 : Value) (i : Nat) (Gs : List Gp) (vg : Value) (wr : World), i ≤ l.length → l.length - i ≤ f → GmM w b3 r Gs vg wr → GmS l i Gs → groupsV r i (l.drop i) (Gs.map Gp.p) = T →
      (bodyOf Tryz.f15 0).loop.wp Tryz.prog Q' ⟨#[t0, t1, t2, .pointer (some ⟨b3, 0, none⟩), t4, t5, t6, vg, t8, t9, t10, t11, t12, t13, t14, t15, t16, t17, t18, t19, t20, t21, t22, t23, .slice A l.length c, .int .i64 l.length, .int .i64 i, t27, t28, t29, t30, t31, t32, t33, t34, t35, t36, t37, t38, t39, t40, t41, t42, t43, t44, t45, t46, t47, t48, t49, t50, t51, t52, t53, t54, t55, t56, t57, t58, t59, t60, t61, t62, t63, t64, t65, t66, t67, t68, t69, t70, t71, t72, t73, t74, t75, t76, t77, t78, t79, t80, t81, t82, t83], []⟩ wr := by
  intro f t0 t1 t2 t4 t5 t6 t8 t9 t10 t11 t12 t13 t14 t15 t16 t17 t18 t19 t20 t21 t22 t23 t27 t28 t29 t30 t31 t32 t33 t34 t35 t36 t37 t38 t39 t40 t41 t42 t43 t44 t45 t46 t47 t48 t49 t50 t51 t52 t53 t54 t55 t56 t57 t58 t59 t60 t61 t62 t63 t64 t65 t66 t67 t68 t69 t70 t71 t72 t73 t74 t75 t76 t77 t78 t79 t80 t81 t82 t83 i Gs vg wr hi hf M S hT
  refine wp_loop_rounds (f + 1) ?_
  induction f generalizing i Gs vg wr t0 t1 t2 t4 t5 t6 t8 t9 t10 t11 t12 t13 t14 t15 t16 t17 t18 t19 t20 t21 t22 t23 t27 t28 t29 t30 t31 t32 t33 t34 t35 t36 t37 t38 t39 t40 t41 t42 t43 t44 t45 t46 t47 t48 t49 t50 t51 t52 t53 t54 t55 t56 t57 t58 t59 t60 t61 t62 t63 t64 t65 t66 t67 t68 t69 t70 t71 t72 t73 t74 t75 t76 t77 t78 t79 t80 t81 t82 t83 with
  | zero =>
    rw [rounds_succ]
    exact marks_round w b3 r hr l A c B hl hB hl20 hms i hi Gs vg wr M S T hT _ _ (fun t0 t1 t2 t4 t5 t6 t8 t9 t10 t11 t12 t13 t14 t15 t16 t17 t18 t19 t20 t21 t22 t23 t27 t28 t29 t30 t31 t32 t33 t34 t35 t36 t37 t38 t39 t40 t41 t42 t43 t44 t45 t46 t47 t48 t49 t50 t51 t52 t53 t54 t55 t56 t57 t58 t59 t60 t61 t62 t63 t64 t65 t66 t67 t68 t69 t70 t71 t72 t73 t74 t75 t76 t77 t78 t79 t80 t81 t82 t83 Gs' vg' wr' hlt => by omega) (fun t0 t1 t2 t4 t5 t6 t8 t9 t10 t11 t12 t13 t14 t15 t16 t17 t18 t19 t20 t21 t22 t23 t27 t28 t29 t30 t31 t32 t33 t34 t35 t36 t37 t38 t39 t40 t41 t42 t43 t44 t45 t46 t47 t48 t49 t50 t51 t52 t53 t54 t55 t56 t57 t58 t59 t60 t61 t62 t63 t64 t65 t66 t67 t68 t69 t70 t71 t72 t73 t74 t75 t76 t77 t78 t79 t80 t81 t82 t83 e hE => by subst e; exact hexit t0 t1 t2 t4 t5 t6 t8 t9 t10 t11 t12 t13 t14 t15 t16 t17 t18 t19 t20 t21 t22 t23 t27 t28 t29 t30 t31 t32 t33 t34 t35 t36 t37 t38 t39 t40 t41 t42 t43 t44 t45 t46 t47 t48 t49 t50 t51 t52 t53 t54 t55 t56 t57 t58 t59 t60 t61 t62 t63 t64 t65 t66 t67 t68 t69 t70 t71 t72 t73 t74 t75 t76 t77 t78 t79 t80 t81 t82 t83 Gs vg wr M S hE)
  | succ f ih =>
    rw [rounds_succ]
    exact marks_round w b3 r hr l A c B hl hB hl20 hms i hi Gs vg wr M S T hT _ _ (fun t0 t1 t2 t4 t5 t6 t8 t9 t10 t11 t12 t13 t14 t15 t16 t17 t18 t19 t20 t21 t22 t23 t27 t28 t29 t30 t31 t32 t33 t34 t35 t36 t37 t38 t39 t40 t41 t42 t43 t44 t45 t46 t47 t48 t49 t50 t51 t52 t53 t54 t55 t56 t57 t58 t59 t60 t61 t62 t63 t64 t65 t66 t67 t68 t69 t70 t71 t72 t73 t74 t75 t76 t77 t78 t79 t80 t81 t82 t83 Gs' vg' wr' hlt hM hS hE => ih t0 t1 t2 t4 t5 t6 t8 t9 t10 t11 t12 t13 t14 t15 t16 t17 t18 t19 t20 t21 t22 t23 t27 t28 t29 t30 t31 t32 t33 t34 t35 t36 t37 t38 t39 t40 t41 t42 t43 t44 t45 t46 t47 t48 t49 t50 t51 t52 t53 t54 t55 t56 t57 t58 t59 t60 t61 t62 t63 t64 t65 t66 t67 t68 t69 t70 t71 t72 t73 t74 t75 t76 t77 t78 t79 t80 t81 t82 t83 (i + 1) Gs' vg' wr' (by omega) (by omega) hM hS hE) (fun t0 t1 t2 t4 t5 t6 t8 t9 t10 t11 t12 t13 t14 t15 t16 t17 t18 t19 t20 t21 t22 t23 t27 t28 t29 t30 t31 t32 t33 t34 t35 t36 t37 t38 t39 t40 t41 t42 t43 t44 t45 t46 t47 t48 t49 t50 t51 t52 t53 t54 t55 t56 t57 t58 t59 t60 t61 t62 t63 t64 t65 t66 t67 t68 t69 t70 t71 t72 t73 t74 t75 t76 t77 t78 t79 t80 t81 t82 t83 e hE => by subst e; exact hexit t0 t1 t2 t4 t5 t6 t8 t9 t10 t11 t12 t13 t14 t15 t16 t17 t18 t19 t20 t21 t22 t23 t27 t28 t29 t30 t31 t32 t33 t34 t35 t36 t37 t38 t39 t40 t41 t42 t43 t44 t45 t46 t47 t48 t49 t50 t51 t52 t53 t54 t55 t56 t57 t58 t59 t60 t61 t62 t63 t64 t65 t66 t67 t68 t69 t70 t71 t72 t73 t74 t75 t76 t77 t78 t79 t80 t81 t82 t83 Gs vg wr M S hE)

/-! ### the loop that sorts the numbers -/
theorem infoSl : (Tryz.prog.info? 30).map (fun i => (i.zero, i.size, i.bytes)) = some (some (.slice none 0 0), 1, 24) := by kernel_rfl
/-- What lies in memory. -/
structure OmM (w : World) (Gs : List Gp) (vg vo : Value) (Os : List Rw) (W : World) : Prop where
  grow : W.ownsRow w.heap.size 98 7 vg Gs.length (gpsC Gs)
  rows : ∀ g ∈ Gs, W.ownsRow w.heap.size 3 1 g.v g.ns.length (intsC g.ns)
  outs : W.ownsRow w.heap.size 30 1 vo Os.length (Os.map rwV)
  each : ∀ q ∈ Os, W.ownsRow w.heap.size 3 1 (rwV q) q.ns.length (intsC q.ns)
  below : Below w.heap.size w W
theorem OmM.gr {w W W' : World} {Gs : List Gp} {vg vo : Value} {Os : List Rw} (h : OmM w Gs vg vo Os W) (hb : Gr W W') : OmM w Gs vg vo Os W' :=
  ⟨own_below h.grow hb, fun g hg => own_below (h.rows g hg) hb, own_below h.outs hb, fun q hq => own_below (h.each q hq) hb, h.below.trans (Below.mono hb (Below.size h.below))⟩
theorem Ints.grow {W W' : World} {sv : Value} {zs : List Int} (h : Ints W.heap.size W sv zs) (hg : Gr W W') : Ints W'.heap.size W' sv zs := by
  rcases Ints.below hg h with h | ⟨b, off, cap, e, hb, hc⟩
  · exact .inl h
  · exact .inr ⟨b, off, cap, e, Nat.lt_of_lt_of_le hb (Below.size hg), hc⟩
theorem cell_one_new (w : World) (x : Value) (t : TypeId) : ∀ j v, [x][j]? = some v → (w.alloc (.cells #[x] t)).cell? ((⟨w.heap.size, 0, none⟩ : Addr).add j) = some v := by
  intro j v hj
  have hb := Blk.new w t #[x]
  match j, hj with
  | 0, hj => simp at hj; subst hj; exact hb.cell 0
  | k + 1, hj => simp at hj
/-- What the rows hold. -/
def OmS (Gs : List Gp) (j : Nat) (Os : List Rw) : Prop := Os.map (·.ns) = (Gs.take j).map fun g => sortV g.ns

set_option maxRecDepth 100000 in
set_option maxHeartbeats 4000000 in
theorem outs_round (w : World) (Gs : List Gp) (hG : Gs.length ≤ 100) (hS : GmS ([] : List Mk) (Gs.map fun g => g.ns.length).sum Gs) (hsum : (Gs.map fun g => g.ns.length).sum ≤ 100) (vg vo : Value) (Os : List Rw) (j : Nat) (hj : j ≤ Gs.length) (wr : World) (M : OmM w Gs vg vo Os wr) (S : OmS Gs j Os)
    (K' : Act → World → Prop) (Q' : Exit → Act → World → Prop) {t0 t1 t2 t3 t4 t5 t6 t7 t8 t9 t10 t11 t13 t14 t15 t16 t17 t18 t19 t20 t21 t22 t23 t24 t25 t26 t27 t28 t29 t30 t31 t32 t33 t34 t35 t36 t37 t38 t39 t40 t41 t42 t43 t44 t45 t46 t47 t48 t49 t50 t51 t52 t53 t54 t55 t56 t57 t58 t59 t60 t61 t62 t63 t64 t65 t66 t70 t71 t72 t73 t74 t75 t76 t77 t78 t79 t80 t81 t82 t83 : Value}
    (hnext : ∀ (t0 t1 t2 t3 t4 t5 t6 t7 t8 t9 t10 t11 t13 t14 t15 t16 t17 t18 t19 t20 t21 t22 t23 t24 t25 t26 t27 t28 t29 t30 t31 t32 t33 t34 t35 t36 t37 t38 t39 t40 t41 t42 t43 t44 t45 t46 t47 t48 t49 t50 t51 t52 t53 t54 t55 t56 t57 t58 t59 t60 t61 t62 t63 t64 t65 t66 t70 t71 t72 t73 t74 t75 t76 t77 t78 t79 t80 t81 t82 t83 : Value) (Os' : List Rw) (vo' : Value) (wr' : World), j < Gs.length → OmM w Gs vg vo' Os' wr' → OmS Gs (j + 1) Os' →
      K' ⟨#[t0, t1, t2, t3, t4, t5, t6, t7, t8, t9, t10, t11, vo', t13, t14, t15, t16, t17, t18, t19, t20, t21, t22, t23, t24, t25, t26, t27, t28, t29, t30, t31, t32, t33, t34, t35, t36, t37, t38, t39, t40, t41, t42, t43, t44, t45, t46, t47, t48, t49, t50, t51, t52, t53, t54, t55, t56, t57, t58, t59, t60, t61, t62, t63, t64, t65, t66, vg, .int .i64 Gs.length, .int .i64 ((j : Int) + 1), t70, t71, t72, t73, t74, t75, t76, t77, t78, t79, t80, t81, t82, t83], []⟩ wr')
    (hexit : ∀ (t0 t1 t2 t3 t4 t5 t6 t7 t8 t9 t10 t11 t13 t14 t15 t16 t17 t18 t19 t20 t21 t22 t23 t24 t25 t26 t27 t28 t29 t30 t31 t32 t33 t34 t35 t36 t37 t38 t39 t40 t41 t42 t43 t44 t45 t46 t47 t48 t49 t50 t51 t52 t53 t54 t55 t56 t57 t58 t59 t60 t61 t62 t63 t64 t65 t66 t70 t71 t72 t73 t74 t75 t76 t77 t78 t79 t80 t81 t82 t83 : Value), j = Gs.length → Q' (.exit 4) ⟨#[t0, t1, t2, t3, t4, t5, t6, t7, t8, t9, t10, t11, vo, t13, t14, t15, t16, t17, t18, t19, t20, t21, t22, t23, t24, t25, t26, t27, t28, t29, t30, t31, t32, t33, t34, t35, t36, t37, t38, t39, t40, t41, t42, t43, t44, t45, t46, t47, t48, t49, t50, t51, t52, t53, t54, t55, t56, t57, t58, t59, t60, t61, t62, t63, t64, t65, t66, vg, .int .i64 Gs.length, .int .i64 j, t70, t71, t72, t73, t74, t75, t76, t77, t78, t79, t80, t81, t82, t83], []⟩ wr) :
    (bodyOf Tryz.f15 2).wp Tryz.prog (Exit.then K' Q') ⟨#[t0, t1, t2, t3, t4, t5, t6, t7, t8, t9, t10, t11, vo, t13, t14, t15, t16, t17, t18, t19, t20, t21, t22, t23, t24, t25, t26, t27, t28, t29, t30, t31, t32, t33, t34, t35, t36, t37, t38, t39, t40, t41, t42, t43, t44, t45, t46, t47, t48, t49, t50, t51, t52, t53, t54, t55, t56, t57, t58, t59, t60, t61, t62, t63, t64, t65, t66, vg, .int .i64 Gs.length, .int .i64 j, t70, t71, t72, t73, t74, t75, t76, t77, t78, t79, t80, t81, t82, t83], []⟩ wr := by
  have HN := Lib.hid hnext; have HX := Lib.hid hexit
  clear hnext hexit
  conv in (bodyOf _ _) => whnf
  try dsimp only
  by_cases hlt : j < Gs.length
  · clear HX
    have hgm := List.getElem_mem hlt
    have hns := hS.each _ hgm
    have hB0 := Below.size M.below
    obtain ⟨gk, ck, hvk, _, hgk⟩ := (M.rows _ hgm).form (hS.each _ hgm)
    have hrk := M.rows _ hgm
    have hnl : Gs[j].ns.length ≤ 100 := by have := mem_le_sum (List.mem_map_of_mem (f := fun g : Gp => g.ns.length) hgm); omega
    have hS2 : ∀ b cp, OmS Gs (j + 1) (Os ++ [⟨b, cp, sortV Gs[j].ns⟩]) := fun b cp => by
      unfold OmS at *
      rw [List.map_append, S, List.take_succ_eq_append_getElem hlt, List.map_append]; rfl
    have hOl : Os.length = j := by have := congrArg List.length S; simpa [Nat.min_eq_left hj] using this
    obtain ⟨gg, capg, hvg, _, hgl⟩ := M.grow.form (by omega)
    subst hvg
    have hR : Row wr wr.heap.size 7 (some ⟨gg, 0, none⟩) Gs.length (gpsC Gs) := by
      refine ⟨gpsC_length _, fun _ => ⟨gg, 0, rfl, hgl, fun j u hj => ?_⟩⟩
      have := M.grow.cells (g := gg) rfl j u hj
      rw [Nat.zero_add]
      rwa [Addr.add_lit, Nat.zero_add] at this
    obtain ⟨g', o', hA', _, c0, c1, c2, c3, c4, c5, c6⟩ := gpCells hR hlt
    injection hA' with hA'
    injection hA' with e1 e2
    subst e1; subst e2
    clear hR
    simp only [Nat.zero_add] at c0 c1 c2 c3 c4 c5 c6
    rw [hvk] at c0 hrk
    generalize Gs[j].ns = ns at *
    generalize Gs[j].m = m at *
    have hjI : (j : Int) < (Gs.length : Int) := by omega
    have hj0 : (0 : Int) ≤ (j : Int) := by omega
    have hI : Ints wr.heap.size wr (.slice (some ⟨gk, 0, none⟩) ns.length ck) ns := .inr ⟨gk, 0, ck, rfl, hgk, fun t ht => by
      have := hrk.cells (g := gk) rfl t (.int .i64 (ns[t]?.getD 0)) (by simp [intsC, ht])
      rwa [Addr.add_lit] at this⟩
    go_wp2_with fail
    refine (values_any _ _ _ _).mono ?_
    rintro e w1 ⟨rfl, rfl⟩
    have hgr : Gr wr ((wr.alloc (.cells (gpA (.slice (some ⟨gk, 0, none⟩) ns.length ck) m) 98)).alloc (.cells #[.slice (some ⟨gk, 0, none⟩) ns.length ck] 30)) := show Below wr.heap.size wr _ from (by repeat (first | (with_reducible exact Below.refl _ _) | (with_reducible assumption) | ((with_reducible refine Below.setCell ?_ ?_ _); rotate_left; · (first | exact Nat.le_refl _ | (simp; done) | (simp; omega) | omega)) | ((with_reducible refine Below.alloc ?_ ?_ _); rotate_left; · (first | exact Nat.le_refl _ | (simp; done) | (simp; omega) | omega)) | (with_reducible apply Below.drew) | (with_reducible apply below_drewN') | (refine Below.trans ?_ (Below.mono (by assumption) (by first | exact Nat.le_refl _ | (simp; done) | (simp; omega) | omega))) | exact Below.refl _ _ | assumption))
    have hbx := Blk.new (wr.alloc (.cells (gpA (.slice (some ⟨gk, 0, none⟩) ns.length ck) m) 98)) 30 #[.slice (some ⟨gk, 0, none⟩) ns.length ck]
    rw [World.size_alloc] at hbx
    have hI2 := Ints.grow hI hgr
    replace M := M.gr hgr
    clear hI hrk c0 c1 c2 c3 c4 c5 c6
    go_wp2_with fail
    refine (sorted_any (wr.heap.size + 1) (.slice (some ⟨gk, 0, none⟩) ns.length ck) ns (by omega) _ hbx.lt (hbx.cell 0) hI2).mono ?_
    rintro e w3 ⟨v, rfl, hrow, hB3⟩
    replace M := M.gr hB3
    obtain ⟨bv, cv, rfl, _, _⟩ := hrow.form hns
    have hbz := Below.size M.below
    have hrow2 := hrow.mono (base' := w.heap.size) (by simp only [World.size_alloc]; have := hB0; omega)
    obtain ⟨i0, hi0, hz0, hz1, hz2⟩ := info_parts infoSl
    have hOo := M.outs.alloc (.cells #[.slice (some ⟨bv, 0, none⟩) ns.length cv] 30)
    have HS3 := Lib.hid (hS2 bv cv)
    clear hS2 hrow hI2 hbx
    go_wp2_with (at_builtin; refine wpList_append_own _ rfl _ _ 55 rfl w.heap.size 30 i0 _ 1 24 Tryz.underlying55 hi0 hz0 hz1 hz2 rfl (by decide) _ _ _ rfl hOo ⟨w3.heap.size, 0, none⟩ 1 1 [.slice (some ⟨bv, 0, none⟩) ns.length cv] rfl rfl (cell_one_new _ _ _) (by simp [Value.oneCell']) (by unfold maxLen; omega) (by omega) (by simp; omega) ?_; intro v2 W5 hown' hgrow _)
    have hsl := sortV_length ns
    have hnew : W5.ownsRow w.heap.size 3 1 (rwV ⟨bv, cv, sortV ns⟩) (sortV ns).length (intsC (sortV ns)) := by
      unfold rwV
      rw [hsl]
      exact (hrow2.alloc _).kept hgrow (own_two (hrow2.alloc _) hOo (by decide))
    have M2 : OmM w Gs (.slice (some ⟨gg, 0, none⟩) Gs.length capg) v2 (Os ++ [⟨bv, cv, sortV ns⟩]) W5 :=
      ⟨(M.grow.alloc _).kept hgrow (own_two (M.grow.alloc _) hOo (by decide)), fun g hg => ((M.rows g hg).alloc _).kept hgrow (own_two ((M.rows g hg).alloc _) hOo (by decide)),
        by rw [List.length_append, List.map_append]
           have e : [(⟨bv, cv, sortV ns⟩ : Rw)].map rwV = [.slice (some ⟨bv, 0, none⟩) ns.length cv] := by simp [rwV, hsl]
           rw [e]; exact hown',
        fun q hq => by
          rcases List.mem_append.1 hq with hq | hq
          · exact ((M.each q hq).alloc _).kept hgrow (own_two ((M.each q hq).alloc _) hOo (by decide))
          · rw [List.mem_singleton] at hq; subst hq; exact hnew,
        below_own (M.below.alloc hbz _) (Nat.le_refl _) hOo hgrow⟩
    exact HN.out _ _ _ _ _ _ _ _ _ _ _ _ _ _ _ _ _ _ _ _ _ _ _ _ _ _ _ _ _ _ _ _ _ _ _ _ _ _ _ _ _ _ _ _ _ _ _ _ _ _ _ _ _ _ _ _ _ _ _ _ _ _ _ _ _ _ _ _ _ _ _ _ _ _ _ _ _ _ _ _ _ v2 W5 hlt M2 HS3.out
  · obtain rfl : j = Gs.length := by omega
    clear HN
    go_wp2
    exact HX.out _ _ _ _ _ _ _ _ _ _ _ _ _ _ _ _ _ _ _ _ _ _ _ _ _ _ _ _ _ _ _ _ _ _ _ _ _ _ _ _ _ _ _ _ _ _ _ _ _ _ _ _ _ _ _ _ _ _ _ _ _ _ _ _ _ _ _ _ _ _ _ _ _ _ _ _ _ _ _ _ (by trivial)

set_option maxRecDepth 100000 in
set_option maxHeartbeats 4000000 in
theorem outs_loop (w : World) (Gs : List Gp) (hG : Gs.length ≤ 100) (hS : GmS ([] : List Mk) (Gs.map fun g => g.ns.length).sum Gs) (hsum : (Gs.map fun g => g.ns.length).sum ≤ 100) (vg : Value) (Q' : Exit → Act → World → Prop)
    (hexit : ∀ (t0 t1 t2 t3 t4 t5 t6 t7 t8 t9 t10 t11 t13 t14 t15 t16 t17 t18 t19 t20 t21 t22 t23 t24 t25 t26 t27 t28 t29 t30 t31 t32 t33 t34 t35 t36 t37 t38 t39 t40 t41 t42 t43 t44 t45 t46 t47 t48 t49 t50 t51 t52 t53 t54 t55 t56 t57 t58 t59 t60 t61 t62 t63 t64 t65 t66 t70 t71 t72 t73 t74 t75 t76 t77 t78 t79 t80 t81 t82 t83 : Value) (Os : List Rw) (vo : Value) (wr : World), OmM w Gs vg vo Os wr → OmS Gs Gs.length Os → Q' (.exit 4) ⟨#[t0, t1, t2, t3, t4, t5, t6, t7, t8, t9, t10, t11, vo, t13, t14, t15, t16, t17, t18, t19, t20, t21, t22, t23, t24, t25, t26, t27, t28, t29, t30, t31, t32, t33, t34, t35, t36, t37, t38, t39, t40, t41, t42, t43, t44, t45, t46, t47, t48, t49, t50, t51, t52, t53, t54, t55, t56, t57, t58, t59, t60, t61, t62, t63, t64, t65, t66, vg, .int .i64 Gs.length, .int .i64 Gs.length, t70, t71, t72, t73, t74, t75, t76, t77, t78, t79, t80, t81, t82, t83], []⟩ wr) :
    ∀ (f : Nat) (t0 t1 t2 t3 t4 t5 t6 t7 t8 t9 t10 t11 t13 t14 t15 t16 t17 t18 t19 t20 t21 t22 t23 t24 t25 t26 t27 t28 t29 t30 t31 t32 t33 t34 t35 t36 t37 t38 t39 t40 t41 t42 t43 t44 t45 t46 t47 t48 t49 t50 t51 t52 t53 t54 t55 t56 t57 t58 t59 t60 t61 t62 t63 t64 t65 t66 t70 t71 t72 t73 t74 t75 t76 t77 t78 t79 t80 t81 t82 t83 : Value) (j : Nat) (Os : List Rw) (vo : Value) (wr : World), j ≤ Gs.length → Gs.length - j ≤ f → OmM w Gs vg vo Os wr → OmS Gs j Os →
      (bodyOf Tryz.f15 2).loop.wp Tryz.prog Q' ⟨#[t0, t1, t2, t3, t4, t5, t6, t7, t8, t9, t10, t11, vo, t13, t14, t15, t16, t17, t18, t19, t20, t21, t22, t23, t24, t25, t26, t27, t28, t29, t30, t31, t32, t33, t34, t35, t36, t37, t38, t39, t40, t41, t42, t43, t44, t45, t46, t47, t48, t49, t50, t51, t52, t53, t54, t55, t56, t57, t58, t59, t60, t61, t62, t63, t64, t65, t66, vg, .int .i64 Gs.length, .int .i64 j, t70, t71, t72, t73, t74, t75, t76, t77, t78, t79, t80, t81, t82, t83], []⟩ wr := by
  intro f t0 t1 t2 t3 t4 t5 t6 t7 t8 t9 t10 t11 t13 t14 t15 t16 t17 t18 t19 t20 t21 t22 t23 t24 t25 t26 t27 t28 t29 t30 t31 t32 t33 t34 t35 t36 t37 t38 t39 t40 t41 t42 t43 t44 t45 t46 t47 t48 t49 t50 t51 t52 t53 t54 t55 t56 t57 t58 t59 t60 t61 t62 t63 t64 t65 t66 t70 t71 t72 t73 t74 t75 t76 t77 t78 t79 t80 t81 t82 t83 j Os vo wr hj hf M S
  refine wp_loop_rounds (f + 1) ?_
  induction f generalizing j Os vo wr t0 t1 t2 t3 t4 t5 t6 t7 t8 t9 t10 t11 t13 t14 t15 t16 t17 t18 t19 t20 t21 t22 t23 t24 t25 t26 t27 t28 t29 t30 t31 t32 t33 t34 t35 t36 t37 t38 t39 t40 t41 t42 t43 t44 t45 t46 t47 t48 t49 t50 t51 t52 t53 t54 t55 t56 t57 t58 t59 t60 t61 t62 t63 t64 t65 t66 t70 t71 t72 t73 t74 t75 t76 t77 t78 t79 t80 t81 t82 t83 with
  | zero =>
    rw [rounds_succ]
    exact outs_round w Gs hG hS hsum vg vo Os j hj wr M S _ _ (fun t0 t1 t2 t3 t4 t5 t6 t7 t8 t9 t10 t11 t13 t14 t15 t16 t17 t18 t19 t20 t21 t22 t23 t24 t25 t26 t27 t28 t29 t30 t31 t32 t33 t34 t35 t36 t37 t38 t39 t40 t41 t42 t43 t44 t45 t46 t47 t48 t49 t50 t51 t52 t53 t54 t55 t56 t57 t58 t59 t60 t61 t62 t63 t64 t65 t66 t70 t71 t72 t73 t74 t75 t76 t77 t78 t79 t80 t81 t82 t83 Os' vo' wr' hlt => by omega) (fun t0 t1 t2 t3 t4 t5 t6 t7 t8 t9 t10 t11 t13 t14 t15 t16 t17 t18 t19 t20 t21 t22 t23 t24 t25 t26 t27 t28 t29 t30 t31 t32 t33 t34 t35 t36 t37 t38 t39 t40 t41 t42 t43 t44 t45 t46 t47 t48 t49 t50 t51 t52 t53 t54 t55 t56 t57 t58 t59 t60 t61 t62 t63 t64 t65 t66 t70 t71 t72 t73 t74 t75 t76 t77 t78 t79 t80 t81 t82 t83 e => by subst e; exact hexit t0 t1 t2 t3 t4 t5 t6 t7 t8 t9 t10 t11 t13 t14 t15 t16 t17 t18 t19 t20 t21 t22 t23 t24 t25 t26 t27 t28 t29 t30 t31 t32 t33 t34 t35 t36 t37 t38 t39 t40 t41 t42 t43 t44 t45 t46 t47 t48 t49 t50 t51 t52 t53 t54 t55 t56 t57 t58 t59 t60 t61 t62 t63 t64 t65 t66 t70 t71 t72 t73 t74 t75 t76 t77 t78 t79 t80 t81 t82 t83 Os vo wr M S)
  | succ f ih =>
    rw [rounds_succ]
    exact outs_round w Gs hG hS hsum vg vo Os j hj wr M S _ _ (fun t0 t1 t2 t3 t4 t5 t6 t7 t8 t9 t10 t11 t13 t14 t15 t16 t17 t18 t19 t20 t21 t22 t23 t24 t25 t26 t27 t28 t29 t30 t31 t32 t33 t34 t35 t36 t37 t38 t39 t40 t41 t42 t43 t44 t45 t46 t47 t48 t49 t50 t51 t52 t53 t54 t55 t56 t57 t58 t59 t60 t61 t62 t63 t64 t65 t66 t70 t71 t72 t73 t74 t75 t76 t77 t78 t79 t80 t81 t82 t83 Os' vo' wr' hlt hM hS' => ih t0 t1 t2 t3 t4 t5 t6 t7 t8 t9 t10 t11 t13 t14 t15 t16 t17 t18 t19 t20 t21 t22 t23 t24 t25 t26 t27 t28 t29 t30 t31 t32 t33 t34 t35 t36 t37 t38 t39 t40 t41 t42 t43 t44 t45 t46 t47 t48 t49 t50 t51 t52 t53 t54 t55 t56 t57 t58 t59 t60 t61 t62 t63 t64 t65 t66 t70 t71 t72 t73 t74 t75 t76 t77 t78 t79 t80 t81 t82 t83 (j + 1) Os' vo' wr' (by omega) (by omega) hM hS') (fun t0 t1 t2 t3 t4 t5 t6 t7 t8 t9 t10 t11 t13 t14 t15 t16 t17 t18 t19 t20 t21 t22 t23 t24 t25 t26 t27 t28 t29 t30 t31 t32 t33 t34 t35 t36 t37 t38 t39 t40 t41 t42 t43 t44 t45 t46 t47 t48 t49 t50 t51 t52 t53 t54 t55 t56 t57 t58 t59 t60 t61 t62 t63 t64 t65 t66 t70 t71 t72 t73 t74 t75 t76 t77 t78 t79 t80 t81 t82 t83 e => by subst e; exact hexit t0 t1 t2 t3 t4 t5 t6 t7 t8 t9 t10 t11 t13 t14 t15 t16 t17 t18 t19 t20 t21 t22 t23 t24 t25 t26 t27 t28 t29 t30 t31 t32 t33 t34 t35 t36 t37 t38 t39 t40 t41 t42 t43 t44 t45 t46 t47 t48 t49 t50 t51 t52 t53 t54 t55 t56 t57 t58 t59 t60 t61 t62 t63 t64 t65 t66 t70 t71 t72 t73 t74 t75 t76 t77 t78 t79 t80 t81 t82 t83 Os vo wr M S)
end Go.Proofs.YtclpljbllnhhbaaGreat

namespace Go.Proofs.YtclpljbllnhhbaaGreat
open Go.RowKit Go.Shelf

theorem marksE_zero {l : List Mk} (h : (marksE l).2 = 0) : l.length ≤ 20 ∧ MarksTo l l.length := by
  have h20 : l.length ≤ 20 := by
    rcases Nat.lt_or_ge 20 l.length with h1 | h1
    · unfold marksE at h; rw [if_pos h1] at h; cases h
    · exact h1
  refine ⟨h20, ?_⟩
  have key : ∀ k, k ≤ l.length → MarksTo l k := by
    intro k
    induction k with
    | zero => intro _ j hj hjk; omega
    | succ k ih =>
      intro hk
      have hT := ih (by omega)
      have hkl : k < l.length := by omega
      by_cases he : markE l[k] = 0
      · cases hs : (l.take k).any (fun p => sameB p.nm l[k].nm)
        · exact hT.step hkl he hs
        · have := marksE_twice h20 hkl hT he hs
          rw [this] at h; cases h
      · have := marksE_bad h20 hkl hT he
        rw [this] at h; exact absurd h he
  exact key _ (Nat.le_refl _)
theorem markE_zero {m : Mk} (h : markE m = 0) : MkS m ∧ nameB m.nm = true ∧ m.al ≤ m.ah ∧ m.dl ≤ m.dh ∧ 0 ≤ m.lv ∧ m.lv ≤ 1000000000 := by
  have h0 := (firstE_zero _).1 h
  have h1 := unlessE_zero (by decide) (h0 (unlessE (nameB m.nm) 4) (by simp))
  have h2 := unlessE_zero (by decide) (h0 (unlessE (endsB m) 2) (by simp))
  have h3 := unlessE_zero (by decide) (h0 (unlessE (ordB m) 9) (by simp))
  have h4 := unlessE_zero (b := wi m.lv 0 1000000000) (by decide) (h0 (levelE m.lv) (by simp))
  unfold endsB at h2
  unfold ordB at h3
  simp [wi] at h2 h3 h4
  refine ⟨⟨?_, ?_, ?_, ?_⟩, h1, h3.1, h3.2, h4.1, h4.2⟩ <;> (unfold Sm; omega)
theorem ruleE_zero {r : Ru} (h : ruleE r = 0) : RuS r := by
  unfold ruleE at h
  cases h1 : wi r.along 0 100000 <;> rw [h1] at h
  · simp at h
  cases h2 : wi r.down 0 100000 <;> rw [h2] at h
  · simp at h
  cases h3 : lowB r.num r.den <;> rw [h3] at h
  · simp at h
  have hd : 0 < r.den := by unfold lowB at h3; simp at h3; exact h3.1
  by_cases g0 : r.num < 0 ∨ 100 < r.den ∨ 4 * r.den < r.num
  · exfalso
    rcases g0 with g | g | g <;> simp [g] at h
  · simp [wi] at h1 h2
    exact ⟨h1, h2, by omega, by omega⟩

/-- The error of marks and of a rule. -/
def groupedE (l : List Mk) (r : Ru) : Int := firstE [(marksE l).2, ruleE r]

set_option maxRecDepth 100000 in
set_option maxHeartbeats 4000000 in
theorem grouped_ok (l : List Mk) (A : Option Addr) (c B : Nat) (r : Ru) (w : World) (hl : MkOk l A B w) (hcap : l.length ≤ c) (hB : B ≤ w.heap.size) (hn : W64 r.num) (hd' : W64 r.den) (he : groupedE l r = 0) :
    Calls Tryz.prog 15 #[.slice A l.length c, .agg (ruC r)] w fun e w' => ∃ (v : Value) (Ds : List Rw), e = .returned (.tuple #[v, .int .i64 0]) ∧ (Ds.map (·.ns)).Perm ((groupsV r 0 l []).map fun g => sortV g.1) ∧ Ds.Pairwise (fun x y => hd x ≤ hd y) ∧
      w'.ownsRow w.heap.size 30 1 v Ds.length (Ds.map rwV) ∧ (∀ q ∈ Ds, w'.ownsRow w.heap.size 3 1 (rwV q) q.ns.length (intsC q.ns)) ∧ Below w.heap.size w w' := by
  have hz := (firstE_zero _).1 he
  have z1 : (marksE l).2 = 0 := hz _ (by simp)
  have z2 : ruleE r = 0 := hz _ (by simp)
  obtain ⟨h20, hT⟩ := marksE_zero z1
  have hrs := ruleE_zero z2
  have hms : Hid (∀ m ∈ l, MkS m) := Lib.hid (fun m hm => by
    obtain ⟨k, hk, rfl⟩ := List.getElem_of_mem hm
    exact (markE_zero (hT k hk hk).1).1)
  have Z1 := Lib.hid z1; have Z2 := Lib.hid z2
  clear z1 z2 he hz hT
  have b3 := Blk.new w 63 (ruC r)
  have hBB : Below w.heap.size w (w.alloc (.cells (ruC r) 63)) := (by repeat (first | (with_reducible exact Below.refl _ _) | (with_reducible assumption) | ((with_reducible refine Below.setCell ?_ ?_ _); rotate_left; · (first | exact Nat.le_refl _ | (simp; done) | (simp; omega) | omega)) | ((with_reducible refine Below.alloc ?_ ?_ _); rotate_left; · (first | exact Nat.le_refl _ | (simp; done) | (simp; omega) | omega)) | (with_reducible apply Below.drew) | (with_reducible apply below_drewN') | (refine Below.trans ?_ (Below.mono (by assumption) (by first | exact Nat.le_refl _ | (simp; done) | (simp; omega) | omega))) | exact Below.refl _ _ | assumption))
  go_enter Tryz.func15, Tryz.ntmps15
  go_wp2_with fail
  obtain ⟨W, hW⟩ : ∃ W, w.alloc (.cells (ruC r) 63) = W := ⟨_, rfl⟩
  rw [hW] at b3 hBB ⊢
  have hzW : w.heap.size < W.heap.size := b3.lt
  clear hW
  have hlW := Lib.hid (hl.below hBB hB)
  have l_b3 := b3.lt
  obtain ⟨c0, c1, c2, c3, f3⟩ := blk4 b3
  refine wp_region_b 4 (by kernel_rfl) (by kernel_rfl) ?_; simp only [List.take, List.drop]
  repeat (first
    | (apply StepsD.run
       · go_simp
         done
       · intro w' hS K hK
         have hc := (bcell hS).1
         have hf := (bcell hS).2
         have hz := hS.size
         try simp at hz
         go_simp
         try go_bits
         first
           | exact hK _ hS
           | (go_at_call 39; (with_reducible refine (listErr_any l A c B _ (hlW.out.below hS (by omega)) hcap (by omega) |>.mono ?_)); rw [Z1.out]; rintro e w1 ⟨rfl, hB1⟩; obtain ⟨hc1, hf1⟩ := bcell hB1; have hz1 := hB1.size; (try simp at hz1); exact hK _ (Below.trans hS (Below.mono hB1 (by first | exact Nat.le_refl _ | (simp; done) | (simp; omega) | omega))))
           | (go_at_call 40; (with_reducible refine (checkRule_any r hn hd' _).mono ?_); rw [Z2.out]; rintro e w1 ⟨rfl, hB1⟩; obtain ⟨hc1, hf1⟩ := bcell hB1; have hz1 := hB1.size; (try simp at hz1); exact hK _ (Below.trans hS (Below.mono hB1 (by first | exact Nat.le_refl _ | (simp; done) | (simp; omega) | omega))))
           | exact hK _ (by repeat (first | (with_reducible exact Below.refl _ _) | (with_reducible assumption) | ((with_reducible refine Below.setCell ?_ ?_ _); rotate_left; · (first | exact Nat.le_refl _ | (simp; done) | (simp; omega) | omega)) | ((with_reducible refine Below.alloc ?_ ?_ _); rotate_left; · (first | exact Nat.le_refl _ | (simp; done) | (simp; omega) | omega)) | (with_reducible apply Below.drew) | (with_reducible apply below_drewN') | (refine Below.trans ?_ (Below.mono (by assumption) (by first | exact Nat.le_refl _ | (simp; done) | (simp; omega) | omega))) | exact Below.refl _ _ | assumption))
       · simp [Act.put]
         done)
    | (apply StepsD.pass
       · go_simp
         done
       · simp only [Act.put, List.setIfInBounds_toArray, List.set_cons_succ, List.set_cons_zero]
         rfl))
  refine StepsD.done ?_
  intro w1 hS
  replace b3 := b3.gr hS
  replace hBB := hBB.trans (Below.mono hS (Below.size hBB))
  clear hS
  clear l_b3 c0 c1 c2 c3 f3
  have l_b3 := b3.lt
  obtain ⟨c0, c1, c2, c3, f3⟩ := blk4 b3
  have HGE : Hid (firstE [0, 0] = 0) := Lib.hid rfl
  go_wp2_with fail
  refine (first2_any _ _ _ _).mono ?_
  rw [HGE.out]
  rintro e wc1 ⟨rfl, hBc1⟩
  replace b3 := b3.gr hBc1
  replace hBB := hBB.trans (Below.mono hBc1 (Below.size hBB))
  clear hBc1
  clear l_b3 c0 c1 c2 c3 f3
  have l_b3 := b3.lt
  obtain ⟨c0, c1, c2, c3, f3⟩ := blk4 b3
  have M0 : GmM w w.heap.size r [] (.slice none 0 0) wc1 := ⟨b3, World.ownsRow_nil _ _ _ _, by simp, hBB⟩
  have S0 : GmS l 0 ([] : List Gp) := ⟨by simp, by simp, rfl⟩
  clear b3 l_b3 c0 c1 c2 c3 f3 hBB hlW
  go_wp2_with fail
  refine marks_loop w w.heap.size r hrs l A c B hl hB h20 hms _ _ ?_ l.length _ _ _ _ _ _ _ _ _ _ _ _ _ _ _ _ _ _ _ _ _ _ _ _ _ _ _ _ _ _ _ _ _ _ _ _ _ _ _ _ _ _ _ _ _ _ _ _ _ _ _ _ _ _ _ _ _ _ _ _ _ _ _ _ _ _ _ _ _ _ _ _ _ _ _ _ _ _ _ 0 [] _ _ (Nat.zero_le _) (by omega) M0 S0 rfl
  clear M0 S0
  intro t0 t1 t2 t4 t5 t6 t8 t9 t10 t11 t12 t13 t14 t15 t16 t17 t18 t19 t20 t21 t22 t23 t27 t28 t29 t30 t31 t32 t33 t34 t35 t36 t37 t38 t39 t40 t41 t42 t43 t44 t45 t46 t47 t48 t49 t50 t51 t52 t53 t54 t55 t56 t57 t58 t59 t60 t61 t62 t63 t64 t65 t66 t67 t68 t69 t70 t71 t72 t73 t74 t75 t76 t77 t78 t79 t80 t81 t82 t83 Gs vg wr M S hTG
  try dsimp only
  have HTG := Lib.hid hTG
  clear hTG
  have hGl := S.len
  have hsum : (Gs.map fun g => g.ns.length).sum ≤ 100 := by rw [S.cnt]; omega
  have hSe : GmS ([] : List Mk) (Gs.map fun g => g.ns.length).sum Gs := ⟨S.each, S.ms, rfl⟩
  obtain ⟨Ag, cg, rfl⟩ : ∃ Ag cg, vg = .slice Ag Gs.length cg := by
    rcases M.grow.2 with ⟨rfl, h0⟩ | ⟨g, cap, cur, rfl, _⟩
    · exact ⟨none, 0, by rw [h0]⟩
    · exact ⟨_, _, rfl⟩
  have MO : OmM w Gs (.slice Ag Gs.length cg) (.slice none 0 0) [] wr := ⟨M.grow, M.rows, World.ownsRow_nil _ _ _ _, by simp, M.below⟩
  have hSE := Lib.hid S.each
  clear M S
  go_wp2_with fail
  refine outs_loop w Gs (by omega) hSe hsum _ _ ?_ Gs.length _ _ _ _ _ _ _ _ _ _ _ _ _ _ _ _ _ _ _ _ _ _ _ _ _ _ _ _ _ _ _ _ _ _ _ _ _ _ _ _ _ _ _ _ _ _ _ _ _ _ _ _ _ _ _ _ _ _ _ _ _ _ _ _ _ _ _ _ _ _ _ _ _ _ _ _ _ _ _ _ 0 [] _ _ (Nat.zero_le _) (by omega) MO rfl
  clear MO
  intro t0 t1 t2 t3 t4 t5 t6 t7 t8 t9 t10 t11 t13 t14 t15 t16 t17 t18 t19 t20 t21 t22 t23 t24 t25 t26 t27 t28 t29 t30 t31 t32 t33 t34 t35 t36 t37 t38 t39 t40 t41 t42 t43 t44 t45 t46 t47 t48 t49 t50 t51 t52 t53 t54 t55 t56 t57 t58 t59 t60 t61 t62 t63 t64 t65 t66 t70 t71 t72 t73 t74 t75 t76 t77 t78 t79 t80 t81 t82 t83 Os vo w2 M S2
  try dsimp only
  have hmap : Hid ((Os.map (·.ns)).Perm ((groupsV r 0 l []).map fun g => sortV g.1)) := Lib.hid (by
    have e : Os.map (·.ns) = Gs.map fun g => sortV g.ns := by have := S2; unfold OmS at this; rwa [List.take_length] at this
    have e2 : groupsV r 0 l [] = Gs.map Gp.p := HTG.out
    rw [e, e2, List.map_map]
    exact List.Perm.refl _)
  have hpos : Hid (∀ q ∈ Os, 0 < q.ns.length) := Lib.hid (fun q hq => by
    have e : Os.map (·.ns) = Gs.map fun g => sortV g.ns := by have := S2; unfold OmS at this; rwa [List.take_length] at this
    have hq' : q.ns ∈ Os.map (·.ns) := List.mem_map_of_mem (f := (·.ns)) hq
    rw [e] at hq'
    obtain ⟨g, hg, e3⟩ := List.mem_map.1 hq'
    rw [← e3, sortV_length]; exact hSE.out g hg)
  have hOl : Os.length ≤ 100 := by
    have := congrArg List.length S2
    simp only [List.length_map, List.take_length] at this
    omega
  clear S2 HTG hSE
  obtain ⟨Av, cv, rfl⟩ : ∃ Av cv, vo = .slice Av Os.length cv := by
    rcases M.outs.2 with ⟨rfl, h0⟩ | ⟨g, cap, cur, rfl, _⟩
    · exact ⟨none, 0, by rw [h0]⟩
    · exact ⟨_, _, rfl⟩
  have HS : Hid (Calls Tryz.prog 48 #[.slice Av Os.length cv, .func (.func 49) #[] #[]] w2 fun e w' => e = .returned (.tuple #[]) ∧
      ∃ Ds : List Rw, Ds.Perm Os ∧ Ds.Pairwise (fun x y => hd x ≤ hd y) ∧ w'.ownsRow w.heap.size 30 1 (.slice Av Os.length cv) Os.length (Ds.map rwV) ∧ w2.grownBy w' (Value.slice Av Os.length cv).ownBlock) := Lib.hid (by
    rcases Nat.eq_zero_or_pos Os.length with h0 | h0
    · obtain rfl := List.length_eq_zero_iff.1 h0
      refine (Tryz.slices_SortFunc_none_f107 (α := Nat) Av cv _ w2).mono ?_
      rintro e w' ⟨rfl, rfl⟩
      exact ⟨rfl, [], List.Perm.refl _, List.Pairwise.nil, M.outs, World.grownBy.refl _ _⟩
    · obtain ⟨g, c2, hv, _, _⟩ := M.outs.form h0
      obtain ⟨rfl, rfl⟩ : Av = some ⟨g, 0, none⟩ ∧ cv = c2 := by injection hv with h1 h2 h3; exact ⟨h1, h3⟩
      refine sortRows_any w.heap.size g cv Os w2 M.outs (fun q hq => ?_) (by omega) h0
      have hq1 := M.each q hq
      have hq2 := hpos.out q hq
      refine ⟨?_, ?_, hq2, ?_⟩
      · exact (hq1.lt q.b rfl).2
      · rcases own_two hq1 M.outs (by decide) with h | h
        · cases h
        · exact fun e => h (show some q.b = some g by rw [e])
      · have := hq1.cells (g := q.b) rfl 0 (.int .i64 (hd q)) (by
          unfold hd intsC
          cases hns : q.ns with
          | nil => rw [hns] at hq2; simp at hq2
          | cons a t => simp)
        rwa [Addr.add_lit] at this)
  go_wp2_with fail
  refine HS.out.mono ?_
  rintro e w3 ⟨rfl, Ds, hp, hs, ho, hg⟩
  have hDl : Ds.length = Os.length := hp.length_eq
  have hfin : Hid ((Ds.map (·.ns)).Perm ((groupsV r 0 l []).map fun g => sortV g.1)) := Lib.hid ((hp.map _).trans hmap.out)
  have heach : Hid (∀ q ∈ Ds, w3.ownsRow w.heap.size 3 1 (rwV q) q.ns.length (intsC q.ns)) := Lib.hid (fun q hq => by
    have hq1 := M.each q (hp.mem_iff.1 hq)
    exact hq1.kept hg (own_two hq1 M.outs (by decide)))
  have hbel := Lib.hid (below_own M.below (Nat.le_refl _) M.outs hg)
  have HP := Lib.hid hs; have HO := Lib.hid ho
  clear hp hs ho hg HS M hmap hpos
  go_wp2
  go_ret2
  exact ⟨_, Ds, rfl, hfin.out, HP.out, by rw [hDl]; exact HO.out, heach.out, hbel.out⟩
end Go.Proofs.YtclpljbllnhhbaaGreat
