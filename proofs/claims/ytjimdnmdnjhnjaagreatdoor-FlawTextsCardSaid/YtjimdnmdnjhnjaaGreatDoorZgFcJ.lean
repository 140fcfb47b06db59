/- Grouped: a mark's own group takes in all groups that it meets (the inner loop). Grouped: the loop over the marks. -/
import Derived.Deep.Onto
import Derived.Test.YtjimdnmdnjhnjaaGreatDoorZgFcH
import Derived.Test.YtjimdnmdnjhnjaaGreatDoorZgFaR
namespace Go.Proofs.YtjimdnmdnjhnjaaGreatDoor
open Go.RowKit

/-- A group: its numbers, its hull. -/
abbrev PG := List Int × Mk
def Gp.p (g : Gp) : PG := (g.ns, g.m)
def meetP (r : Ru) (o g : PG) : Bool := interactV g.2 o.2 r
/-- A group takes in all that it meets, one behind the other. -/
def absorbV (r : Ru) : Nat → PG → List PG → PG × List PG
  | 0, o, gs => (o, gs)
  | f + 1, o, gs => match gs.findIdx? (meetP r o) with
    | none => (o, gs)
    | some k => absorbV r f (o.1 ++ (gs[k]?.getD o).1, hullV o.2 (gs[k]?.getD o).2) (gs.eraseIdx k)
theorem absorbV_none {r : Ru} {n : Nat} {o : PG} {gs : List PG} (h : gs.any (meetP r o) = false) : absorbV r n o gs = (o, gs) := by
  cases n with
  | zero => rfl
  | succ n =>
    have : gs.findIdx? (meetP r o) = none := by
      rw [List.findIdx?_eq_none_iff]
      intro x hx
      exact (List.any_eq_false.1 h x hx) |> fun h => by simpa using h
    unfold absorbV; rw [this]
theorem absorbV_some {r : Ru} {n : Nat} {o : PG} {gs : List PG} {k : Nat} (hk : k < gs.length) (h : meetP r o gs[k] = true) (hb : (gs.take k).any (meetP r o) = false) :
    absorbV r (n + 1) o gs = absorbV r n (o.1 ++ gs[k].1, hullV o.2 gs[k].2) (gs.eraseIdx k) := by
  have : gs.findIdx? (meetP r o) = some k := by
    rw [List.findIdx?_eq_some_iff_getElem]
    refine ⟨hk, h, fun j hj => ?_⟩
    have := List.any_eq_false.1 hb gs[j] (by rw [List.mem_take_iff_getElem]; exact ⟨j, by omega, rfl⟩)
    simpa using this
  show (match gs.findIdx? (meetP r o) with
    | none => (o, gs)
    | some k => absorbV r n (o.1 ++ (gs[k]?.getD o).1, hullV o.2 (gs[k]?.getD o).2) (gs.eraseIdx k)) = _
  rw [this]
  show absorbV r n (o.1 ++ (gs[k]?.getD o).1, hullV o.2 (gs[k]?.getD o).2) (gs.eraseIdx k) = _
  rw [List.getElem?_eq_getElem hk]; rfl
theorem map_erase {α β : Type} (f : α → β) : ∀ (l : List α) (k : Nat), (l.eraseIdx k).map f = (l.map f).eraseIdx k
  | [], _ => by simp
  | a :: l, 0 => by simp
  | a :: l, k + 1 => by simp only [List.eraseIdx_cons_succ, List.map_cons]; rw [map_erase f l k]

theorem mem_le_sum : ∀ {l : List Nat} {x : Nat}, x ∈ l → x ≤ l.sum
  | a :: l, x, h => by
    rw [List.sum_cons]
    rcases List.mem_cons.1 h with rfl | h
    · omega
    · have := mem_le_sum h; omega
theorem sum_erase : ∀ (l : List Nat) (k : Nat) (h : k < l.length), (l.eraseIdx k).sum + l[k] = l.sum
  | a :: l, 0, _ => by simp; omega
  | a :: l, k + 1, h => by
    have := sum_erase l k (by simpa using h)
    simp only [List.eraseIdx_cons_succ, List.sum_cons, List.getElem_cons_succ]; omega
/-- What holds of the numbers and hulls. -/
structure GrS (os : List Int) (om : Mk) (Gs : List Gp) : Prop where
  pos : 0 < os.length
  each : ∀ g ∈ Gs, 0 < g.ns.length
  om : MkS om
  ms : ∀ g ∈ Gs, MkS g.m
  cnt : os.length + (Gs.map fun g => g.ns.length).sum ≤ 100
  len : Gs.length ≤ 100
theorem GrS.le {os : List Int} {om : Mk} {Gs : List Gp} (h : GrS os om Gs) {g : Gp} (hg : g ∈ Gs) : os.length + g.ns.length ≤ 100 := by
  have := mem_le_sum (List.mem_map_of_mem (f := fun g : Gp => g.ns.length) hg)
  have := h.cnt; omega
theorem GrS.take {os : List Int} {om : Mk} {Gs : List Gp} (h : GrS os om Gs) {k : Nat} (hk : k < Gs.length) : GrS (os ++ Gs[k].ns) (hullV om Gs[k].m) (Gs.eraseIdx k) := by
  have hs := sum_erase (Gs.map fun g => g.ns.length) k (by simpa using hk)
  have e : ((Gs.eraseIdx k).map fun g => g.ns.length) = (Gs.map fun g => g.ns.length).eraseIdx k := map_erase _ _ _
  refine ⟨by rw [List.length_append]; have := h.pos; omega, fun g hg => h.each g (List.mem_of_mem_eraseIdx hg), h.om.hull (h.ms _ (List.getElem_mem hk)), fun g hg => h.ms g (List.mem_of_mem_eraseIdx hg), ?_, ?_⟩
  · rw [e, List.length_append]
    have := h.cnt
    simp only [List.getElem_map] at hs
    omega
  · rw [List.length_eraseIdx_of_lt hk]; have := h.len; omega

section
variable {w W W' : World} {N b3 : Nat} {r : Ru} {Gs : List Gp} {vg vo : Value} {os : List Int}
theorem GrR.form (h : GrR w N b3 r Gs vg vo os W) : ∃ A c, vg = .slice A Gs.length c ∧ Row W N 7 A Gs.length (gpsC Gs) := by
  rcases h.grow.2 with ⟨rfl, h0⟩ | ⟨g, cap, cur, rfl, _⟩
  · exact ⟨none, 0, by rw [h0], gpsC_length _, fun hn => by omega⟩
  · refine ⟨_, _, rfl, gpsC_length _, fun _ => ⟨g, 0, rfl, h.vlt g rfl, fun j u hj => ?_⟩⟩
    have := h.grow.cells (g := g) rfl j u hj
    rw [Nat.zero_add]
    rwa [Addr.add_lit, Nat.zero_add] at this
theorem gpsC_one {B : Nat} {W : World} {N : Nat} {Gs : List Gp} (hp : ∀ g ∈ Gs, 0 < g.ns.length) (hr : ∀ g ∈ Gs, NsOk B W N g) : ∀ u ∈ gpsC Gs, u.oneCell' = true := by
  intro u hu
  obtain ⟨g, hg, hu⟩ := List.mem_flatMap.1 hu
  obtain ⟨gk, ck, hv, _, _⟩ := (hr g hg).1.form (hp g hg)
  simp only [gpL, List.mem_cons, List.not_mem_nil, or_false] at hu
  rcases hu with rfl | rfl | rfl | rfl | rfl | rfl | rfl
  · rw [hv]; rfl
  all_goals rfl
theorem GrR.erase (h : GrR w N b3 r Gs vg vo os W) {k : Nat} {vg' : Value} (ho : W'.ownsRow w.heap.size 106 7 vg' (Gs.eraseIdx k).length (gpsC (Gs.eraseIdx k))) (hg : W.grownBy W' vg.ownBlock) (hv : ∀ j, vg'.ownBlock = some j → j < N) : GrR w N b3 r (Gs.eraseIdx k) vg' vo os W' :=
  ⟨h.rule.grown hg (fun e => own_blk_ne h.grow h.rule (by decide) e.symm), h.orow.kept hg (own_two h.orow h.grow (by decide)), ho,
    fun g hg' => ⟨(h.rows g (List.mem_of_mem_eraseIdx hg')).1.kept hg (own_two (h.rows g (List.mem_of_mem_eraseIdx hg')).1 h.grow (by decide)), (h.rows g (List.mem_of_mem_eraseIdx hg')).2⟩,
    below_own h.below (Nat.le_refl _) h.grow hg, h.base, Nat.le_trans h.nlt hg.size, hv, h.b3lt⟩
end

set_option maxRecDepth 100000 in
set_option maxHeartbeats 4000000 in
theorem absorb_round (u24 u25 u26 : Value) (w : World) (N b3 b10 : Nat) (r : Ru) (hr : RuS r) (Gs : List Gp) (vg vo : Value) (os : List Int) (om : Mk) (wr : World) (M : GrR w N b3 r Gs vg vo os wr) (bo : Blk wr b10 106 (gpA vo om)) (hb10 : N ≤ b10) (S : GrS os om Gs) (T : PG × List PG)
    (hT : absorbV r Gs.length (os, om) (Gs.map Gp.p) = T) (K' : Act → World → Prop) (Q' : Exit → Act → World → Prop) {t0 t1 t2 t4 t5 t6 t8 t9 t11 t12 t13 t14 t15 t16 t17 t18 t19 t20 t21 t22 t23 t27 t28 t29 t30 t31 t32 t33 t34 t35 t36 t37 t38 t39 t40 t41 t42 t43 t44 t45 t46 t47 t48 t49 t50 t51 t52 t53 t54 t55 t56 t57 t58 t59 t60 t61 t62 t63 t64 t65 t66 t67 t68 t69 t70 t71 t72 t73 t74 t75 t76 t77 t78 t79 t80 t81 t82 t83 : Value}
    (hnext : ∀ (t0 t1 t2 t4 t5 t6 t8 t9 t11 t12 t13 t14 t15 t16 t17 t18 t19 t20 t21 t22 t23 t27 t28 t29 t30 t31 t32 t33 t34 t35 t36 t37 t38 t39 t40 t41 t42 t43 t44 t45 t46 t47 t48 t49 t50 t51 t52 t53 t54 t55 t56 t57 t58 t59 t60 t61 t62 t63 t64 t65 t66 t67 t68 t69 t70 t71 t72 t73 t74 t75 t76 t77 t78 t79 t80 t81 t82 t83 : Value) (Gs' : List Gp) (vg' vo' : Value) (os' : List Int) (om' : Mk) (wr' : World), Gs'.length < Gs.length → GrR w N b3 r Gs' vg' vo' os' wr' → Blk wr' b10 106 (gpA vo' om') → GrS os' om' Gs' →
      absorbV r Gs'.length (os', om') (Gs'.map Gp.p) = T → K' ⟨#[t0, t1, t2, .pointer (some ⟨b3, 0, none⟩), t4, t5, t6, vg', t8, t9, .pointer (some ⟨b10, 0, none⟩), t11, t12, t13, t14, t15, t16, t17, t18, t19, t20, t21, t22, t23, u24, u25, u26, t27, t28, t29, t30, t31, t32, t33, t34, t35, t36, t37, t38, t39, t40, t41, t42, t43, t44, t45, t46, t47, t48, t49, t50, t51, t52, t53, t54, t55, t56, t57, t58, t59, t60, t61, t62, t63, t64, t65, t66, t67, t68, t69, t70, t71, t72, t73, t74, t75, t76, t77, t78, t79, t80, t81, t82, t83], []⟩ wr')
    (hexit : ∀ (t0 t1 t2 t4 t5 t6 t8 t9 t11 t12 t13 t14 t15 t16 t17 t18 t19 t20 t21 t22 t23 t27 t28 t29 t30 t31 t32 t33 t34 t35 t36 t37 t38 t39 t40 t41 t42 t43 t44 t45 t46 t47 t48 t49 t50 t51 t52 t53 t54 t55 t56 t57 t58 t59 t60 t61 t62 t63 t64 t65 t66 t67 t68 t69 t70 t71 t72 t73 t74 t75 t76 t77 t78 t79 t80 t81 t82 t83 : Value) (wr' : World), GrR w N b3 r Gs vg vo os wr' → Blk wr' b10 106 (gpA vo om) → T = ((os, om), Gs.map Gp.p) → Q' (.exit 2) ⟨#[t0, t1, t2, .pointer (some ⟨b3, 0, none⟩), t4, t5, t6, vg, t8, t9, .pointer (some ⟨b10, 0, none⟩), t11, t12, t13, t14, t15, t16, t17, t18, t19, t20, t21, t22, t23, u24, u25, u26, t27, t28, t29, t30, t31, t32, t33, t34, t35, t36, t37, t38, t39, t40, t41, t42, t43, t44, t45, t46, t47, t48, t49, t50, t51, t52, t53, t54, t55, t56, t57, t58, t59, t60, t61, t62, t63, t64, t65, t66, t67, t68, t69, t70, t71, t72, t73, t74, t75, t76, t77, t78, t79, t80, t81, t82, t83], []⟩ wr') :
    (bodyOf Tryz.f13 1).wp Tryz.prog (Exit.then K' Q') ⟨#[t0, t1, t2, .pointer (some ⟨b3, 0, none⟩), t4, t5, t6, vg, t8, t9, .pointer (some ⟨b10, 0, none⟩), t11, t12, t13, t14, t15, t16, t17, t18, t19, t20, t21, t22, t23, u24, u25, u26, t27, t28, t29, t30, t31, t32, t33, t34, t35, t36, t37, t38, t39, t40, t41, t42, t43, t44, t45, t46, t47, t48, t49, t50, t51, t52, t53, t54, t55, t56, t57, t58, t59, t60, t61, t62, t63, t64, t65, t66, t67, t68, t69, t70, t71, t72, t73, t74, t75, t76, t77, t78, t79, t80, t81, t82, t83], []⟩ wr := by
  have HN := Lib.hid hnext; have HX := Lib.hid hexit
  clear hnext hexit
  obtain ⟨A, c, rfl, hrow⟩ := M.form
  have HT := Lib.hid hT; clear hT
  have hlen := S.len
  have hnl := M.nlt
  conv in (bodyOf _ _) => whnf
  try dsimp only
  go_wp2_with fail
  refine (indexGp_any Gs A c vo om r b10 b3 N wr (by omega) hrow hnl (Lib.hid S.ms) S.om hr ⟨bo, M.rule⟩).mono ?_
  rintro e w1 ⟨i, rfl, HI, hB1⟩
  replace M := M.gr hB1
  replace bo := bo.gr hB1
  clear hB1 hnl hrow
  rcases HI.out with ⟨rfl, hno⟩ | ⟨k, hk, rfl, hy, hb⟩
  · have HNO := Lib.hid hno
    clear hno HI
    go_wp2
    exact HX.out _ _ _ _ _ _ _ _ _ _ _ _ _ _ _ _ _ _ _ _ _ _ _ _ _ _ _ _ _ _ _ _ _ _ _ _ _ _ _ _ _ _ _ _ _ _ _ _ _ _ _ _ _ _ _ _ _ _ _ _ _ _ _ _ _ _ _ _ _ _ _ _ _ _ _ _ _ _ _ M bo (by rw [← HT.out]; exact absorbV_none (by rw [List.any_map]; exact HNO.out))
  · have HY := Lib.hid hy; have HB := Lib.hid hb
    clear hy hb HI
    have hk0 : ¬ (k : Int) < 0 := by omega
    go_wp2_with fail
    refine takeReg w N b3 b10 r Gs (.slice A Gs.length c) vo os om w1 M bo hb10 k hk hlen (S.le (List.getElem_mem hk)) (S.each _ (List.getElem_mem hk)) (ds := []) _ _ ?_
    clear M bo
    intro t40 t41 t42 t43 t44 t45 t46 t47 t48 t49 t50 t51 t52 t53 t54 t55 t56 vo' w2 M bo
    have S' := S.take hk
    have h1 := Lib.hid (gpsC_one S.each M.rows)
    try dsimp only
    go_wp2_with fail
    refine (delete_any Gs k hk (by omega) w.heap.size _ h1 w2 M.grow).mono ?_
    rintro e w3 ⟨vg', rfl, hd, hg, hvb⟩
    have M' := M.erase hd hg (fun j hj => M.vlt j (by rw [← hvb]; exact hj))
    have bo' := bo.grown hg (fun e => by have := M.vlt b10 e.symm; omega)
    have hT' : absorbV r (Gs.eraseIdx k).length (os ++ Gs[k].ns, hullV om Gs[k].m) ((Gs.eraseIdx k).map Gp.p) = T := by
      rw [← HT.out, List.length_eraseIdx_of_lt hk, map_erase]
      have h2 := absorbV_some (r := r) (n := Gs.length - 1) (o := (os, om)) (gs := Gs.map Gp.p) (k := k) (by simpa using hk) (by rw [List.getElem_map]; exact HY.out) (by rw [← List.map_take, List.any_map]; exact HB.out)
      rw [show Gs.length - 1 + 1 = Gs.length by omega, List.getElem_map] at h2
      exact h2.symm
    have HT' := Lib.hid hT'
    have hll : (Gs.eraseIdx k).length < Gs.length := by rw [List.length_eraseIdx_of_lt hk]; omega
    clear M bo hd hg hvb hT' HT HY HB h1
    go_wp2
    exact HN.out _ _ _ _ _ _ _ _ _ _ _ _ _ _ _ _ _ _ _ _ _ _ _ _ _ _ _ _ _ _ _ _ _ _ _ _ _ _ _ _ _ _ _ _ _ _ _ _ _ _ _ _ _ _ _ _ _ _ _ _ _ _ _ _ _ _ _ _ _ _ _ _ _ _ _ _ _ _ _ _ _ _ _ _ hll M' bo' S' HT'.out

set_option maxRecDepth 100000 in
set_option maxHeartbeats 4000000 in
theorem absorb_loop (u24 u25 u26 : Value) (w : World) (N b3 b10 : Nat) (r : Ru) (hr : RuS r) (hb10 : N ≤ b10) (T : PG × List PG) (_K' : Act → World → Prop) (Q' : Exit → Act → World → Prop)
    (hexit : ∀ (t0 t1 t2 t4 t5 t6 t8 t9 t11 t12 t13 t14 t15 t16 t17 t18 t19 t20 t21 t22 t23 t27 t28 t29 t30 t31 t32 t33 t34 t35 t36 t37 t38 t39 t40 t41 t42 t43 t44 t45 t46 t47 t48 t49 t50 t51 t52 t53 t54 t55 t56 t57 t58 t59 t60 t61 t62 t63 t64 t65 t66 t67 t68 t69 t70 t71 t72 t73 t74 t75 t76 t77 t78 t79 t80 t81 t82 t83 : Value) (Gs : List Gp) (vg vo : Value) (os : List Int) (om : Mk) (wr' : World), GrR w N b3 r Gs vg vo os wr' → Blk wr' b10 106 (gpA vo om) → GrS os om Gs → T = ((os, om), Gs.map Gp.p) →
      Q' (.exit 2) ⟨#[t0, t1, t2, .pointer (some ⟨b3, 0, none⟩), t4, t5, t6, vg, t8, t9, .pointer (some ⟨b10, 0, none⟩), t11, t12, t13, t14, t15, t16, t17, t18, t19, t20, t21, t22, t23, u24, u25, u26, t27, t28, t29, t30, t31, t32, t33, t34, t35, t36, t37, t38, t39, t40, t41, t42, t43, t44, t45, t46, t47, t48, t49, t50, t51, t52, t53, t54, t55, t56, t57, t58, t59, t60, t61, t62, t63, t64, t65, t66, t67, t68, t69, t70, t71, t72, t73, t74, t75, t76, t77, t78, t79, t80, t81, t82, t83], []⟩ wr') :
    ∀ (f : Nat) (t0 t1 t2 t4 t5 t6 t8 t9 t11 t12 t13 t14 t15 t16 t17 t18 t19 t20 t21 t22 t23 t27 t28 t29 t30 t31 t32 t33 t34 t35 t36 t37 t38 t39 t40 t41 t42 t43 t44 t45 t46 t47 t48 t49 t50 t51 t52 t53 t54 t55 t56 t57 t58 t59 t60 t61 t62 t63 t64 t65 t66 t67 t68 t69 t70 t71 t72 t73 t74 t75 t76 t77 t78 t79 t80 t81 t82 t83 : Value) (Gs : List Gp) (vg vo : Value) (os : List Int) (om : Mk) (wr : World), Gs.length ≤ f → GrR w N b3 r Gs vg vo os wr → Blk wr b10 106 (gpA vo om) → GrS os om Gs → absorbV r Gs.length (os, om) (Gs.map Gp.p) = T →
      (bodyOf Tryz.f13 1).loop.wp Tryz.prog Q' ⟨#[t0, t1, t2, .pointer (some ⟨b3, 0, none⟩), t4, t5, t6, vg, t8, t9, .pointer (some ⟨b10, 0, none⟩), t11, t12, t13, t14, t15, t16, t17, t18, t19, t20, t21, t22, t23, u24, u25, u26, t27, t28, t29, t30, t31, t32, t33, t34, t35, t36, t37, t38, t39, t40, t41, t42, t43, t44, t45, t46, t47, t48, t49, t50, t51, t52, t53, t54, t55, t56, t57, t58, t59, t60, t61, t62, t63, t64, t65, t66, t67, t68, t69, t70, t71, t72, t73, t74, t75, t76, t77, t78, t79, t80, t81, t82, t83], []⟩ wr := by
  intro f t0 t1 t2 t4 t5 t6 t8 t9 t11 t12 t13 t14 t15 t16 t17 t18 t19 t20 t21 t22 t23 t27 t28 t29 t30 t31 t32 t33 t34 t35 t36 t37 t38 t39 t40 t41 t42 t43 t44 t45 t46 t47 t48 t49 t50 t51 t52 t53 t54 t55 t56 t57 t58 t59 t60 t61 t62 t63 t64 t65 t66 t67 t68 t69 t70 t71 t72 t73 t74 t75 t76 t77 t78 t79 t80 t81 t82 t83 Gs vg vo os om wr hf M bo S hT
  refine wp_loop_rounds (f + 1) ?_
  induction f generalizing Gs vg vo os om wr t0 t1 t2 t4 t5 t6 t8 t9 t11 t12 t13 t14 t15 t16 t17 t18 t19 t20 t21 t22 t23 t27 t28 t29 t30 t31 t32 t33 t34 t35 t36 t37 t38 t39 t40 t41 t42 t43 t44 t45 t46 t47 t48 t49 t50 t51 t52 t53 t54 t55 t56 t57 t58 t59 t60 t61 t62 t63 t64 t65 t66 t67 t68 t69 t70 t71 t72 t73 t74 t75 t76 t77 t78 t79 t80 t81 t82 t83 with
  | zero =>
    rw [rounds_succ]
    exact absorb_round u24 u25 u26 w N b3 b10 r hr Gs vg vo os om wr M bo hb10 S T hT _ _ (fun t0 t1 t2 t4 t5 t6 t8 t9 t11 t12 t13 t14 t15 t16 t17 t18 t19 t20 t21 t22 t23 t27 t28 t29 t30 t31 t32 t33 t34 t35 t36 t37 t38 t39 t40 t41 t42 t43 t44 t45 t46 t47 t48 t49 t50 t51 t52 t53 t54 t55 t56 t57 t58 t59 t60 t61 t62 t63 t64 t65 t66 t67 t68 t69 t70 t71 t72 t73 t74 t75 t76 t77 t78 t79 t80 t81 t82 t83 Gs' vg' vo' os' om' wr' hlt => by omega) (fun t0 t1 t2 t4 t5 t6 t8 t9 t11 t12 t13 t14 t15 t16 t17 t18 t19 t20 t21 t22 t23 t27 t28 t29 t30 t31 t32 t33 t34 t35 t36 t37 t38 t39 t40 t41 t42 t43 t44 t45 t46 t47 t48 t49 t50 t51 t52 t53 t54 t55 t56 t57 t58 t59 t60 t61 t62 t63 t64 t65 t66 t67 t68 t69 t70 t71 t72 t73 t74 t75 t76 t77 t78 t79 t80 t81 t82 t83 wr' hM hb hE => hexit t0 t1 t2 t4 t5 t6 t8 t9 t11 t12 t13 t14 t15 t16 t17 t18 t19 t20 t21 t22 t23 t27 t28 t29 t30 t31 t32 t33 t34 t35 t36 t37 t38 t39 t40 t41 t42 t43 t44 t45 t46 t47 t48 t49 t50 t51 t52 t53 t54 t55 t56 t57 t58 t59 t60 t61 t62 t63 t64 t65 t66 t67 t68 t69 t70 t71 t72 t73 t74 t75 t76 t77 t78 t79 t80 t81 t82 t83 Gs vg vo os om wr' hM hb S hE)
  | succ f ih =>
    rw [rounds_succ]
    exact absorb_round u24 u25 u26 w N b3 b10 r hr Gs vg vo os om wr M bo hb10 S T hT _ _ (fun t0 t1 t2 t4 t5 t6 t8 t9 t11 t12 t13 t14 t15 t16 t17 t18 t19 t20 t21 t22 t23 t27 t28 t29 t30 t31 t32 t33 t34 t35 t36 t37 t38 t39 t40 t41 t42 t43 t44 t45 t46 t47 t48 t49 t50 t51 t52 t53 t54 t55 t56 t57 t58 t59 t60 t61 t62 t63 t64 t65 t66 t67 t68 t69 t70 t71 t72 t73 t74 t75 t76 t77 t78 t79 t80 t81 t82 t83 Gs' vg' vo' os' om' wr' hlt hM hb hS hE => ih t0 t1 t2 t4 t5 t6 t8 t9 t11 t12 t13 t14 t15 t16 t17 t18 t19 t20 t21 t22 t23 t27 t28 t29 t30 t31 t32 t33 t34 t35 t36 t37 t38 t39 t40 t41 t42 t43 t44 t45 t46 t47 t48 t49 t50 t51 t52 t53 t54 t55 t56 t57 t58 t59 t60 t61 t62 t63 t64 t65 t66 t67 t68 t69 t70 t71 t72 t73 t74 t75 t76 t77 t78 t79 t80 t81 t82 t83 Gs' vg' vo' os' om' wr' (by omega) hM hb hS hE) (fun t0 t1 t2 t4 t5 t6 t8 t9 t11 t12 t13 t14 t15 t16 t17 t18 t19 t20 t21 t22 t23 t27 t28 t29 t30 t31 t32 t33 t34 t35 t36 t37 t38 t39 t40 t41 t42 t43 t44 t45 t46 t47 t48 t49 t50 t51 t52 t53 t54 t55 t56 t57 t58 t59 t60 t61 t62 t63 t64 t65 t66 t67 t68 t69 t70 t71 t72 t73 t74 t75 t76 t77 t78 t79 t80 t81 t82 t83 wr' hM hb hE => hexit t0 t1 t2 t4 t5 t6 t8 t9 t11 t12 t13 t14 t15 t16 t17 t18 t19 t20 t21 t22 t23 t27 t28 t29 t30 t31 t32 t33 t34 t35 t36 t37 t38 t39 t40 t41 t42 t43 t44 t45 t46 t47 t48 t49 t50 t51 t52 t53 t54 t55 t56 t57 t58 t59 t60 t61 t62 t63 t64 t65 t66 t67 t68 t69 t70 t71 t72 t73 t74 t75 t76 t77 t78 t79 t80 t81 t82 t83 Gs vg vo os om wr' hM hb S hE)
end Go.Proofs.YtjimdnmdnjhnjaaGreatDoor

namespace Go.Proofs.YtjimdnmdnjhnjaaGreatDoor
open Go.RowKit

def groupStep (r : Ru) (gs : List PG) (i : Nat) (m : Mk) : List PG := (absorbV r gs.length ([(i : Int)], m) gs).2 ++ [(absorbV r gs.length ([(i : Int)], m) gs).1]
def groupsV (r : Ru) : Nat → List Mk → List PG → List PG
  | _, [], gs => gs
  | i, m :: l, gs => groupsV r (i + 1) l (groupStep r gs i m)
theorem absorbV_cnt (r : Ru) : ∀ (n : Nat) (o : PG) (gs : List PG), (absorbV r n o gs).1.1.length + ((absorbV r n o gs).2.map fun g => g.1.length).sum = o.1.length + (gs.map fun g => g.1.length).sum
  | 0, o, gs => rfl
  | n + 1, o, gs => by
    cases h : gs.findIdx? (meetP r o) with
    | none => unfold absorbV; rw [h]
    | some k =>
      obtain ⟨hk, _⟩ := List.findIdx?_eq_some_iff_getElem.1 h
      have e : absorbV r (n + 1) o gs = absorbV r n (o.1 ++ gs[k].1, hullV o.2 gs[k].2) (gs.eraseIdx k) := by
        show (match gs.findIdx? (meetP r o) with
          | none => (o, gs)
          | some k => absorbV r n (o.1 ++ (gs[k]?.getD o).1, hullV o.2 (gs[k]?.getD o).2) (gs.eraseIdx k)) = _
        rw [h]
        show absorbV r n (o.1 ++ (gs[k]?.getD o).1, hullV o.2 (gs[k]?.getD o).2) (gs.eraseIdx k) = _
        rw [List.getElem?_eq_getElem hk]; rfl
      rw [e, absorbV_cnt r n, List.length_append, map_erase]
      have := sum_erase (gs.map fun g => g.1.length) k (by simpa using hk)
      simp only [List.getElem_map] at this
      omega
theorem cell_seven_new (w : World) (x0 x1 x2 x3 x4 x5 x6 : Value) (t : TypeId) : ∀ j v, [x0, x1, x2, x3, x4, x5, x6][j]? = some v → (w.alloc (.cells #[x0, x1, x2, x3, x4, x5, x6] t)).cell? ((⟨w.heap.size, 0, none⟩ : Addr).add j) = some v := by
  intro j v hj
  have hb := Blk.new w t #[x0, x1, x2, x3, x4, x5, x6]
  match j, hj with
  | 0, hj => simp at hj; subst hj; exact hb.cell 0
  | 1, hj => simp at hj; subst hj; exact hb.cell 1
  | 2, hj => simp at hj; subst hj; exact hb.cell 2
  | 3, hj => simp at hj; subst hj; exact hb.cell 3
  | 4, hj => simp at hj; subst hj; exact hb.cell 4
  | 5, hj => simp at hj; subst hj; exact hb.cell 5
  | 6, hj => simp at hj; subst hj; exact hb.cell 6
  | k + 7, hj => simp at hj
/-- What lies in memory between the rounds. -/
structure GmM (w : World) (b3 : Nat) (r : Ru) (Gs : List Gp) (vg : Value) (W : World) : Prop where
  rule : Blk W b3 55 (ruC r)
  grow : W.ownsRow w.heap.size 106 7 vg Gs.length (gpsC Gs)
  rows : ∀ g ∈ Gs, W.ownsRow w.heap.size 3 1 g.v g.ns.length (intsC g.ns)
  below : Below w.heap.size w W
structure GmS (l : List Mk) (i : Nat) (Gs : List Gp) : Prop where
  each : ∀ g ∈ Gs, 0 < g.ns.length
  ms : ∀ g ∈ Gs, MkS g.m
  cnt : (Gs.map fun g => g.ns.length).sum = i
theorem len_le_sum : ∀ {l : List Nat}, (∀ x ∈ l, 0 < x) → l.length ≤ l.sum
  | [], _ => by simp
  | a :: l, h => by
    have := len_le_sum (l := l) (fun x hx => h x (by simp [hx]))
    have := h a (by simp)
    simp only [List.length_cons, List.sum_cons]; omega
theorem GmS.len {l : List Mk} {i : Nat} {Gs : List Gp} (h : GmS l i Gs) : Gs.length ≤ i := by
  have := len_le_sum (l := Gs.map fun g => g.ns.length) (fun x hx => by obtain ⟨g, hg, rfl⟩ := List.mem_map.1 hx; exact h.each g hg)
  rw [h.cnt] at this; simpa using this
section
variable {w W W' : World} {b3 : Nat} {r : Ru} {Gs : List Gp} {vg : Value}
theorem GmM.gr (h : GmM w b3 r Gs vg W) (hb : Gr W W') : GmM w b3 r Gs vg W' :=
  ⟨h.rule.gr hb, own_below h.grow hb, fun g hg => own_below (h.rows g hg) hb, h.below.trans (Below.mono hb (Below.size h.below))⟩
/-- A round begins: the mark's own row is made. -/
theorem GmM.start (h : GmM w b3 r Gs vg W) (hb : Gr W W') {vo : Value} {os : List Int} (ho : W'.ownsRow W.heap.size 3 1 vo os.length (intsC os)) : GrR w W.heap.size b3 r Gs vg vo os W' :=
  ⟨h.rule.gr hb, ho, own_below h.grow hb, fun g hg => ⟨own_below (h.rows g hg) hb, fun k hk => ((h.rows g hg).lt k hk).2⟩, h.below.trans (Below.mono hb (Below.size h.below)), Below.size h.below, Below.size hb, fun k hk => (h.grow.lt k hk).2, h.rule.lt⟩
end
theorem GrR.done {w W : World} {N b3 : Nat} {r : Ru} {Gs : List Gp} {vg vo : Value} {os : List Int} {om : Mk} (h : GrR w N b3 r Gs vg vo os W) : (∀ g ∈ Gs ++ [⟨vo, os, om⟩], W.ownsRow w.heap.size 3 1 g.v g.ns.length (intsC g.ns)) := by
  intro g hg
  rcases List.mem_append.1 hg with hg | hg
  · exact (h.rows g hg).1
  · rw [List.mem_singleton] at hg; subst hg
    exact h.orow.mono h.base
theorem GrS.done {l : List Mk} {i : Nat} {os : List Int} {om : Mk} {Gs : List Gp} {vo : Value} (h : GrS os om Gs) (hc : os.length + (Gs.map fun g => g.ns.length).sum = i) : GmS l i (Gs ++ [⟨vo, os, om⟩]) := by
  refine ⟨fun g hg => ?_, fun g hg => ?_, by simp; omega⟩
  · rcases List.mem_append.1 hg with hg | hg
    · exact h.each g hg
    · rw [List.mem_singleton] at hg; subst hg; exact h.pos
  · rcases List.mem_append.1 hg with hg | hg
    · exact h.ms g hg
    · rw [List.mem_singleton] at hg; subst hg; exact h.om

set_option maxRecDepth 100000 in
set_option maxHeartbeats 4000000 in
theorem marks_round (w : World) (b3 : Nat) (r : Ru) (hr : RuS r) (l : List Mk) (A : Option Addr) (c B : Nat) (hl : MkOk l A B w) (hB : B ≤ w.heap.size) (hl20 : l.length ≤ 20) (hms : Hid (∀ m ∈ l, MkS m)) (i : Nat) (hi : i ≤ l.length) (Gs : List Gp) (vg : Value) (wr : World) (M : GmM w b3 r Gs vg wr) (S : GmS l i Gs) (T : List PG)
    (hT : groupsV r i (l.drop i) (Gs.map Gp.p) = T) (K' : Act → World → Prop) (Q' : Exit → Act → World → Prop) {t0 t1 t2 t4 t5 t6 t8 t9 t10 t11 t12 t13 t14 t15 t16 t17 t18 t19 t20 t21 t22 t23 t27 t28 t29 t30 t31 t32 t33 t34 t35 t36 t37 t38 t39 t40 t41 t42 t43 t44 t45 t46 t47 t48 t49 t50 t51 t52 t53 t54 t55 t56 t57 t58 t59 t60 t61 t62 t63 t64 t65 t66 t67 t68 t69 t70 t71 t72 t73 t74 t75 t76 t77 t78 t79 t80 t81 t82 t83 : Value}
    (hnext : ∀ (t0 t1 t2 t4 t5 t6 t8 t9 t10 t11 t12 t13 t14 t15 t16 t17 t18 t19 t20 t21 t22 t23 t27 t28 t29 t30 t31 t32 t33 t34 t35 t36 t37 t38 t39 t40 t41 t42 t43 t44 t45 t46 t47 t48 t49 t50 t51 t52 t53 t54 t55 t56 t57 t58 t59 t60 t61 t62 t63 t64 t65 t66 t67 t68 t69 t70 t71 t72 t73 t74 t75 t76 t77 t78 t79 t80 t81 t82 t83 : Value) (Gs' : List Gp) (vg' : Value) (wr' : World), i < l.length → GmM w b3 r Gs' vg' wr' → GmS l (i + 1) Gs' → groupsV r (i + 1) (l.drop (i + 1)) (Gs'.map Gp.p) = T →
      K' ⟨#[t0, t1, t2, .pointer (some ⟨b3, 0, none⟩), t4, t5, t6, vg', t8, t9, t10, t11, t12, t13, t14, t15, t16, t17, t18, t19, t20, t21, t22, t23, .slice A l.length c, .int .i64 l.length, .int .i64 ((i : Int) + 1), t27, t28, t29, t30, t31, t32, t33, t34, t35, t36, t37, t38, t39, t40, t41, t42, t43, t44, t45, t46, t47, t48, t49, t50, t51, t52, t53, t54, t55, t56, t57, t58, t59, t60, t61, t62, t63, t64, t65, t66, t67, t68, t69, t70, t71, t72, t73, t74, t75, t76, t77, t78, t79, t80, t81, t82, t83], []⟩ wr')
    (hexit : ∀ (t0 t1 t2 t4 t5 t6 t8 t9 t10 t11 t12 t13 t14 t15 t16 t17 t18 t19 t20 t21 t22 t23 t27 t28 t29 t30 t31 t32 t33 t34 t35 t36 t37 t38 t39 t40 t41 t42 t43 t44 t45 t46 t47 t48 t49 t50 t51 t52 t53 t54 t55 t56 t57 t58 t59 t60 t61 t62 t63 t64 t65 t66 t67 t68 t69 t70 t71 t72 t73 t74 t75 t76 t77 t78 t79 t80 t81 t82 t83 : Value), i = l.length → T = Gs.map Gp.p → Q' (.exit 0) ⟨#[t0, t1, t2, .pointer (some ⟨b3, 0, none⟩), t4, t5, t6, vg, t8, t9, t10, t11, t12, t13, t14, t15, t16, t17, t18, t19, t20, t21, t22, t23, .slice A l.length c, .int .i64 l.length, .int .i64 i, t27, t28, t29, t30, t31, t32, t33, t34, t35, t36, t37, t38, t39, t40, t41, t42, t43, t44, t45, t46, t47, t48, t49, t50, t51, t52, t53, t54, t55, t56, t57, t58, t59, t60, t61, t62, t63, t64, t65, t66, t67, t68, t69, t70, t71, t72, t73, t74, t75, t76, t77, t78, t79, t80, t81, t82, t83], []⟩ wr) :
    (bodyOf Tryz.f13 0).wp Tryz.prog (Exit.then K' Q') ⟨#[t0, t1, t2, .pointer (some ⟨b3, 0, none⟩), t4, t5, t6, vg, t8, t9, t10, t11, t12, t13, t14, t15, t16, t17, t18, t19, t20, t21, t22, t23, .slice A l.length c, .int .i64 l.length, .int .i64 i, t27, t28, t29, t30, t31, t32, t33, t34, t35, t36, t37, t38, t39, t40, t41, t42, t43, t44, t45, t46, t47, t48, t49, t50, t51, t52, t53, t54, t55, t56, t57, t58, t59, t60, t61, t62, t63, t64, t65, t66, t67, t68, t69, t70, t71, t72, t73, t74, t75, t76, t77, t78, t79, t80, t81, t82, t83], []⟩ wr := by
  have HN := Lib.hid hnext; have HX := Lib.hid hexit
  clear hnext hexit
  conv in (bodyOf _ _) => whnf
  try dsimp only
  by_cases hlt : i < l.length
  · obtain ⟨g, o, hA, hg, c0, c1, c2, c3, c4, c5⟩ := mkCells (hl.row.below M.below hB) hlt
    have HT : Hid (groupsV r (i + 1) (l.drop (i + 1)) (groupStep r (Gs.map Gp.p) i l[i]) = T) := Lib.hid (by rw [← hT, List.drop_eq_getElem_cons hlt]; rfl)
    have hmsi := hms.out l[i] (List.getElem_mem hlt)
    clear hT HX
    generalize l[i] = m at *
    subst hA
    have hltI : (i : Int) < (l.length : Int) := by omega
    have hi0 : (0 : Int) ≤ (i : Int) := by omega
    have hgr : Gr wr (((wr.alloc (.cells (mkC m) 25)).alloc (.cells #[.int .i64 i] 3)).alloc (.cells (gpA (.slice (some ⟨wr.heap.size + 1, 0, none⟩) 1 1) m) 106)) := show Below wr.heap.size wr _ from (by repeat (first | (with_reducible exact Below.refl _ _) | (with_reducible assumption) | ((with_reducible refine Below.setCell ?_ ?_ _); rotate_left; · (first | exact Nat.le_refl _ | (simp; done) | (simp; omega) | omega)) | ((with_reducible refine Below.alloc ?_ ?_ _); rotate_left; · (first | exact Nat.le_refl _ | (simp; done) | (simp; omega) | omega)) | (with_reducible apply Below.drew) | (with_reducible apply below_drewN') | (refine Below.trans ?_ (Below.mono (by assumption) (by first | exact Nat.le_refl _ | (simp; done) | (simp; omega) | omega))) | exact Below.refl _ _ | assumption))
    have bo := Blk.new ((wr.alloc (.cells (mkC m) 25)).alloc (.cells #[.int .i64 i] 3)) 106 (gpA (.slice (some ⟨wr.heap.size + 1, 0, none⟩) 1 1) m)
    have br := (Blk.new (wr.alloc (.cells (mkC m) 25)) 3 #[.int .i64 i]).alloc (.cells (gpA (.slice (some ⟨wr.heap.size + 1, 0, none⟩) 1 1) m) 106)
    simp only [World.size_alloc] at bo br
    have M0 : GrR w wr.heap.size b3 r Gs vg (.slice (some ⟨wr.heap.size + 1, 0, none⟩) 1 1) [(i : Int)] _ := M.start hgr ⟨rfl, .inr ⟨wr.heap.size + 1, 1, #[.int .i64 i], rfl, by omega, br, Nat.le_refl _, by unfold maxLen; omega, rfl, rfl⟩⟩
    have S0 : GrS [(i : Int)] m Gs := ⟨by simp, S.each, hmsi, S.ms, by have := S.cnt; simp only [List.length_cons, List.length_nil]; omega, by have := S.len; omega⟩
    have hcnt := absorbV_cnt r Gs.length ([(i : Int)], m) (Gs.map Gp.p)
    rw [List.map_map] at hcnt
    have hs : (Gs.map ((fun g : PG => g.1.length) ∘ Gp.p)).sum = i := S.cnt
    rw [hs] at hcnt
    clear hs M
    go_wp2_with fail
    refine absorb_loop _ _ _ w wr.heap.size b3 (wr.heap.size + 1 + 1) r hr (by omega) _ (fun _ _ => True) _ ?_ Gs.length _ _ _ _ _ _ _ _ _ _ _ _ _ _ _ _ _ _ _ _ _ _ _ _ _ _ _ _ _ _ _ _ _ _ _ _ _ _ _ _ _ _ _ _ _ _ _ _ _ _ _ _ _ _ _ _ _ _ _ _ _ _ _ _ _ _ _ _ _ _ _ _ _ _ _ _ _ _ Gs vg _ [(i : Int)] m _ (Nat.le_refl _) M0 bo S0 rfl
    clear M0 bo S0 br hgr S
    intro t0 t1 t2 t4 t5 t6 t8 t9 t11 t12 t13 t14 t15 t16 t17 t18 t19 t20 t21 t22 t23 t27 t28 t29 t30 t31 t32 t33 t34 t35 t36 t37 t38 t39 t40 t41 t42 t43 t44 t45 t46 t47 t48 t49 t50 t51 t52 t53 t54 t55 t56 t57 t58 t59 t60 t61 t62 t63 t64 t65 t66 t67 t68 t69 t70 t71 t72 t73 t74 t75 t76 t77 t78 t79 t80 t81 t82 t83 Gs' vg' vo' os' om' w' M bo S hE
    try dsimp only
    obtain ⟨gv, cv, rfl, _, _⟩ := M.orow.form S.pos
    obtain ⟨a0, a1, a2, a3, a4, a5, a6, af⟩ := blk7 bo
    obtain ⟨i0, hi0, hz0, hz1, hz2⟩ := info_parts infoGroup
    have hGl := S.len
    have hE1 : absorbV r Gs.length ([(i : Int)], m) (Gs.map Gp.p) = ((os', om'), Gs'.map Gp.p) := hE
    have hD := M.done (om := om')
    have hGo := M.grow.alloc (.cells (gpA (.slice (some ⟨gv, 0, none⟩) os'.length cv) om') 106)
    have hbz := Below.size M.below
    have hT2 : Hid (groupsV r (i + 1) (l.drop (i + 1)) ((Gs' ++ [(⟨.slice (some ⟨gv, 0, none⟩) os'.length cv, os', om'⟩ : Gp)]).map Gp.p) = T) := Lib.hid (by
      rw [← HT.out]
      unfold groupStep
      rw [List.length_map, hE1, List.map_append]; rfl)
    rw [hE1] at hcnt
    have hS2 : GmS l (i + 1) (Gs' ++ [(⟨.slice (some ⟨gv, 0, none⟩) os'.length cv, os', om'⟩ : Gp)]) := S.done (by
      rw [List.map_map] at hcnt
      have e : (Gs'.map ((fun g : PG => g.1.length) ∘ Gp.p)).sum = (Gs'.map fun g => g.ns.length).sum := rfl
      rw [e] at hcnt
      simp only [List.length_cons, List.length_nil] at hcnt
      omega)
    have HS2 := Lib.hid hS2
    clear hE hE1 hcnt hS2 HT
    go_wp2_with (at_builtin; refine wpList_append_own _ rfl _ _ 104 rfl w.heap.size 106 i0 _ 7 80 Tryz.underlying104 hi0 hz0 hz1 hz2 rfl (by decide) _ _ _ rfl hGo ⟨w'.heap.size, 0, none⟩ 1 1 (gpL ⟨.slice (some ⟨gv, 0, none⟩) os'.length cv, os', om'⟩) rfl rfl (cell_seven_new _ _ _ _ _ _ _ _ _) (by simp [Value.oneCell']) (by unfold maxLen; omega) (by omega) (by simp; omega) ?_; intro v2 W5 hown' hgrow _)
    have e1 : (Gs' ++ [(⟨.slice (some ⟨gv, 0, none⟩) os'.length cv, os', om'⟩ : Gp)]).length = Gs'.length + 1 := by simp
    have e2 : gpsC (Gs' ++ [(⟨.slice (some ⟨gv, 0, none⟩) os'.length cv, os', om'⟩ : Gp)]) = gpsC Gs' ++ gpL ⟨.slice (some ⟨gv, 0, none⟩) os'.length cv, os', om'⟩ := by rw [gpsC_append]; simp [gpsC]
    have M2 : GmM w b3 r (Gs' ++ [(⟨.slice (some ⟨gv, 0, none⟩) os'.length cv, os', om'⟩ : Gp)]) v2 W5 :=
      ⟨(M.rule.alloc _).grown hgrow (fun e => own_blk_ne hGo (M.rule.alloc _) (by decide) e.symm), by rw [e1, e2]; exact hown',
        fun q hq => ((hD q hq).alloc _).kept hgrow (own_two ((hD q hq).alloc _) hGo (by decide)), below_own (M.below.alloc hbz _) (Nat.le_refl _) hGo hgrow⟩
    exact HN.out _ _ _ _ _ _ _ _ _ _ _ _ _ _ _ _ _ _ _ _ _ _ _ _ _ _ _ _ _ _ _ _ _ _ _ _ _ _ _ _ _ _ _ _ _ _ _ _ _ _ _ _ _ _ _ _ _ _ _ _ _ _ _ _ _ _ _ _ _ _ _ _ _ _ _ _ _ _ _ _ v2 W5 hlt M2 HS2.out hT2.out
  · obtain rfl : i = l.length := by omega
    have HT : Hid (T = Gs.map Gp.p) := Lib.hid (by rw [← hT, List.drop_length]; rfl)
    clear HN hT
    go_wp2
    exact HX.out _ _ _ _ _ _ _ _ _ _ _ _ _ _ _ _ _ _ _ _ _ _ _ _ _ _ _ _ _ _ _ _ _ _ _ _ _ _ _ _ _ _ _ _ _ _ _ _ _ _ _ _ _ _ _ _ _ _ _ _ _ _ _ _ _ _ _ _ _ _ _ _ _ _ _ _ _ _ _ (by trivial) HT.out
end Go.Proofs.YtjimdnmdnjhnjaaGreatDoor
