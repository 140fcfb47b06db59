/- Grouped: a mark's own group takes in all groups that it meets (the inner loop). -/
import Derived.Test.YtidgeagpgllkeaaGreatFcH
import Derived.Test.YtidgeagpgllkeaaGreatFaR
namespace Go.Proofs.YtidgeagpgllkeaaGreat
open Go.RowKit

/-- A group: its numbers, its hull. -/
abbrev PG := List Int × Mk
def Gp.p (g : Gp) : PG := (g.ns, g.m)
def meetP (r : Ru) (o g : PG) : Bool := interactV g.2 o.2 r
/-- A group takes in all that it meets, one behind the other. -/
def absorbV (r : Ru) : Nat → PG → List PG → PG × List PG
  | 0, o, gs => (o, gs)
  | f + 1, o, gs => match gs.findIdx? (meetP r o) with
    | none => (o, gs)
    | some k => absorbV r f (o.1 ++ (gs[k]?.getD o).1, hullV o.2 (gs[k]?.getD o).2) (gs.eraseIdx k)
theorem absorbV_none {r : Ru} {n : Nat} {o : PG} {gs : List PG} (h : gs.any (meetP r o) = false) : absorbV r n o gs = (o, gs) := by
  cases n with
  | zero => rfl
  | succ n =>
    have : gs.findIdx? (meetP r o) = none := by
      rw [List.findIdx?_eq_none_iff]
      intro x hx
      exact (List.any_eq_false.1 h x hx) |> fun h => by simpa using h
    unfold absorbV; rw [this]
theorem absorbV_some {r : Ru} {n : Nat} {o : PG} {gs : List PG} {k : Nat} (hk : k < gs.length) (h : meetP r o gs[k] = true) (hb : (gs.take k).any (meetP r o) = false) :
    absorbV r (n + 1) o gs = absorbV r n (o.1 ++ gs[k].1, hullV o.2 gs[k].2) (gs.eraseIdx k) := by
  have : gs.findIdx? (meetP r o) = some k := by
    rw [List.findIdx?_eq_some_iff_getElem]
    refine ⟨hk, h, fun j hj => ?_⟩
    have := List.any_eq_false.1 hb gs[j] (by rw [List.mem_take_iff_getElem]; exact ⟨j, by omega, rfl⟩)
    simpa using this
  show (match gs.findIdx? (meetP r o) with
    | none => (o, gs)
    | some k => absorbV r n (o.1 ++ (gs[k]?.getD o).1, hullV o.2 (gs[k]?.getD o).2) (gs.eraseIdx k)) = _
  rw [this]
  show absorbV r n (o.1 ++ (gs[k]?.getD o).1, hullV o.2 (gs[k]?.getD o).2) (gs.eraseIdx k) = _
  rw [List.getElem?_eq_getElem hk]; rfl
theorem map_erase {α β : Type} (f : α → β) : ∀ (l : List α) (k : Nat), (l.eraseIdx k).map f = (l.map f).eraseIdx k
  | [], _ => by simp
  | a :: l, 0 => by simp
  | a :: l, k + 1 => by simp only [List.eraseIdx_cons_succ, List.map_cons]; rw [map_erase f l k]

theorem mem_le_sum : ∀ {l : List Nat} {x : Nat}, x ∈ l → x ≤ l.sum
  | a :: l, x, h => by
    rw [List.sum_cons]
    rcases List.mem_cons.1 h with rfl | h
    · omega
    · have := mem_le_sum h; omega
theorem sum_erase : ∀ (l : List Nat) (k : Nat) (h : k < l.length), (l.eraseIdx k).sum + l[k] = l.sum
  | a :: l, 0, _ => by simp; omega
  | a :: l, k + 1, h => by
    have := sum_erase l k (by simpa using h)
    simp only [List.eraseIdx_cons_succ, List.sum_cons, List.getElem_cons_succ]; omega
/-- What holds of the numbers and hulls. -/
structure GrS (os : List Int) (om : Mk) (Gs : List Gp) : Prop where
  pos : 0 < os.length
  each : ∀ g ∈ Gs, 0 < g.ns.length
  om : MkS om
  ms : ∀ g ∈ Gs, MkS g.m
  cnt : os.length + (Gs.map fun g => g.ns.length).sum ≤ 100
  len : Gs.length ≤ 100
theorem GrS.le {os : List Int} {om : Mk} {Gs : List Gp} (h : GrS os om Gs) {g : Gp} (hg : g ∈ Gs) : os.length + g.ns.length ≤ 100 := by
  have := mem_le_sum (List.mem_map_of_mem (f := fun g : Gp => g.ns.length) hg)
  have := h.cnt; omega
theorem GrS.take {os : List Int} {om : Mk} {Gs : List Gp} (h : GrS os om Gs) {k : Nat} (hk : k < Gs.length) : GrS (os ++ Gs[k].ns) (hullV om Gs[k].m) (Gs.eraseIdx k) := by
  have hs := sum_erase (Gs.map fun g => g.ns.length) k (by simpa using hk)
  have e : ((Gs.eraseIdx k).map fun g => g.ns.length) = (Gs.map fun g => g.ns.length).eraseIdx k := map_erase _ _ _
  refine ⟨by rw [List.length_append]; have := h.pos; omega, fun g hg => h.each g (List.mem_of_mem_eraseIdx hg), h.om.hull (h.ms _ (List.getElem_mem hk)), fun g hg => h.ms g (List.mem_of_mem_eraseIdx hg), ?_, ?_⟩
  · rw [e, List.length_append]
    have := h.cnt
    simp only [List.getElem_map] at hs
    omega
  · rw [List.length_eraseIdx_of_lt hk]; have := h.len; omega

section
variable {w W W' : World} {N b3 : Nat} {r : Ru} {Gs : List Gp} {vg vo : Value} {os : List Int}
theorem GrR.form (h : GrR w N b3 r Gs vg vo os W) : ∃ A c, vg = .slice A Gs.length c ∧ Row W N 7 A Gs.length (gpsC Gs) := by
  rcases h.grow.2 with ⟨rfl, h0⟩ | ⟨g, cap, cur, rfl, _⟩
  · exact ⟨none, 0, by rw [h0], gpsC_length _, fun hn => by omega⟩
  · refine ⟨_, _, rfl, gpsC_length _, fun _ => ⟨g, 0, rfl, h.vlt g rfl, fun j u hj => ?_⟩⟩
    have := h.grow.cells (g := g) rfl j u hj
    rw [Nat.zero_add]
    rwa [Addr.add_lit, Nat.zero_add] at this
theorem gpsC_one {B : Nat} {W : World} {N : Nat} {Gs : List Gp} (hp : ∀ g ∈ Gs, 0 < g.ns.length) (hr : ∀ g ∈ Gs, NsOk B W N g) : ∀ u ∈ gpsC Gs, u.oneCell' = true := by
  intro u hu
  obtain ⟨g, hg, hu⟩ := List.mem_flatMap.1 hu
  obtain ⟨gk, ck, hv, _, _⟩ := (hr g hg).1.form (hp g hg)
  simp only [gpL, List.mem_cons, List.not_mem_nil, or_false] at hu
  rcases hu with rfl | rfl | rfl | rfl | rfl | rfl | rfl
  · rw [hv]; rfl
  all_goals rfl
theorem GrR.erase (h : GrR w N b3 r Gs vg vo os W) {k : Nat} {vg' : Value} (ho : W'.ownsRow w.heap.size 164 7 vg' (Gs.eraseIdx k).length (gpsC (Gs.eraseIdx k))) (hg : W.grownBy W' vg.ownBlock) (hv : ∀ j, vg'.ownBlock = some j → j < N) : GrR w N b3 r (Gs.eraseIdx k) vg' vo os W' :=
  ⟨h.rule.grown hg (fun e => own_blk_ne h.grow h.rule (by decide) e.symm), h.orow.kept hg (own_two h.orow h.grow (by decide)), ho,
    fun g hg' => ⟨(h.rows g (List.mem_of_mem_eraseIdx hg')).1.kept hg (own_two (h.rows g (List.mem_of_mem_eraseIdx hg')).1 h.grow (by decide)), (h.rows g (List.mem_of_mem_eraseIdx hg')).2⟩,
    below_own h.below (Nat.le_refl _) h.grow hg, h.base, Nat.le_trans h.nlt hg.size, hv, h.b3lt⟩
end

set_option maxRecDepth 100000 in
set_option maxHeartbeats 4000000 in
theorem absorb_round (u24 u25 u26 : Value) (w : World) (N b3 b10 : Nat) (r : Ru) (hr : RuS r) (Gs : List Gp) (vg vo : Value) (os : List Int) (om : Mk) (wr : World) (M : GrR w N b3 r Gs vg vo os wr) (bo : Blk wr b10 164 (gpA vo om)) (hb10 : N ≤ b10) (S : GrS os om Gs) (T : PG × List PG)
    (hT : absorbV r Gs.length (os, om) (Gs.map Gp.p) = T) (K' : Act → World → Prop) (Q' : Exit → Act → World → Prop) {t0 t1 t2 t4 t5 t6 t8 t9 t11 t12 t13 t14 t15 t16 t17 t18 t19 t20 t21 t22 t23 t27 t28 t29 t30 t31 t32 t33 t34 t35 t36 t37 t38 t39 t40 t41 t42 t43 t44 t45 t46 t47 t48 t49 t50 t51 t52 t53 t54 t55 t56 t57 t58 t59 t60 t61 t62 t63 t64 t65 t66 t67 t68 t69 t70 t71 t72 t73 t74 t75 t76 t77 t78 t79 t80 t81 t82 t83 : Value}
    (hnext : ∀ (t0 t1 t2 t4 t5 t6 t8 t9 t11 t12 t13 t14 t15 t16 t17 t18 t19 t20 t21 t22 t23 t27 t28 t29 t30 t31 t32 t33 t34 t35 t36 t37 t38 t39 t40 t41 t42 t43 t44 t45 t46 t47 t48 t49 t50 t51 t52 t53 t54 t55 t56 t57 t58 t59 t60 t61 t62 t63 t64 t65 t66 t67 t68 t69 t70 t71 t72 t73 t74 t75 t76 t77 t78 t79 t80 t81 t82 t83 : Value) (Gs' : List Gp) (vg' vo' : Value) (os' : List Int) (om' : Mk) (wr' : World), Gs'.length < Gs.length → GrR w N b3 r Gs' vg' vo' os' wr' → Blk wr' b10 164 (gpA vo' om') → GrS os' om' Gs' →
      absorbV r Gs'.length (os', om') (Gs'.map Gp.p) = T → K' ⟨#[t0, t1, t2, .pointer (some ⟨b3, 0, none⟩), t4, t5, t6, vg', t8, t9, .pointer (some ⟨b10, 0, none⟩), t11, t12, t13, t14, t15, t16, t17, t18, t19, t20, t21, t22, t23, u24, u25, u26, t27, t28, t29, t30, t31, t32, t33, t34, t35, t36, t37, t38, t39, t40, t41, t42, t43, t44, t45, t46, t47, t48, t49, t50, t51, t52, t53, t54, t55, t56, t57, t58, t59, t60, t61, t62, t63, t64, t65, t66, t67, t68, t69, t70, t71, t72, t73, t74, t75, t76, t77, t78, t79, t80, t81, t82, t83], []⟩ wr')
    (hexit : ∀ (t0 t1 t2 t4 t5 t6 t8 t9 t11 t12 t13 t14 t15 t16 t17 t18 t19 t20 t21 t22 t23 t27 t28 t29 t30 t31 t32 t33 t34 t35 t36 t37 t38 t39 t40 t41 t42 t43 t44 t45 t46 t47 t48 t49 t50 t51 t52 t53 t54 t55 t56 t57 t58 t59 t60 t61 t62 t63 t64 t65 t66 t67 t68 t69 t70 t71 t72 t73 t74 t75 t76 t77 t78 t79 t80 t81 t82 t83 : Value) (wr' : World), GrR w N b3 r Gs vg vo os wr' → Blk wr' b10 164 (gpA vo om) → T = ((os, om), Gs.map Gp.p) → Q' (.exit 2) ⟨#[t0, t1, t2, .pointer (some ⟨b3, 0, none⟩), t4, t5, t6, vg, t8, t9, .pointer (some ⟨b10, 0, none⟩), t11, t12, t13, t14, t15, t16, t17, t18, t19, t20, t21, t22, t23, u24, u25, u26, t27, t28, t29, t30, t31, t32, t33, t34, t35, t36, t37, t38, t39, t40, t41, t42, t43, t44, t45, t46, t47, t48, t49, t50, t51, t52, t53, t54, t55, t56, t57, t58, t59, t60, t61, t62, t63, t64, t65, t66, t67, t68, t69, t70, t71, t72, t73, t74, t75, t76, t77, t78, t79, t80, t81, t82, t83], []⟩ wr') :
    (bodyOf Tryz.f36 1).wp Tryz.prog (Exit.then K' Q') ⟨#[t0, t1, t2, .pointer (some ⟨b3, 0, none⟩), t4, t5, t6, vg, t8, t9, .pointer (some ⟨b10, 0, none⟩), t11, t12, t13, t14, t15, t16, t17, t18, t19, t20, t21, t22, t23, u24, u25, u26, t27, t28, t29, t30, t31, t32, t33, t34, t35, t36, t37, t38, t39, t40, t41, t42, t43, t44, t45, t46, t47, t48, t49, t50, t51, t52, t53, t54, t55, t56, t57, t58, t59, t60, t61, t62, t63, t64, t65, t66, t67, t68, t69, t70, t71, t72, t73, t74, t75, t76, t77, t78, t79, t80, t81, t82, t83], []⟩ wr := by
  have HN := Lib.hid hnext; have HX := Lib.hid hexit
  clear hnext hexit
  obtain ⟨A, c, rfl, hrow⟩ := M.form
  have HT := Lib.hid hT; clear hT
  have hlen := S.len
  have hnl := M.nlt
  conv in (bodyOf _ _) => whnf
  try dsimp only
  go_wp2_with fail
  refine (indexGp_any Gs A c vo om r b10 b3 N wr (by omega) hrow hnl (Lib.hid S.ms) S.om hr ⟨bo, M.rule⟩).mono ?_
  rintro e w1 ⟨i, rfl, HI, hB1⟩
  replace M := M.gr hB1
  replace bo := bo.gr hB1
  clear hB1 hnl hrow
  rcases HI.out with ⟨rfl, hno⟩ | ⟨k, hk, rfl, hy, hb⟩
  · have HNO := Lib.hid hno
    clear hno HI
    go_wp2
    exact HX.out _ _ _ _ _ _ _ _ _ _ _ _ _ _ _ _ _ _ _ _ _ _ _ _ _ _ _ _ _ _ _ _ _ _ _ _ _ _ _ _ _ _ _ _ _ _ _ _ _ _ _ _ _ _ _ _ _ _ _ _ _ _ _ _ _ _ _ _ _ _ _ _ _ _ _ _ _ _ _ M bo (by rw [← HT.out]; exact absorbV_none (by rw [List.any_map]; exact HNO.out))
  · have HY := Lib.hid hy; have HB := Lib.hid hb
    clear hy hb HI
    have hk0 : ¬ (k : Int) < 0 := by omega
    go_wp2_with fail
    refine takeReg w N b3 b10 r Gs (.slice A Gs.length c) vo os om w1 M bo hb10 k hk hlen (S.le (List.getElem_mem hk)) (S.each _ (List.getElem_mem hk)) (ds := []) _ _ ?_
    clear M bo
    intro t40 t41 t42 t43 t44 t45 t46 t47 t48 t49 t50 t51 t52 t53 t54 t55 t56 vo' w2 M bo
    have S' := S.take hk
    have h1 := Lib.hid (gpsC_one S.each M.rows)
    try dsimp only
    go_wp2_with fail
    refine (delete_any Gs k hk (by omega) w.heap.size _ h1 w2 M.grow).mono ?_
    rintro e w3 ⟨vg', rfl, hd, hg, hvb⟩
    have M' := M.erase hd hg (fun j hj => M.vlt j (by rw [← hvb]; exact hj))
    have bo' := bo.grown hg (fun e => by have := M.vlt b10 e.symm; omega)
    have hT' : absorbV r (Gs.eraseIdx k).length (os ++ Gs[k].ns, hullV om Gs[k].m) ((Gs.eraseIdx k).map Gp.p) = T := by
      rw [← HT.out, List.length_eraseIdx_of_lt hk, map_erase]
      have h2 := absorbV_some (r := r) (n := Gs.length - 1) (o := (os, om)) (gs := Gs.map Gp.p) (k := k) (by simpa using hk) (by rw [List.getElem_map]; exact HY.out) (by rw [← List.map_take, List.any_map]; exact HB.out)
      rw [show Gs.length - 1 + 1 = Gs.length by omega, List.getElem_map] at h2
      exact h2.symm
    have HT' := Lib.hid hT'
    have hll : (Gs.eraseIdx k).length < Gs.length := by rw [List.length_eraseIdx_of_lt hk]; omega
    clear M bo hd hg hvb hT' HT HY HB h1
    go_wp2
    exact HN.out _ _ _ _ _ _ _ _ _ _ _ _ _ _ _ _ _ _ _ _ _ _ _ _ _ _ _ _ _ _ _ _ _ _ _ _ _ _ _ _ _ _ _ _ _ _ _ _ _ _ _ _ _ _ _ _ _ _ _ _ _ _ _ _ _ _ _ _ _ _ _ _ _ _ _ _ _ _ _ _ _ _ _ _ hll M' bo' S' HT'.out

set_option maxRecDepth 100000 in
set_option maxHeartbeats 4000000 in
theorem absorb_loop (u24 u25 u26 : Value) (w : World) (N b3 b10 : Nat) (r : Ru) (hr : RuS r) (hb10 : N ≤ b10) (T : PG × List PG) (K' : Act → World → Prop) (Q' : Exit → Act → World → Prop)
    (hexit : ∀ (t0 t1 t2 t4 t5 t6 t8 t9 t11 t12 t13 t14 t15 t16 t17 t18 t19 t20 t21 t22 t23 t27 t28 t29 t30 t31 t32 t33 t34 t35 t36 t37 t38 t39 t40 t41 t42 t43 t44 t45 t46 t47 t48 t49 t50 t51 t52 t53 t54 t55 t56 t57 t58 t59 t60 t61 t62 t63 t64 t65 t66 t67 t68 t69 t70 t71 t72 t73 t74 t75 t76 t77 t78 t79 t80 t81 t82 t83 : Value) (Gs : List Gp) (vg vo : Value) (os : List Int) (om : Mk) (wr' : World), GrR w N b3 r Gs vg vo os wr' → Blk wr' b10 164 (gpA vo om) → GrS os om Gs → T = ((os, om), Gs.map Gp.p) →
      Q' (.exit 2) ⟨#[t0, t1, t2, .pointer (some ⟨b3, 0, none⟩), t4, t5, t6, vg, t8, t9, .pointer (some ⟨b10, 0, none⟩), t11, t12, t13, t14, t15, t16, t17, t18, t19, t20, t21, t22, t23, u24, u25, u26, t27, t28, t29, t30, t31, t32, t33, t34, t35, t36, t37, t38, t39, t40, t41, t42, t43, t44, t45, t46, t47, t48, t49, t50, t51, t52, t53, t54, t55, t56, t57, t58, t59, t60, t61, t62, t63, t64, t65, t66, t67, t68, t69, t70, t71, t72, t73, t74, t75, t76, t77, t78, t79, t80, t81, t82, t83], []⟩ wr') :
    ∀ (f : Nat) (t0 t1 t2 t4 t5 t6 t8 t9 t11 t12 t13 t14 t15 t16 t17 t18 t19 t20 t21 t22 t23 t27 t28 t29 t30 t31 t32 t33 t34 t35 t36 t37 t38 t39 t40 t41 t42 t43 t44 t45 t46 t47 t48 t49 t50 t51 t52 t53 t54 t55 t56 t57 t58 t59 t60 t61 t62 t63 t64 t65 t66 t67 t68 t69 t70 t71 t72 t73 t74 t75 t76 t77 t78 t79 t80 t81 t82 t83 : Value) (Gs : List Gp) (vg vo : Value) (os : List Int) (om : Mk) (wr : World), Gs.length ≤ f → GrR w N b3 r Gs vg vo os wr → Blk wr b10 164 (gpA vo om) → GrS os om Gs → absorbV r Gs.length (os, om) (Gs.map Gp.p) = T →
      (bodyOf Tryz.f36 1).loop.wp Tryz.prog Q' ⟨#[t0, t1, t2, .pointer (some ⟨b3, 0, none⟩), t4, t5, t6, vg, t8, t9, .pointer (some ⟨b10, 0, none⟩), t11, t12, t13, t14, t15, t16, t17, t18, t19, t20, t21, t22, t23, u24, u25, u26, t27, t28, t29, t30, t31, t32, t33, t34, t35, t36, t37, t38, t39, t40, t41, t42, t43, t44, t45, t46, t47, t48, t49, t50, t51, t52, t53, t54, t55, t56, t57, t58, t59, t60, t61, t62, t63, t64, t65, t66, t67, t68, t69, t70, t71, t72, t73, t74, t75, t76, t77, t78, t79, t80, t81, t82, t83], []⟩ wr := by
  intro f t0 t1 t2 t4 t5 t6 t8 t9 t11 t12 t13 t14 t15 t16 t17 t18 t19 t20 t21 t22 t23 t27 t28 t29 t30 t31 t32 t33 t34 t35 t36 t37 t38 t39 t40 t41 t42 t43 t44 t45 t46 t47 t48 t49 t50 t51 t52 t53 t54 t55 t56 t57 t58 t59 t60 t61 t62 t63 t64 t65 t66 t67 t68 t69 t70 t71 t72 t73 t74 t75 t76 t77 t78 t79 t80 t81 t82 t83 Gs vg vo os om wr hf M bo S hT
  refine wp_loop_rounds (f + 1) ?_
  induction f generalizing Gs vg vo os om wr t0 t1 t2 t4 t5 t6 t8 t9 t11 t12 t13 t14 t15 t16 t17 t18 t19 t20 t21 t22 t23 t27 t28 t29 t30 t31 t32 t33 t34 t35 t36 t37 t38 t39 t40 t41 t42 t43 t44 t45 t46 t47 t48 t49 t50 t51 t52 t53 t54 t55 t56 t57 t58 t59 t60 t61 t62 t63 t64 t65 t66 t67 t68 t69 t70 t71 t72 t73 t74 t75 t76 t77 t78 t79 t80 t81 t82 t83 with
  | zero =>
    rw [rounds_succ]
    exact absorb_round u24 u25 u26 w N b3 b10 r hr Gs vg vo os om wr M bo hb10 S T hT _ _ (fun t0 t1 t2 t4 t5 t6 t8 t9 t11 t12 t13 t14 t15 t16 t17 t18 t19 t20 t21 t22 t23 t27 t28 t29 t30 t31 t32 t33 t34 t35 t36 t37 t38 t39 t40 t41 t42 t43 t44 t45 t46 t47 t48 t49 t50 t51 t52 t53 t54 t55 t56 t57 t58 t59 t60 t61 t62 t63 t64 t65 t66 t67 t68 t69 t70 t71 t72 t73 t74 t75 t76 t77 t78 t79 t80 t81 t82 t83 Gs' vg' vo' os' om' wr' hlt => by omega) (fun t0 t1 t2 t4 t5 t6 t8 t9 t11 t12 t13 t14 t15 t16 t17 t18 t19 t20 t21 t22 t23 t27 t28 t29 t30 t31 t32 t33 t34 t35 t36 t37 t38 t39 t40 t41 t42 t43 t44 t45 t46 t47 t48 t49 t50 t51 t52 t53 t54 t55 t56 t57 t58 t59 t60 t61 t62 t63 t64 t65 t66 t67 t68 t69 t70 t71 t72 t73 t74 t75 t76 t77 t78 t79 t80 t81 t82 t83 wr' hM hb hE => hexit t0 t1 t2 t4 t5 t6 t8 t9 t11 t12 t13 t14 t15 t16 t17 t18 t19 t20 t21 t22 t23 t27 t28 t29 t30 t31 t32 t33 t34 t35 t36 t37 t38 t39 t40 t41 t42 t43 t44 t45 t46 t47 t48 t49 t50 t51 t52 t53 t54 t55 t56 t57 t58 t59 t60 t61 t62 t63 t64 t65 t66 t67 t68 t69 t70 t71 t72 t73 t74 t75 t76 t77 t78 t79 t80 t81 t82 t83 Gs vg vo os om wr' hM hb S hE)
  | succ f ih =>
    rw [rounds_succ]
    exact absorb_round u24 u25 u26 w N b3 b10 r hr Gs vg vo os om wr M bo hb10 S T hT _ _ (fun t0 t1 t2 t4 t5 t6 t8 t9 t11 t12 t13 t14 t15 t16 t17 t18 t19 t20 t21 t22 t23 t27 t28 t29 t30 t31 t32 t33 t34 t35 t36 t37 t38 t39 t40 t41 t42 t43 t44 t45 t46 t47 t48 t49 t50 t51 t52 t53 t54 t55 t56 t57 t58 t59 t60 t61 t62 t63 t64 t65 t66 t67 t68 t69 t70 t71 t72 t73 t74 t75 t76 t77 t78 t79 t80 t81 t82 t83 Gs' vg' vo' os' om' wr' hlt hM hb hS hE => ih t0 t1 t2 t4 t5 t6 t8 t9 t11 t12 t13 t14 t15 t16 t17 t18 t19 t20 t21 t22 t23 t27 t28 t29 t30 t31 t32 t33 t34 t35 t36 t37 t38 t39 t40 t41 t42 t43 t44 t45 t46 t47 t48 t49 t50 t51 t52 t53 t54 t55 t56 t57 t58 t59 t60 t61 t62 t63 t64 t65 t66 t67 t68 t69 t70 t71 t72 t73 t74 t75 t76 t77 t78 t79 t80 t81 t82 t83 Gs' vg' vo' os' om' wr' (by omega) hM hb hS hE) (fun t0 t1 t2 t4 t5 t6 t8 t9 t11 t12 t13 t14 t15 t16 t17 t18 t19 t20 t21 t22 t23 t27 t28 t29 t30 t31 t32 t33 t34 t35 t36 t37 t38 t39 t40 t41 t42 t43 t44 t45 t46 t47 t48 t49 t50 t51 t52 t53 t54 t55 t56 t57 t58 t59 t60 t61 t62 t63 t64 t65 t66 t67 t68 t69 t70 t71 t72 t73 t74 t75 t76 t77 t78 t79 t80 t81 t82 t83 wr' hM hb hE => hexit t0 t1 t2 t4 t5 t6 t8 t9 t11 t12 t13 t14 t15 t16 t17 t18 t19 t20 t21 t22 t23 t27 t28 t29 t30 t31 t32 t33 t34 t35 t36 t37 t38 t39 t40 t41 t42 t43 t44 t45 t46 t47 t48 t49 t50 t51 t52 t53 t54 t55 t56 t57 t58 t59 t60 t61 t62 t63 t64 t65 t66 t67 t68 t69 t70 t71 t72 t73 t74 t75 t76 t77 t78 t79 t80 t81 t82 t83 Gs vg vo os om wr' hM hb S hE)
end Go.Proofs.YtidgeagpgllkeaaGreat
