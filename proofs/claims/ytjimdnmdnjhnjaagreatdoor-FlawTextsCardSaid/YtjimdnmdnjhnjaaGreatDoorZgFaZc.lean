/- Contract: the areas: the cells of an area are marked. Contract: the areas: the loop over the places. -/
import Derived.Test.YtjimdnmdnjhnjaaGreatDoorZgFaZ
import Derived.Test.YtjimdnmdnjhnjaaGreatDoorZgFaQ
namespace Go.Proofs.YtjimdnmdnjhnjaaGreatDoor
open Go.RowKit Go.Shelf

attribute [local go_sem] Oper.semAt_some
attribute [local irreducible] nbV

/-- An area in memory: its cells' slice, and its cells. -/
abbrev ArA := Value × List (Int × Int)
def encA (g : Int → Int → Int) (a : ArA) : List Value := [a.1, .int .i64 (peakV g a.2).1, .int .i64 (peakV g a.2).2, .int .i64 (g (peakV g a.2).1 (peakV g a.2).2)]
def cellsA (g : Int → Int → Int) (As : List ArA) : List Value := As.flatMap (encA g)
/-- The memory of the loop over the places. -/
structure AoM (w : World) (b n S : Nat) (g : Int → Int → Int) (level : Int) (corners : Bool) (P : List (Int × Int)) (vP : Value) (As : List ArA) (vo : Value) (kk : Nat) (F : Int → Int → Bool) (W : World) : Prop where
  b3 : Blk W w.heap.size 41 #[.int .i64 level, .bool corners]
  hM : FMap W b n g
  hS : BMap W S kk F
  rowP : W.ownsRow w.heap.size 62 2 vP P.length (cellsC P)
  rowO : W.ownsRow w.heap.size 64 4 vo As.length (cellsA g As)
  rows : ∀ a ∈ As, W.ownsRow w.heap.size 62 2 a.1 a.2.length (cellsC a.2)
  below : Below w.heap.size w W
  hs : w.heap.size ≤ S ∧ S ≠ b
theorem own_nc {W W' : World} {base e size n : Nat} {v : Value} {xs : List Value} {row : Option Nat} (h : W.ownsRow base e size v n xs) (hg : W.grownBy W' row) (hr : ∀ r, row = some r → ∃ o, W.heap[r]? = some o ∧ o.isCells = false) : W'.ownsRow base e size v n xs := by
  refine h.kept hg ?_
  rcases hv : v.ownBlock with _ | G
  · exact .inl rfl
  · refine .inr fun e => ?_
    obtain ⟨o, ho, hc⟩ := hr _ e.symm
    obtain ⟨_, o', ho', hc', _⟩ := own_iscells h hv
    exact ne_of_cells ho' hc' ho hc rfl
theorem own_other {W W' : World} {base e e' size size' n n' : Nat} {v v' : Value} {xs xs' : List Value} (h : W.ownsRow base e size v n xs) (h' : W.ownsRow base e' size' v' n' xs') (hg : W.grownBy W' v'.ownBlock) (hne : e ≠ e') : W'.ownsRow base e size v n xs := by
  refine h.kept hg ?_
  rcases hv : v.ownBlock with _ | G
  · exact .inl rfl
  · refine .inr fun e0 => ?_
    rcases h.2 with ⟨rfl, _⟩ | ⟨g1, cap1, cur1, rfl, _, hh, _⟩
    · simp [Value.ownBlock] at hv
    · have eG : g1 = G := by simpa [Value.ownBlock] using hv
      subst eG
      exact own_blk_ne h' (cs := cur1) (t := e) hh (fun h => hne h.symm) e0.symm
theorem own_low {W : World} {base base' e size n : Nat} {v : Value} {xs : List Value} (h : W.ownsRow base e size v n xs) (hb : base' ≤ base) : W.ownsRow base' e size v n xs := by
  refine ⟨h.1, ?_⟩
  rcases h.2 with h0 | ⟨g', cap, cur, hv, hbs, r⟩
  · exact .inl h0
  · exact .inr ⟨g', cap, cur, hv, Nat.le_trans hb hbs, r⟩
section
variable {w W W' : World} {b n S kk : Nat} {g : Int → Int → Int} {level : Int} {corners : Bool} {P : List (Int × Int)} {vP vo : Value} {As : List ArA} {F : Int → Int → Bool}
theorem AoM.gr (h : AoM w b n S g level corners P vP As vo kk F W) (hk : Gr W W') : AoM w b n S g level corners P vP As vo kk F W' :=
  ⟨h.b3.gr hk, h.hM.gr hk, h.hS.gr hk, own_below h.rowP hk, own_below h.rowO hk, fun a ha => own_below (h.rows a ha) hk, h.below.trans (Below.mono hk (Below.size h.below)), h.hs⟩
theorem AoM.alloc (h : AoM w b n S g level corners P vP As vo kk F W) (o : Obj) : AoM w b n S g level corners P vP As vo kk F (W.alloc o) := h.gr ((Below.refl _ _).alloc (Nat.le_refl _) _)
theorem AoM.put (h : AoM w b n S g level corners P vP As vo kk F W) {kk' : Nat} {F' : Int → Int → Bool} (hg : W.grownBy W' (some S)) (hS' : BMap W' S kk' F') : AoM w b n S g level corners P vP As vo kk' F' W' := by
  have hr : ∀ r, some S = some r → ∃ o, W.heap[r]? = some o ∧ o.isCells = false := fun r e => by cases e; exact h.hS.ncells.imp fun _ h => ⟨h.1, h.2.1⟩
  refine ⟨h.b3.grown hg (fun e => ?_), h.hM.kept hg (fun e => h.hs.2 (Option.some.inj e).symm), hS', own_nc h.rowP hg hr, own_nc h.rowO hg hr, fun a ha => own_nc (h.rows a ha) hg hr, h.below.grown hg (Below.size h.below) (fun k e => by cases e; exact h.hs.1), h.hs⟩
  obtain ⟨o, ho, hc⟩ := hr _ e.symm
  obtain ⟨o', ho', hc', _⟩ := h.b3.iscells
  exact ne_of_cells ho' hc' ho hc rfl
theorem AoM.append (h : AoM w b n S g level corners P vP As vo kk F W) {a : ArA} {vo' : Value} (ha : W.ownsRow w.heap.size 62 2 a.1 a.2.length (cellsC a.2)) (hg : W.grownBy W' vo.ownBlock) (row' : W'.ownsRow w.heap.size 64 4 vo' (As.length + 1) (cellsA g As ++ encA g a)) : AoM w b n S g level corners P vP (As ++ [a]) vo' kk F W' := by
  have hm : ∀ {x : Nat} {o : Obj}, W.heap[x]? = some o → o.isCells = false → some x ≠ vo.ownBlock := fun ho hc e => by
    obtain ⟨_, o', ho', hc', _⟩ := own_iscells h.rowO e.symm
    exact ne_of_cells ho' hc' ho hc rfl
  refine ⟨h.b3.grown hg (fun e => own_blk_ne h.rowO h.b3 (by decide) e.symm), h.hM.kept hg ?_, h.hS.kept hg ?_, own_other h.rowP h.rowO hg (by decide), by rw [List.length_append]; simpa [cellsA] using row', fun x hx => ?_, h.below.grown hg (Below.size h.below) (fun r e => (own_iscells h.rowO e).1), h.hs⟩
  · obtain ⟨o, ho, hc, _⟩ := h.hM.ncells; exact hm ho hc
  · obtain ⟨o, ho, hc, _⟩ := h.hS.ncells; exact hm ho hc
  · rcases List.mem_append.1 hx with hx | hx
    · exact own_other (h.rows x hx) h.rowO hg (by decide)
    · simp at hx; subst hx; exact own_other ha h.rowO hg (by decide)
end
/-- What is marked when k cells of an area are. -/
abbrev markF (F : Int → Int → Bool) (cs : List (Int × Int)) : Int → Int → Bool := fun x y => F x y || decide ((x, y) ∈ cs)
theorem markF_step (F : Int → Int → Bool) (cs : List (Int × Int)) {k : Nat} (h : k < cs.length) : upd (markF F (cs.take k)) cs[k].1 cs[k].2 true = markF F (cs.take (k + 1)) := by
  have hm : ∀ z, z ∈ cs.take (k + 1) ↔ z ∈ cs.take k ∨ z = cs[k] := fun z => by rw [List.take_succ_eq_append_getElem h, List.mem_append, List.mem_singleton]
  funext x y
  unfold upd
  by_cases e : x = cs[k].1 ∧ y = cs[k].2
  · rw [if_pos e]
    have : (x, y) ∈ cs.take (k + 1) := (hm _).2 (.inr (Prod.ext e.1 e.2))
    show true = (F x y || decide ((x, y) ∈ cs.take (k + 1)))
    rw [decide_eq_true this, Bool.or_true]
  · rw [if_neg e]
    have : ¬ ((x, y) = cs[k]) := fun h => e ⟨congrArg Prod.fst h, congrArg Prod.snd h⟩
    show (F x y || decide ((x, y) ∈ cs.take k)) = (F x y || decide ((x, y) ∈ cs.take (k + 1)))
    congr 1
    exact decide_eq_decide.2 ⟨fun h => (hm _).2 (.inl h), fun h => ((hm _).1 h).resolve_right this⟩

set_option maxRecDepth 100000 in
set_option maxHeartbeats 4000000 in
theorem mark_round (b n S B14 G cap : Nat) (g : Int → Int → Int) (level : Int) (corners : Bool) (P cs : List (Int × Int)) (vP vo : Value) (As : List ArA) (i kk : Nat) (F : Int → Int → Bool) (w : World) (hcl : Hid (∀ x ∈ cs, W64 x.1 ∧ W64 x.2)) (hlen : cs.length ≤ 100000) (hkk : kk ≤ 100000000000) (k : Nat) (hk : k ≤ cs.length) (wr : World)
    (hI : AoM w b n S g level corners P vP As vo (kk + k) (markF F (cs.take k)) wr) (hA : wr.ownsRow w.heap.size 62 2 (.slice (some ⟨G, 0, none⟩) cs.length cap) cs.length (cellsC cs)) (h14 : Blk wr B14 64 (encA g (.slice (some ⟨G, 0, none⟩) cs.length cap, cs)).toArray)
    (K' : Act → World → Prop) (Q' : Exit → Act → World → Prop) {t0 t1 t2 t4 t5 t7 t8 t9 t12 t13 t15 t16 t17 t18 t19 t20 t21 t22 t23 t24 t25 t26 t27 t28 t29 t30 t31 t32 t33 t34 t35 t36 t37 t38 t39 t40 t41 t42 t43 t47 t48 t49 t50 t51 t52 t53 t54 t55 t56 t57 t61 t62 t63 t64 t65 t66 t67 t68 t69 t70 t71 t72 : Value}
    (hnext : ∀ (t0 t1 t2 t4 t5 t7 t8 t9 t12 t13 t15 t16 t17 t18 t19 t20 t21 t22 t23 t24 t25 t26 t27 t28 t29 t30 t31 t32 t33 t34 t35 t36 t37 t38 t39 t40 t41 t42 t43 t47 t48 t49 t50 t51 t52 t53 t54 t55 t56 t57 t61 t62 t63 t64 t65 t66 t67 t68 t69 t70 t71 t72 : Value) (wr : World), k + 1 ≤ cs.length → AoM w b n S g level corners P vP As vo (kk + (k + 1)) (markF F (cs.take (k + 1))) wr → wr.ownsRow w.heap.size 62 2 (.slice (some ⟨G, 0, none⟩) cs.length cap) cs.length (cellsC cs) → Blk wr B14 64 (encA g (.slice (some ⟨G, 0, none⟩) cs.length cap, cs)).toArray → K' ⟨#[t0, t1, t2, .pointer (some ⟨w.heap.size, 0, none⟩), t4, t5, .map (some b), t7, t8, t9, vo, .map (some S), t12, t13, .pointer (some ⟨B14, 0, none⟩), t15, t16, t17, t18, t19, t20, t21, t22, t23, t24, t25, t26, t27, t28, t29, t30, t31, t32, t33, t34, t35, t36, t37, t38, t39, t40, t41, t42, t43, vP, .int .i64 (P.length : Int), .int .i64 (i : Int), t47, t48, t49, t50, t51, t52, t53, t54, t55, t56, t57, .slice (some ⟨G, 0, none⟩) cs.length cap, .int .i64 (cs.length : Int), .int .i64 ((k + 1 : Nat) : Int), t61, t62, t63, t64, t65, t66, t67, t68, t69, t70, t71, t72], []⟩ wr)
    (hexit : ∀ (t0 t1 t2 t4 t5 t7 t8 t9 t12 t13 t15 t16 t17 t18 t19 t20 t21 t22 t23 t24 t25 t26 t27 t28 t29 t30 t31 t32 t33 t34 t35 t36 t37 t38 t39 t40 t41 t42 t43 t47 t48 t49 t50 t51 t52 t53 t54 t55 t56 t57 t61 t62 t63 t64 t65 t66 t67 t68 t69 t70 t71 t72 : Value), k = cs.length → Q' (.exit 4) ⟨#[t0, t1, t2, .pointer (some ⟨w.heap.size, 0, none⟩), t4, t5, .map (some b), t7, t8, t9, vo, .map (some S), t12, t13, .pointer (some ⟨B14, 0, none⟩), t15, t16, t17, t18, t19, t20, t21, t22, t23, t24, t25, t26, t27, t28, t29, t30, t31, t32, t33, t34, t35, t36, t37, t38, t39, t40, t41, t42, t43, vP, .int .i64 (P.length : Int), .int .i64 (i : Int), t47, t48, t49, t50, t51, t52, t53, t54, t55, t56, t57, .slice (some ⟨G, 0, none⟩) cs.length cap, .int .i64 (cs.length : Int), .int .i64 (k : Int), t61, t62, t63, t64, t65, t66, t67, t68, t69, t70, t71, t72], []⟩ wr) :
    (bodyOf Tryz.f10 2).wp Tryz.prog (Exit.then K' Q') ⟨#[t0, t1, t2, .pointer (some ⟨w.heap.size, 0, none⟩), t4, t5, .map (some b), t7, t8, t9, vo, .map (some S), t12, t13, .pointer (some ⟨B14, 0, none⟩), t15, t16, t17, t18, t19, t20, t21, t22, t23, t24, t25, t26, t27, t28, t29, t30, t31, t32, t33, t34, t35, t36, t37, t38, t39, t40, t41, t42, t43, vP, .int .i64 (P.length : Int), .int .i64 (i : Int), t47, t48, t49, t50, t51, t52, t53, t54, t55, t56, t57, .slice (some ⟨G, 0, none⟩) cs.length cap, .int .i64 (cs.length : Int), .int .i64 (k : Int), t61, t62, t63, t64, t65, t66, t67, t68, t69, t70, t71, t72], []⟩ wr := by
  have HN := Lib.hid hnext; have HX := Lib.hid hexit
  clear hnext hexit
  conv in (bodyOf _ _) => whnf
  by_cases hlt : k < cs.length
  · obtain ⟨p0, p1⟩ := rowCell hA hlt
    obtain ⟨wx, wy⟩ := hcl.out _ (List.getElem_mem hlt)
    have HSTEP := Lib.hid (markF_step F cs hlt)
    obtain ⟨x, hx⟩ : ∃ x, cs[k] = x := ⟨_, rfl⟩
    rw [hx] at p0 p1 wx wy HSTEP
    clear hx
    have hI1 := hI.alloc (.cells #[.int .i64 x.1, .int .i64 x.2] 62)
    have hg0 : Gr wr (wr.alloc (.cells #[.int .i64 x.1, .int .i64 x.2] 62)) := (Below.refl _ _).alloc (Nat.le_refl _) _
    obtain ⟨w2, hput, hS2, hg2⟩ := hI1.hS.put Tryz.underlying96 (by unfold maxLen; omega) true wx wy
    have hr : ∀ r, some S = some r → ∃ o, (wr.alloc (.cells #[.int .i64 x.1, .int .i64 x.2] 62)).heap[r]? = some o ∧ o.isCells = false := fun r e => by cases e; exact hI1.hS.ncells.imp fun _ h => ⟨h.1, h.2.1⟩
    have hA2 := own_nc (own_below hA hg0) hg2 hr
    have h142 := (h14.gr hg0).grown hg2 (fun e => by
      obtain ⟨o, ho, hc⟩ := hr _ e.symm
      obtain ⟨o', ho', hc', _⟩ := (h14.gr hg0).iscells
      exact ne_of_cells ho' hc' ho hc rfl)
    rw [HSTEP.out] at hS2
    have HI2 := Lib.hid (hI1.put hg2 hS2)
    have HA2 := Lib.hid hA2; have H14 := Lib.hid h142
    clear hI hI1 hS2 hg2 hr hA2 h142 h14 hg0
    have bx := Blk.new wr 62 #[.int .i64 x.1, .int .i64 x.2]
    go_wp2_with fail
    exact HN.out _ _ _ _ _ _ _ _ _ _ _ _ _ _ _ _ _ _ _ _ _ _ _ _ _ _ _ _ _ _ _ _ _ _ _ _ _ _ _ _ _ _ _ _ _ _ _ _ _ _ _ _ _ _ _ _ _ _ _ _ _ _ w2 hlt HI2.out HA2.out H14.out
  · obtain rfl : k = cs.length := by omega
    clear hI hA h14
    go_wp2
    exact HX.out _ _ _ _ _ _ _ _ _ _ _ _ _ _ _ _ _ _ _ _ _ _ _ _ _ _ _ _ _ _ _ _ _ _ _ _ _ _ _ _ _ _ _ _ _ _ _ _ _ _ _ _ _ _ _ _ _ _ _ _ _ _ trivial

set_option maxRecDepth 100000 in
set_option maxHeartbeats 4000000 in
theorem mark_loop (b n S B14 G cap : Nat) (g : Int → Int → Int) (level : Int) (corners : Bool) (P cs : List (Int × Int)) (vP vo : Value) (As : List ArA) (i kk : Nat) (F : Int → Int → Bool) (w : World) (hcl : Hid (∀ x ∈ cs, W64 x.1 ∧ W64 x.2)) (hlen : cs.length ≤ 100000) (hkk : kk ≤ 100000000000)
    (Q' : Exit → Act → World → Prop)
    (hexit : ∀ (t0 t1 t2 t4 t5 t7 t8 t9 t12 t13 t15 t16 t17 t18 t19 t20 t21 t22 t23 t24 t25 t26 t27 t28 t29 t30 t31 t32 t33 t34 t35 t36 t37 t38 t39 t40 t41 t42 t43 t47 t48 t49 t50 t51 t52 t53 t54 t55 t56 t57 t61 t62 t63 t64 t65 t66 t67 t68 t69 t70 t71 t72 : Value) (wr : World), AoM w b n S g level corners P vP As vo (kk + cs.length) (markF F cs) wr → wr.ownsRow w.heap.size 62 2 (.slice (some ⟨G, 0, none⟩) cs.length cap) cs.length (cellsC cs) → Blk wr B14 64 (encA g (.slice (some ⟨G, 0, none⟩) cs.length cap, cs)).toArray → Q' (.exit 4) ⟨#[t0, t1, t2, .pointer (some ⟨w.heap.size, 0, none⟩), t4, t5, .map (some b), t7, t8, t9, vo, .map (some S), t12, t13, .pointer (some ⟨B14, 0, none⟩), t15, t16, t17, t18, t19, t20, t21, t22, t23, t24, t25, t26, t27, t28, t29, t30, t31, t32, t33, t34, t35, t36, t37, t38, t39, t40, t41, t42, t43, vP, .int .i64 (P.length : Int), .int .i64 (i : Int), t47, t48, t49, t50, t51, t52, t53, t54, t55, t56, t57, .slice (some ⟨G, 0, none⟩) cs.length cap, .int .i64 (cs.length : Int), .int .i64 (cs.length : Int), t61, t62, t63, t64, t65, t66, t67, t68, t69, t70, t71, t72], []⟩ wr)
    {t0 t1 t2 t4 t5 t7 t8 t9 t12 t13 t15 t16 t17 t18 t19 t20 t21 t22 t23 t24 t25 t26 t27 t28 t29 t30 t31 t32 t33 t34 t35 t36 t37 t38 t39 t40 t41 t42 t43 t47 t48 t49 t50 t51 t52 t53 t54 t55 t56 t57 t61 t62 t63 t64 t65 t66 t67 t68 t69 t70 t71 t72 : Value} (wr : World) (hI : AoM w b n S g level corners P vP As vo kk F wr) (hA : wr.ownsRow w.heap.size 62 2 (.slice (some ⟨G, 0, none⟩) cs.length cap) cs.length (cellsC cs)) (h14 : Blk wr B14 64 (encA g (.slice (some ⟨G, 0, none⟩) cs.length cap, cs)).toArray) :
    (Code.loop (bodyOf Tryz.f10 2)).wp Tryz.prog Q' ⟨#[t0, t1, t2, .pointer (some ⟨w.heap.size, 0, none⟩), t4, t5, .map (some b), t7, t8, t9, vo, .map (some S), t12, t13, .pointer (some ⟨B14, 0, none⟩), t15, t16, t17, t18, t19, t20, t21, t22, t23, t24, t25, t26, t27, t28, t29, t30, t31, t32, t33, t34, t35, t36, t37, t38, t39, t40, t41, t42, t43, vP, .int .i64 (P.length : Int), .int .i64 (i : Int), t47, t48, t49, t50, t51, t52, t53, t54, t55, t56, t57, .slice (some ⟨G, 0, none⟩) cs.length cap, .int .i64 (cs.length : Int), .int .i64 ((0 : Nat) : Int), t61, t62, t63, t64, t65, t66, t67, t68, t69, t70, t71, t72], []⟩ wr := by
  have h0 : markF F (cs.take 0) = F := by funext x y; simp [markF]
  refine wp_loop_ghost (fun m a' wr => ∃ (zf : Nat → Value) (k : Nat), a' = ⟨#[zf 0, zf 1, zf 2, .pointer (some ⟨w.heap.size, 0, none⟩), zf 4, zf 5, .map (some b), zf 7, zf 8, zf 9, vo, .map (some S), zf 12, zf 13, .pointer (some ⟨B14, 0, none⟩), zf 15, zf 16, zf 17, zf 18, zf 19, zf 20, zf 21, zf 22, zf 23, zf 24, zf 25, zf 26, zf 27, zf 28, zf 29, zf 30, zf 31, zf 32, zf 33, zf 34, zf 35, zf 36, zf 37, zf 38, zf 39, zf 40, zf 41, zf 42, zf 43, vP, .int .i64 (P.length : Int), .int .i64 (i : Int), zf 47, zf 48, zf 49, zf 50, zf 51, zf 52, zf 53, zf 54, zf 55, zf 56, zf 57, .slice (some ⟨G, 0, none⟩) cs.length cap, .int .i64 (cs.length : Int), .int .i64 (k : Int), zf 61, zf 62, zf 63, zf 64, zf 65, zf 66, zf 67, zf 68, zf 69, zf 70, zf 71, zf 72], []⟩ ∧ m + k = cs.length ∧ AoM w b n S g level corners P vP As vo (kk + k) (markF F (cs.take k)) wr ∧ wr.ownsRow w.heap.size 62 2 (.slice (some ⟨G, 0, none⟩) cs.length cap) cs.length (cellsC cs) ∧ Blk wr B14 64 (encA g (.slice (some ⟨G, 0, none⟩) cs.length cap, cs)).toArray) cs.length ⟨fun k => (#[t0, t1, t2, undef, t4, t5, undef, t7, t8, t9, undef, undef, t12, t13, undef, t15, t16, t17, t18, t19, t20, t21, t22, t23, t24, t25, t26, t27, t28, t29, t30, t31, t32, t33, t34, t35, t36, t37, t38, t39, t40, t41, t42, t43, undef, undef, undef, t47, t48, t49, t50, t51, t52, t53, t54, t55, t56, t57, undef, undef, undef, t61, t62, t63, t64, t65, t66, t67, t68, t69, t70, t71, t72] : Array Value).getD k undef, 0, rfl, by omega, by rw [h0]; exact hI, hA, h14⟩ ?_
  clear hI hA h14
  rintro m a' wr ⟨zf, k, rfl, hmk, hI, hA, h14⟩
  refine mark_round b n S B14 G cap g level corners P cs vP vo As i kk F w hcl hlen hkk k (by omega) wr hI hA h14 _ _ ?_ ?_
  · intro t0 t1 t2 t4 t5 t7 t8 t9 t12 t13 t15 t16 t17 t18 t19 t20 t21 t22 t23 t24 t25 t26 t27 t28 t29 t30 t31 t32 t33 t34 t35 t36 t37 t38 t39 t40 t41 t42 t43 t47 t48 t49 t50 t51 t52 t53 t54 t55 t56 t57 t61 t62 t63 t64 t65 t66 t67 t68 t69 t70 t71 t72 wr h1 h2 h3 h4
    exact ⟨m - 1, by omega, fun k => (#[t0, t1, t2, undef, t4, t5, undef, t7, t8, t9, undef, undef, t12, t13, undef, t15, t16, t17, t18, t19, t20, t21, t22, t23, t24, t25, t26, t27, t28, t29, t30, t31, t32, t33, t34, t35, t36, t37, t38, t39, t40, t41, t42, t43, undef, undef, undef, t47, t48, t49, t50, t51, t52, t53, t54, t55, t56, t57, undef, undef, undef, t61, t62, t63, t64, t65, t66, t67, t68, t69, t70, t71, t72] : Array Value).getD k undef, k + 1, rfl, by omega, h2, h3, h4⟩
  · intro t0 t1 t2 t4 t5 t7 t8 t9 t12 t13 t15 t16 t17 t18 t19 t20 t21 t22 t23 t24 t25 t26 t27 t28 t29 t30 t31 t32 t33 t34 t35 t36 t37 t38 t39 t40 t41 t42 t43 t47 t48 t49 t50 t51 t52 t53 t54 t55 t56 t57 t61 t62 t63 t64 t65 t66 t67 t68 t69 t70 t71 t72 h1
    subst h1
    rw [List.take_length] at hI
    exact hexit _ _ _ _ _ _ _ _ _ _ _ _ _ _ _ _ _ _ _ _ _ _ _ _ _ _ _ _ _ _ _ _ _ _ _ _ _ _ _ _ _ _ _ _ _ _ _ _ _ _ _ _ _ _ _ _ _ _ _ _ _ _ wr hI hA h14
end Go.Proofs.YtjimdnmdnjhnjaaGreatDoor

namespace Go.Proofs.YtjimdnmdnjhnjaaGreatDoor
open Go.RowKit Go.Shelf

attribute [local go_sem] Oper.semAt_some
attribute [local irreducible] nbV

/-- The areas of the first i places; each with the place it was found from. -/
structure ArS (g : Int → Int → Int) (level : Int) (corners : Bool) (P : List (Int × Int)) (i : Nat) (Bs : List ((Int × Int) × ArA)) : Prop where
  each : ∀ q ∈ Bs, AreaOk g level corners q.1 q.2.2
  sub : (Bs.map (·.1)).Sublist (P.take i)
  cover : ∀ x ∈ P.take i, ∃ q ∈ Bs, x ∈ q.2.2
  apart : Bs.Pairwise fun a b => b.1 ∉ a.2.2
  low : ∀ q ∈ Bs, ∃ j, ∃ h : j < P.length, P[j] = q.1 ∧ ∀ x ∈ q.2.2, x ∉ P.take j
def doneF (Bs : List ((Int × Int) × ArA)) : Int → Int → Bool := fun x y => Bs.any fun q => decide ((x, y) ∈ q.2.2)
theorem infoArea : (Tryz.prog.info? 64).map (fun i => (i.zero, i.size, i.bytes)) = some (some (.agg #[.slice none 0 0, .int .i64 0, .int .i64 0, .int .i64 0]), 4, 48) := by kernel_rfl
theorem cell_four_new (w : World) (x y z u : Value) (t : TypeId) : ∀ j v, [x, y, z, u][j]? = some v → (w.alloc (.cells #[x, y, z, u] t)).cell? ((⟨w.heap.size, 0, none⟩ : Addr).add j) = some v := by
  intro j v hj
  have hb := Blk.new w t #[x, y, z, u]
  match j, hj with
  | 0, hj => simp at hj; subst hj; exact hb.cell 0
  | 1, hj => simp at hj; subst hj; exact hb.cell 1
  | 2, hj => simp at hj; subst hj; exact hb.cell 2
  | 3, hj => simp at hj; subst hj; exact hb.cell 3
  | k + 4, hj => simp at hj
section
variable {g : Int → Int → Int} {level : Int} {corners : Bool} {P : List (Int × Int)} {i : Nat} {Bs : List ((Int × Int) × ArA)}
theorem doneF_iff (Bs : List ((Int × Int) × ArA)) (x y : Int) : doneF Bs x y = true ↔ ∃ q ∈ Bs, (x, y) ∈ q.2.2 := by simp [doneF]
theorem ArS.nil : ArS g level corners P 0 [] := ⟨by simp, by simp, by simp, by simp, by simp⟩
theorem ArS.skip (h : ArS g level corners P i Bs) (hi : i < P.length) (hd : doneF Bs P[i].1 P[i].2 = true) : ArS g level corners P (i + 1) Bs := by
  refine ⟨h.each, ?_, fun x hx => ?_, h.apart, h.low⟩
  · rw [List.take_succ_eq_append_getElem hi]
    exact h.sub.trans (List.sublist_append_left _ _)
  · rw [List.take_succ_eq_append_getElem hi, List.mem_append, List.mem_singleton] at hx
    rcases hx with hx | rfl
    · exact h.cover x hx
    · exact (doneF_iff _ _ _).1 hd
theorem ArS.add (h : ArS g level corners P i Bs) (hi : i < P.length) (hd : doneF Bs P[i].1 P[i].2 = false) (ha : abv g P[i].1 P[i].2 level = true) {v : Value} {cs : List (Int × Int)} (hA : AreaOk g level corners P[i] cs) : ArS g level corners P (i + 1) (Bs ++ [(P[i], (v, cs))]) := by
  refine ⟨fun q hq => ?_, ?_, fun x hx => ?_, ?_, fun q hq => ?_⟩
  · rcases List.mem_append.1 hq with hq | hq
    · exact h.each q hq
    · rw [List.mem_singleton] at hq; subst hq; exact hA
  · rw [List.take_succ_eq_append_getElem hi, List.map_append]
    exact h.sub.append (List.Sublist.refl _)
  · rw [List.take_succ_eq_append_getElem hi, List.mem_append, List.mem_singleton] at hx
    rcases hx with hx | rfl
    · obtain ⟨q, hq, hm⟩ := h.cover x hx
      exact ⟨q, List.mem_append_left _ hq, hm⟩
    · exact ⟨_, List.mem_append_right _ (List.mem_singleton.2 rfl), (hA.mem _).2 .refl⟩
  · rw [List.pairwise_append]
    refine ⟨h.apart, by simp, fun a ha b hb => ?_⟩
    rw [List.mem_singleton] at hb; subst hb
    intro hm
    have : doneF Bs P[i].1 P[i].2 = true := (doneF_iff _ _ _).2 ⟨a, ha, hm⟩
    rw [hd] at this; cases this
  · rcases List.mem_append.1 hq with hq | hq
    · exact h.low q hq
    · rw [List.mem_singleton] at hq; subst hq
      refine ⟨i, hi, rfl, fun x hx hxt => ?_⟩
      obtain ⟨q, hq, hm⟩ := h.cover x hxt
      have h1 := ((h.each q hq).mem x).1 hm
      have h2 := Conn.symm ha ((hA.mem x).1 hx)
      have : doneF Bs P[i].1 P[i].2 = true := (doneF_iff _ _ _).2 ⟨q, hq, ((h.each q hq).mem _).2 (h1.trans h2)⟩
      rw [hd] at this; cases this
theorem doneF_add (Bs : List ((Int × Int) × ArA)) (p : Int × Int) (v : Value) (cs : List (Int × Int)) : doneF (Bs ++ [(p, (v, cs))]) = markF (doneF Bs) cs := by
  funext x y; simp [doneF, markF]
end

set_option maxRecDepth 100000 in
set_option maxHeartbeats 4000000 in
theorem areas_round (b n S cap : Nat) (pP : Option Addr) (g : Int → Int → Int) (level : Int) (corners : Bool) (P : List (Int × Int)) (Bs : List ((Int × Int) × ArA)) (vo : Value) (i kk : Nat) (w : World) (hn : n ≤ 100000) (hkn : Hid (∀ x y, 0 ≤ g x y → (-100000 ≤ x ∧ x ≤ 100023) ∧ (-100000 ≤ y ∧ y ≤ 100023))) (hbd : Hid (∀ x y, g x y ≤ 1000000000)) (hPa : Hid (∀ x ∈ P, abv g x.1 x.2 level = true)) (hPl : P.length ≤ 100000) (hi : i ≤ P.length) (hkk : kk ≤ i * n) (hBl : Bs.length ≤ i) (wr : World)
    (hI : AoM w b n S g level corners P (.slice pP P.length cap) (Bs.map (·.2)) vo kk (doneF Bs) wr) (hS : ArS g level corners P i Bs)
    (K' : Act → World → Prop) (Q' : Exit → Act → World → Prop) {t0 t1 t2 t4 t5 t7 t8 t9 t12 t13 t14 t15 t16 t17 t18 t19 t20 t21 t22 t23 t24 t25 t26 t27 t28 t29 t30 t31 t32 t33 t34 t35 t36 t37 t38 t39 t40 t41 t42 t43 t47 t48 t49 t50 t51 t52 t53 t54 t55 t56 t57 t58 t59 t60 t61 t62 t63 t64 t65 t66 t67 t68 t69 t70 t71 t72 : Value}
    (hnext : ∀ (t0 t1 t2 t4 t5 t7 t8 t9 t12 t13 t14 t15 t16 t17 t18 t19 t20 t21 t22 t23 t24 t25 t26 t27 t28 t29 t30 t31 t32 t33 t34 t35 t36 t37 t38 t39 t40 t41 t42 t43 t47 t48 t49 t50 t51 t52 t53 t54 t55 t56 t57 t58 t59 t60 t61 t62 t63 t64 t65 t66 t67 t68 t69 t70 t71 t72 : Value) (Bs : List ((Int × Int) × ArA)) (vo : Value) (kk : Nat) (wr : World), i + 1 ≤ P.length → kk ≤ (i + 1) * n → Bs.length ≤ i + 1 → AoM w b n S g level corners P (.slice pP P.length cap) (Bs.map (·.2)) vo kk (doneF Bs) wr → ArS g level corners P (i + 1) Bs → K' ⟨#[t0, t1, t2, .pointer (some ⟨w.heap.size, 0, none⟩), t4, t5, .map (some b), t7, t8, t9, vo, .map (some S), t12, t13, t14, t15, t16, t17, t18, t19, t20, t21, t22, t23, t24, t25, t26, t27, t28, t29, t30, t31, t32, t33, t34, t35, t36, t37, t38, t39, t40, t41, t42, t43, .slice pP P.length cap, .int .i64 (P.length : Int), .int .i64 ((i + 1 : Nat) : Int), t47, t48, t49, t50, t51, t52, t53, t54, t55, t56, t57, t58, t59, t60, t61, t62, t63, t64, t65, t66, t67, t68, t69, t70, t71, t72], []⟩ wr)
    (hexit : ∀ (t0 t1 t2 t4 t5 t7 t8 t9 t12 t13 t14 t15 t16 t17 t18 t19 t20 t21 t22 t23 t24 t25 t26 t27 t28 t29 t30 t31 t32 t33 t34 t35 t36 t37 t38 t39 t40 t41 t42 t43 t47 t48 t49 t50 t51 t52 t53 t54 t55 t56 t57 t58 t59 t60 t61 t62 t63 t64 t65 t66 t67 t68 t69 t70 t71 t72 : Value), i = P.length → Q' (.exit 2) ⟨#[t0, t1, t2, .pointer (some ⟨w.heap.size, 0, none⟩), t4, t5, .map (some b), t7, t8, t9, vo, .map (some S), t12, t13, t14, t15, t16, t17, t18, t19, t20, t21, t22, t23, t24, t25, t26, t27, t28, t29, t30, t31, t32, t33, t34, t35, t36, t37, t38, t39, t40, t41, t42, t43, .slice pP P.length cap, .int .i64 (P.length : Int), .int .i64 (i : Int), t47, t48, t49, t50, t51, t52, t53, t54, t55, t56, t57, t58, t59, t60, t61, t62, t63, t64, t65, t66, t67, t68, t69, t70, t71, t72], []⟩ wr) :
    (bodyOf Tryz.f10 1).wp Tryz.prog (Exit.then K' Q') ⟨#[t0, t1, t2, .pointer (some ⟨w.heap.size, 0, none⟩), t4, t5, .map (some b), t7, t8, t9, vo, .map (some S), t12, t13, t14, t15, t16, t17, t18, t19, t20, t21, t22, t23, t24, t25, t26, t27, t28, t29, t30, t31, t32, t33, t34, t35, t36, t37, t38, t39, t40, t41, t42, t43, .slice pP P.length cap, .int .i64 (P.length : Int), .int .i64 (i : Int), t47, t48, t49, t50, t51, t52, t53, t54, t55, t56, t57, t58, t59, t60, t61, t62, t63, t64, t65, t66, t67, t68, t69, t70, t71, t72], []⟩ wr := by
  have HK1 : Hid (kk ≤ (i + 1) * n) := Lib.hid (Nat.le_trans hkk (Nat.mul_le_mul_right n (Nat.le_succ i)))
  have HK3 : Hid (∀ m, m ≤ n → kk + m ≤ (i + 1) * n) := Lib.hid (fun m hm => by rw [Nat.succ_mul]; exact Nat.add_le_add hkk hm)
  have HKB : Hid (kk ≤ 100000000000) := Lib.hid (Nat.le_trans hkk (Nat.le_trans (Nat.mul_le_mul (Nat.le_trans hi hPl) hn) (by decide)))
  have HK2' : Hid (Bs.length ≤ i) := Lib.hid hBl
  have HK2 : Hid (Bs.length ≤ i + 1) := Lib.hid (by omega)
  have HN := Lib.hid hnext; have HX := Lib.hid hexit
  clear hnext hexit
  conv in (bodyOf _ _) => whnf
  by_cases hlt : i < P.length
  · obtain ⟨G, cap', hv, _, _⟩ := hI.rowP.form (by omega)
    obtain ⟨rfl, rfl⟩ : pP = some ⟨G, 0, none⟩ ∧ cap = cap' := by injection hv with h1 h2 h3; exact ⟨h1, h3⟩
    clear hv
    obtain ⟨p0, p1⟩ := rowCell hI.rowP hlt
    have ha := hPa.out _ (List.getElem_mem hlt)
    have HSK := Lib.hid (fun hd => hS.skip hlt hd)
    have HAD := Lib.hid (fun hd v cs hA => hS.add hlt hd ha (v := v) (cs := cs) hA)
    obtain ⟨x, hx⟩ : ∃ x, P[i] = x := ⟨_, rfl⟩
    rw [hx] at p0 p1 ha HSK HAD
    clear hx hS
    have HA := Lib.hid ha; clear ha
    obtain ⟨gp, _⟩ := (abv_iff _ _ _ _).1 HA.out
    obtain ⟨hr, hc⟩ := hkn.out _ _ gp
    have wx : W64 x.1 := by unfold W64; omega
    have wy : W64 x.2 := by unfold W64; omega
    clear gp hr hc
    have hI1 := hI.alloc (.cells #[.int .i64 x.1, .int .i64 x.2] 62)
    have hlk := hI1.hS.look Tryz.underlying96 wx wy
    have bx := Blk.new wr 62 #[.int .i64 x.1, .int .i64 x.2]
    have e3 := hI.b3; have l3 := e3.lt
    obtain ⟨c30, c31, _⟩ := blk2c e3
    have HI1 := Lib.hid hI1
    clear hI hI1
    cases hd : doneF Bs x.1 x.2
    · rw [hd] at hlk
      have HD := Lib.hid hd; clear hd
      go_wp2_with (go_at_call 36; refine (area_any b n g level corners x.1 x.2 _ HI1.out.hM hn hkn hbd HA.out).mono ?_; rintro e w2 ⟨va, cs, rfl, hAo, hra, hB2⟩; refine RowKit.Hid.out ?_)
      refine Lib.hid ?_
      have hsz : (wr.alloc (.cells #[.int .i64 x.1, .int .i64 x.2] 62)).heap.size = wr.heap.size + 1 := by simp
      have hb0 := Below.size HI1.out.below
      have hra0 := own_low hra hb0
      have HI2 := HI1.out.gr hB2
      have hAc : AreaOk g level corners x cs := hAo
      have hpos : 0 < cs.length := List.length_pos_of_mem ((hAc.mem x).2 .refl)
      obtain ⟨G2, cap2, rfl, hG2, hGl2⟩ := hra.form hpos
      have hcs : ∀ y ∈ cs, 0 ≤ g y.1 y.2 ∧ W64 y.1 ∧ W64 y.2 := fun y hy => by
        obtain ⟨gx, _⟩ := (abv_iff _ _ _ _).1 (((hAc.mem y).1 hy).abv HA.out)
        obtain ⟨a1, a2⟩ := hkn.out _ _ gx
        exact ⟨gx, by unfold W64; omega, by unfold W64; omega⟩
      have hcl : cs.length ≤ n := HI2.hM.count hAc.nodup hcs
      have HC : Hid (∀ y ∈ cs, W64 y.1 ∧ W64 y.2) := Lib.hid (fun y hy => (hcs y hy).2)
      have h14 : Blk (w2.alloc (.cells #[.slice (some ⟨G2, 0, none⟩) cs.length cap2, .int .i64 (peakV g cs).1, .int .i64 (peakV g cs).2, .int .i64 (g (peakV g cs).1 (peakV g cs).2)] 64)) w2.heap.size 64 (encA g (.slice (some ⟨G2, 0, none⟩) cs.length cap2, cs)).toArray := Blk.new _ _ _
      have HI3 := Lib.hid (HI2.alloc (.cells #[.slice (some ⟨G2, 0, none⟩) cs.length cap2, .int .i64 (peakV g cs).1, .int .i64 (peakV g cs).2, .int .i64 (g (peakV g cs).1 (peakV g cs).2)] 64))
      have HRA := Lib.hid (own_below hra0 ((Below.refl w2.heap.size w2).alloc (Nat.le_refl _) (.cells #[.slice (some ⟨G2, 0, none⟩) cs.length cap2, .int .i64 (peakV g cs).1, .int .i64 (peakV g cs).2, .int .i64 (g (peakV g cs).1 (peakV g cs).2)] 64)))
      have H14 := Lib.hid h14
      have HAC := Lib.hid hAc
      clear HI2 hra hra0 hAo hAc hcs h14 hB2 hsz hb0 hG2 hGl2 hpos HI1 hlk bx e3 l3 c30 c31
      have HK5 := Lib.hid (HK3.out _ hcl)
      clear hkk
      go_wp2_with fail
      have hl := mark_loop b n S w2.heap.size G2 cap2 g level corners P cs (.slice (some ⟨G, 0, none⟩) P.length cap) vo (Bs.map (·.2)) i kk (doneF Bs) w HC (by omega) HKB.out
      unfold bodyOf at hl
      conv at hl in (Option.getD _ Code.skip) => whnf
      refine hl _ ?_ _ HI3.out HRA.out H14.out
      clear hl HI3 HRA H14
      intro t0 t1 t2 t4 t5 t7 t8 t9 t12 t13 t15 t16 t17 t18 t19 t20 t21 t22 t23 t24 t25 t26 t27 t28 t29 t30 t31 t32 t33 t34 t35 t36 t37 t38 t39 t40 t41 t42 t43 t47 t48 t49 t50 t51 t52 t53 t54 t55 t56 t57 t61 t62 t63 t64 t65 t66 t67 t68 t69 t70 t71 t72 w3 hI3 hA3 h143
      have h144 : Blk w3 w2.heap.size 64 #[.slice (some ⟨G2, 0, none⟩) cs.length cap2, .int .i64 (peakV g cs).1, .int .i64 (peakV g cs).2, .int .i64 (g (peakV g cs).1 (peakV g cs).2)] := h143
      have l144 := h144.lt
      obtain ⟨k0, k1, k2, k3, kf⟩ := blk4 h144
      obtain ⟨i0, hi0, hz0, hz1, hz2⟩ := info_parts infoArea
      have HI3 := Lib.hid hI3; have HA3 := Lib.hid hA3
      have hBn : (Bs.map (·.2)).length ≤ 100000 := by rw [List.length_map]; omega
      clear hI3 hA3 h143 h144
      go_wp2_with (at_builtin; refine wpList_append_own _ rfl _ _ 35 rfl w.heap.size 64 i0 (.agg #[.slice none 0 0, .int .i64 0, .int .i64 0, .int .i64 0]) 4 48 Tryz.underlying35 hi0 hz0 hz1 hz2 rfl (by decide) _ _ _ rfl (HI3.out.rowO.alloc _) ⟨w3.heap.size, 0, none⟩ 1 1 [.slice (some ⟨G2, 0, none⟩) cs.length cap2, .int .i64 (peakV g cs).1, .int .i64 (peakV g cs).2, .int .i64 (g (peakV g cs).1 (peakV g cs).2)] rfl rfl (cell_four_new _ _ _ _ _ _) (by simp [Value.oneCell']) (by unfold maxLen; omega) (by omega) (by have := Below.size HI3.out.below; simp; omega) ?_; intro v2 W5 hown' hgrow _; obtain ⟨g5, cap5, rfl⟩ := ownsRow_succ hown'; have hJ5 := (HI3.out.alloc (.cells #[.slice (some ⟨G2, 0, none⟩) cs.length cap2, .int .i64 (peakV g cs).1, .int .i64 (peakV g cs).2, .int .i64 (g (peakV g cs).1 (peakV g cs).2)] 64)).append (a := (.slice (some ⟨G2, 0, none⟩) cs.length cap2, cs)) (own_below HA3.out ((Below.refl _ _).alloc (Nat.le_refl _) _)) hgrow hown')
      exact HN.out _ _ _ _ _ _ _ _ _ _ _ _ _ _ _ _ _ _ _ _ _ _ _ _ _ _ _ _ _ _ _ _ _ _ _ _ _ _ _ _ _ _ _ _ _ _ _ _ _ _ _ _ _ _ _ _ _ _ _ _ _ _ _ _ _ _ (Bs ++ [(x, (.slice (some ⟨G2, 0, none⟩) cs.length cap2, cs))]) _ (kk + cs.length) _ hlt HK5.out (by simp; exact HK2'.out) (by rw [List.map_append, doneF_add]; rw [List.length_map] at hJ5; exact hJ5) (HAD.out HD.out _ cs HAC.out)
    · rw [hd] at hlk
      have HD := Lib.hid hd; clear hd
      go_wp2_with fail
      exact HN.out _ _ _ _ _ _ _ _ _ _ _ _ _ _ _ _ _ _ _ _ _ _ _ _ _ _ _ _ _ _ _ _ _ _ _ _ _ _ _ _ _ _ _ _ _ _ _ _ _ _ _ _ _ _ _ _ _ _ _ _ _ _ _ _ _ _ Bs vo kk _ hlt HK1.out HK2.out HI1.out (HSK.out HD.out)
  · obtain rfl : i = P.length := by omega
    clear hI hS
    go_wp2
    exact HX.out _ _ _ _ _ _ _ _ _ _ _ _ _ _ _ _ _ _ _ _ _ _ _ _ _ _ _ _ _ _ _ _ _ _ _ _ _ _ _ _ _ _ _ _ _ _ _ _ _ _ _ _ _ _ _ _ _ _ _ _ _ _ _ _ _ _ trivial
end Go.Proofs.YtjimdnmdnjhnjaaGreatDoor
