/- The round of the search for an area. -/
import Derived.Maps.OwnIn
import Derived.Test.YtjimdnmdnjhnjaaGreatDoorZgFaQ
namespace Go.Proofs.YtjimdnmdnjhnjaaGreatDoor
open Go.RowKit Go.Shelf

attribute [local go_sem] Oper.semAt_some
attribute [local irreducible] nbV

theorem cell_two_new (w : World) (x y : Value) (t : TypeId) : ∀ j u, [x, y][j]? = some u → (w.alloc (.cells #[x, y] t)).cell? ((⟨w.heap.size, 0, none⟩ : Addr).add j) = some u := by
  intro j u hj
  have hb := Blk.new w t #[x, y]
  match j, hj with
  | 0, hj => simp at hj; subst hj; exact hb.cell 0
  | 1, hj => simp at hj; subst hj; exact hb.cell 1
  | k + 2, hj => simp at hj
theorem map_ncells {H : Type} {P : Program} {k : TypeId} {R : Value → Option (DataW H × List MemPlace)} {D : DataW H} {W : World} {b n : Nat} (h : W.ownsMap P k R b n D) : ∃ o, W.heap[b]? = some o ∧ o.isCells = false ∧ o ≠ Obj.deferred (some []) := by
  obtain ⟨es, clock, h1, _⟩ := h
  exact ⟨_, h1, rfl, (fun e => by cases e)⟩
theorem FMap.ncells {W : World} {b n : Nat} {g : Int → Int → Int} (h : FMap W b n g) : ∃ o, W.heap[b]? = some o ∧ o.isCells = false ∧ o ≠ Obj.deferred (some []) := let ⟨_, h, _⟩ := h; map_ncells h
theorem BMap.ncells {W : World} {b n : Nat} {g : Int → Int → Bool} (h : BMap W b n g) : ∃ o, W.heap[b]? = some o ∧ o.isCells = false ∧ o ≠ Obj.deferred (some []) := let ⟨_, h, _⟩ := h; map_ncells h
theorem Blk.iscells {W : World} {g : Nat} {t : TypeId} {cs : Array Value} (h : Blk W g t cs) : ∃ o, W.heap[g]? = some o ∧ o.isCells = true ∧ o ≠ Obj.deferred (some []) := ⟨_, h, rfl, (fun e => by cases e)⟩
theorem own_iscells {W : World} {base e size n g : Nat} {v : Value} {xs : List Value} (h : W.ownsRow base e size v n xs) (hg : v.ownBlock = some g) : base ≤ g ∧ ∃ o, W.heap[g]? = some o ∧ o.isCells = true ∧ o ≠ Obj.deferred (some []) := by
  rcases h.2 with ⟨rfl, _⟩ | ⟨g', cap, cur, rfl, hb, hh, _⟩
  · simp [Value.ownBlock] at hg
  · have : g' = g := by simpa [Value.ownBlock] using hg
    subst this
    exact ⟨hb, _, hh, rfl, (fun e => by cases e)⟩
theorem ne_of_cells {W : World} {a b : Nat} {o o' : Obj} (h : W.heap[a]? = some o) (hc : o.isCells = true) (h' : W.heap[b]? = some o') (hc' : o'.isCells = false) : a ≠ b := by
  rintro rfl
  rw [h] at h'; cases h'; rw [hc] at hc'; cases hc'

/-- The memory of a round, without the set of the seen. -/
structure ArB (w : World) (b n B3 B4 B6 B7 B8 S : Nat) (g : Int → Int → Int) (level : Int) (corners : Bool) (k : Nat) (xs : List Value) (v : Value) (W : World) : Prop where
  b3 : Blk W B3 90 #[.map (some b)]
  b4 : Blk W B4 41 #[.int .i64 level, .bool corners]
  b6 : Blk W B6 64 #[.slice none 0 0, .int .i64 0, .int .i64 0, .int .i64 0]
  b7 : Blk W B7 96 #[.map (some S)]
  b8 : Blk W B8 64 #[v, .int .i64 0, .int .i64 0, .int .i64 0]
  hM : FMap W b n g
  row : W.ownsRow w.heap.size 62 2 v k xs
  below : Below w.heap.size w W
section
variable {w W W' : World} {b n S B3 B4 B6 B7 B8 k : Nat} {g : Int → Int → Int} {level : Int} {corners : Bool} {L : List (Int × Int)} {v : Value} {xs : List Value}
theorem ArI.base (h : ArI w b n S B3 B4 B6 B7 B8 g level corners L v W) : ArB w b n B3 B4 B6 B7 B8 S g level corners L.length (cellsC L) v W := ⟨h.b3, h.b4, h.b6, h.b7, h.b8, h.hM, h.row, h.below⟩
theorem ArB.of (h : ArB w b n B3 B4 B6 B7 B8 S g level corners L.length (cellsC L) v W) (hS : BMap W S L.length (fun x y => decide ((x, y) ∈ L))) : ArI w b n S B3 B4 B6 B7 B8 g level corners L v W := ⟨h.b3, h.b4, h.b6, h.b7, h.b8, h.hM, hS, h.row, h.below⟩
theorem ArB.gr (h : ArB w b n B3 B4 B6 B7 B8 S g level corners k xs v W) (hk : Gr W W') : ArB w b n B3 B4 B6 B7 B8 S g level corners k xs v W' :=
  ⟨h.b3.gr hk, h.b4.gr hk, h.b6.gr hk, h.b7.gr hk, h.b8.gr hk, h.hM.gr hk, own_below h.row hk, h.below.trans (Below.mono hk (Below.size h.below))⟩
theorem ArB.ncells (h : ArB w b n B3 B4 B6 B7 B8 S g level corners k xs v W) {row : Option Nat} (hg : W.grownBy W' row) (hr : ∀ r, row = some r → (w.heap.size ≤ r ∧ r ≠ b) ∧ ∃ o, W.heap[r]? = some o ∧ o.isCells = false) : ArB w b n B3 B4 B6 B7 B8 S g level corners k xs v W' := by
  have key : ∀ {G t cs}, Blk W G t cs → some G ≠ row := fun hb e => by
    obtain ⟨_, o, ho, hc⟩ := hr _ e.symm
    obtain ⟨o', ho', hc', _⟩ := hb.iscells
    exact ne_of_cells ho' hc' ho hc rfl
  refine ⟨h.b3.grown hg (key h.b3), h.b4.grown hg (key h.b4), h.b6.grown hg (key h.b6), h.b7.grown hg (key h.b7), h.b8.grown hg (key h.b8), h.hM.kept hg (fun e => (hr _ e.symm).1.2 rfl), h.row.kept hg ?_, h.below.grown hg (Below.size h.below) (fun r e => (hr r e).1.1)⟩
  rcases hv : v.ownBlock with _ | G
  · exact .inl rfl
  · refine .inr fun e => ?_
    obtain ⟨_, o, ho, hc⟩ := hr _ e.symm
    obtain ⟨_, o', ho', hc', _⟩ := own_iscells h.row hv
    exact ne_of_cells ho' hc' ho hc rfl
theorem ArB.append (h : ArB w b n B3 B4 B6 B7 B8 S g level corners k xs v W) (hb : b < w.heap.size) (h68 : B6 ≠ B8) (h8 : w.heap.size ≤ B8) {k' : Nat} {xs' : List Value} {v' : Value} (hg : W.grownBy W' v.ownBlock) (row' : W'.ownsRow w.heap.size 62 2 v' k' xs') :
    ArB w b n B3 B4 B6 B7 B8 S g level corners k' xs' v' (W'.setCell ⟨B8, 0, none⟩ v') := by
  have key : ∀ {G t cs}, Blk W G t cs → 62 ≠ t → Blk W' G t cs := fun hb hne => hb.grown hg (fun e => own_blk_ne h.row hb hne e.symm)
  have k8 := key h.b8 (by decide)
  refine ⟨(key h.b3 (by decide)).far (Blk.ne_ h.b3 h.b8 (by decide)) _, (key h.b4 (by decide)).far (Blk.ne_ h.b4 h.b8 (by decide)) _, (key h.b6 (by decide)).far h68 _, (key h.b7 (by decide)).far (Blk.ne_ h.b7 h.b8 (by decide)) _, ?_, ?_, ?_, ?_⟩
  · have := k8.set_ 0 v'
    simpa using this
  · refine FMap.setCell (h.hM.kept hg ?_) (show b ≠ B8 by omega) _
    exact own_ne h.row (.inl hb)
  · exact row'.kept (grownBy_setCell' _ _ _) (.inr (own_blk_ne row' k8 (by decide)))
  · refine (h.below.grown hg (Below.size h.below) (fun r e => (own_iscells h.row e).1)).grown (grownBy_setCell' _ _ _) (Nat.le_trans (Below.size h.below) hg.size) (fun r e => by cases e; exact h8)
end
/-- What holds within a round. -/
structure ArR (w : World) (b n B4 B6 B7 B8 S : Nat) (g : Int → Int → Int) (level : Int) (corners : Bool) (from_ : Int × Int) (i : Nat) (p : Int × Int) (Ba Z : Nat) (Ds : List Nat) (pre : List (Int × Int)) (W : World) : Prop where
  ar : ∃ L' v', ArI w b n S w.heap.size B4 B6 B7 B8 g level corners L' v' W ∧ (∀ k, v'.ownBlock = some k → k < Ba ∨ Z ≤ k) ∧ (L'.Nodup ∧ ∀ x ∈ L', abv g x.1 x.2 level = true) ∧ (pre <+: nb9 corners p → BfsIn g level corners from_ i p pre L')
  marks : Marks w.heap.size Ds W
  sz : Z ≤ W.heap.size
theorem ArR.cong {w W : World} {b n B4 B6 B7 B8 S i Ba Z : Nat} {g : Int → Int → Int} {level : Int} {corners : Bool} {from_ p : Int × Int} {Ds : List Nat} {pre pre' : List (Int × Int)} (e : pre = pre') (h : ArR w b n B4 B6 B7 B8 S g level corners from_ i p Ba Z Ds pre' W) : ArR w b n B4 B6 B7 B8 S g level corners from_ i p Ba Z Ds pre W := by rw [e]; exact h
theorem bfs_step {g : Int → Int → Int} {level : Int} {corners : Bool} {from_ p x : Int × Int} {i : Nat} {pre L L' : List (Int × Int)} (h : pre <+: nb9 corners p → BfsIn g level corners from_ i p pre L) (e : addN g level L x = L') (hp : pre ++ [x] <+: nb9 corners p) : BfsIn g level corners from_ i p (pre ++ [x]) L' := by
  rw [← e]
  exact (h ((List.prefix_append _ _).trans hp)).add x (hp.subset (by simp))
theorem addN_in {g : Int → Int → Int} {level : Int} {x : Int × Int} {L : List (Int × Int)} (h : x ∈ L) : addN g level L x = L := by unfold addN; rw [if_neg]; simp [h]
theorem addN_not {g : Int → Int → Int} {level : Int} {x : Int × Int} {L : List (Int × Int)} (h : abv g x.1 x.2 level = false) : addN g level L x = L := by unfold addN; rw [if_neg]; simp [h]
theorem addN_new {g : Int → Int → Int} {level : Int} {x : Int × Int} {L : List (Int × Int)} (h : x ∉ L) (h' : abv g x.1 x.2 level = true) : addN g level L x = L ++ [x] := by unfold addN; rw [if_pos]; simp [h, h']
theorem keeps_gr {B : Nat} {W W' : World} (h : Gr W W') : KeepsFrom B W W' := ⟨Below.size h, fun k _ _ hk _ => (h.block k (Array.getElem?_eq_some_iff.1 hk).1).trans hk⟩
theorem KN.gr {Bc Ba : Nat} {W W' : World} (h : Gr W W') (hc : Bc < W.heap.size) (ha : Ba < W.heap.size) : KN Bc Ba W W' := ⟨h.block _ hc, h.block _ ha⟩
theorem KN.grown {Bc Ba : Nat} {W W' : World} {row : Option Nat} (h : W.grownBy W' row) (hc : Bc < W.heap.size) (ha : Ba < W.heap.size) (nc : some Bc ≠ row) (na : some Ba ≠ row) : KN Bc Ba W W' := ⟨h.block _ hc nc, h.block _ ha na⟩
theorem set_add (L : List (Int × Int)) (r c : Int) : (fun x y => decide ((x, y) ∈ L ++ [(r, c)])) = upd (fun x y => decide ((x, y) ∈ L)) r c true := by
  funext x y
  unfold upd
  by_cases h : x = r ∧ y = c
  · rw [if_pos h]; simp [h]
  · rw [if_neg h]
    have : ¬ ((x, y) = (r, c)) := fun e => h (by simpa using e)
    simp [this]
theorem infoCell : (Tryz.prog.info? 62).map (fun i => (i.zero, i.size, i.bytes)) = some (some (.agg #[.int .i64 0, .int .i64 0]), 2, 16) := by kernel_rfl

set_option maxRecDepth 100000 in
set_option maxHeartbeats 4000000 in
theorem area_round (b n S B4 B6 B7 B8 : Nat) (g : Int → Int → Int) (level : Int) (corners : Bool) (from_ : Int × Int) (w : World) (hn : n ≤ 100000) (hb : b < w.heap.size) (h68 : B6 ≠ B8) (hkn : Hid (∀ x y, 0 ≤ g x y → (-100000 ≤ x ∧ x ≤ 100023) ∧ (-100000 ≤ y ∧ y ≤ 100023))) (ha : Hid (abv g from_.1 from_.2 level = true))
    (q6 : w.heap.size ≤ B6 ∧ w.heap.size ≤ B8 ∧ w.heap.size ≤ S ∧ w.heap.size ≤ B7) (i : Nat) (L : List (Int × Int)) (v : Value) (Ds : List Nat) (wr : World) (hBf : Bfs g level corners from_ i L) (hAI : ArI w b n S w.heap.size B4 B6 B7 B8 g level corners L v wr) (hMk : Marks w.heap.size Ds wr)
    (K' : Act → World → Prop) (Q' : Exit → Act → World → Prop) {t0 t1 t2 t5 t10 t11 t12 t13 t14 t15 t16 t17 t18 t19 t20 t21 t22 t23 t24 t25 t26 t27 t28 t29 t30 t31 t32 t33 t34 t35 t36 t37 t38 t39 t40 t41 t42 t43 t44 t45 t46 t47 t48 t49 t50 t51 t52 t53 t54 t55 t56 t57 t58 t59 t60 t61 t62 t63 t64 t65 t66 t67 t68 t69 t70 t71 t72 t73 t74 t75 t76 t77 t78 t79 t80 t81 t82 t83 t84 t85 : Value}
    (hnext : ∀ (t0 t1 t2 t5 t10 t11 t12 t13 t14 t15 t16 t17 t18 t19 t20 t21 t22 t23 t24 t25 t26 t27 t28 t29 t30 t31 t32 t33 t34 t35 t36 t37 t38 t39 t40 t41 t42 t43 t44 t45 t46 t47 t48 t49 t50 t51 t52 t53 t54 t55 t56 t57 t58 t59 t60 t61 t62 t63 t64 t65 t66 t67 t68 t69 t70 t71 t72 t73 t74 t75 t76 t77 t78 t79 t80 t81 t82 t83 t84 t85 : Value) (L : List (Int × Int)) (v : Value) (Ds : List Nat) (wr : World), i + 1 ≤ n → Bfs g level corners from_ (i + 1) L → ArI w b n S w.heap.size B4 B6 B7 B8 g level corners L v wr → Marks w.heap.size Ds wr → K' ⟨#[t0, t1, t2, .pointer (some ⟨w.heap.size, 0, none⟩), .pointer (some ⟨B4, 0, none⟩), t5, .pointer (some ⟨B6, 0, none⟩), .pointer (some ⟨B7, 0, none⟩), .pointer (some ⟨B8, 0, none⟩), .int .i64 ((i + 1 : Nat) : Int), t10, t11, t12, t13, t14, t15, t16, t17, t18, t19, t20, t21, t22, t23, t24, t25, t26, t27, t28, t29, t30, t31, t32, t33, t34, t35, t36, t37, t38, t39, t40, t41, t42, t43, t44, t45, t46, t47, t48, t49, t50, t51, t52, t53, t54, t55, t56, t57, t58, t59, t60, t61, t62, t63, t64, t65, t66, t67, t68, t69, t70, t71, t72, t73, t74, t75, t76, t77, t78, t79, t80, t81, t82, t83, t84, t85], marksOf Ds⟩ wr)
    (hexit : ∀ (t0 t1 t2 t5 t10 t11 t12 t13 t14 t15 t16 t17 t18 t19 t20 t21 t22 t23 t24 t25 t26 t27 t28 t29 t30 t31 t32 t33 t34 t35 t36 t37 t38 t39 t40 t41 t42 t43 t44 t45 t46 t47 t48 t49 t50 t51 t52 t53 t54 t55 t56 t57 t58 t59 t60 t61 t62 t63 t64 t65 t66 t67 t68 t69 t70 t71 t72 t73 t74 t75 t76 t77 t78 t79 t80 t81 t82 t83 t84 t85 : Value), Bfs g level corners from_ L.length L → Q' (.exit 0) ⟨#[t0, t1, t2, .pointer (some ⟨w.heap.size, 0, none⟩), .pointer (some ⟨B4, 0, none⟩), t5, .pointer (some ⟨B6, 0, none⟩), .pointer (some ⟨B7, 0, none⟩), .pointer (some ⟨B8, 0, none⟩), .int .i64 (i : Int), t10, t11, t12, t13, t14, t15, t16, t17, t18, t19, t20, t21, t22, t23, t24, t25, t26, t27, t28, t29, t30, t31, t32, t33, t34, t35, t36, t37, t38, t39, t40, t41, t42, t43, t44, t45, t46, t47, t48, t49, t50, t51, t52, t53, t54, t55, t56, t57, t58, t59, t60, t61, t62, t63, t64, t65, t66, t67, t68, t69, t70, t71, t72, t73, t74, t75, t76, t77, t78, t79, t80, t81, t82, t83, t84, t85], marksOf Ds⟩ wr) :
    (bodyOf Tryz.f36 0).wp Tryz.prog (Exit.then K' Q') ⟨#[t0, t1, t2, .pointer (some ⟨w.heap.size, 0, none⟩), .pointer (some ⟨B4, 0, none⟩), t5, .pointer (some ⟨B6, 0, none⟩), .pointer (some ⟨B7, 0, none⟩), .pointer (some ⟨B8, 0, none⟩), .int .i64 (i : Int), t10, t11, t12, t13, t14, t15, t16, t17, t18, t19, t20, t21, t22, t23, t24, t25, t26, t27, t28, t29, t30, t31, t32, t33, t34, t35, t36, t37, t38, t39, t40, t41, t42, t43, t44, t45, t46, t47, t48, t49, t50, t51, t52, t53, t54, t55, t56, t57, t58, t59, t60, t61, t62, t63, t64, t65, t66, t67, t68, t69, t70, t71, t72, t73, t74, t75, t76, t77, t78, t79, t80, t81, t82, t83, t84, t85], marksOf Ds⟩ wr := by
  have HN := Lib.hid hnext; have HX := Lib.hid hexit
  clear hnext hexit
  conv in (bodyOf _ _) => whnf
  have e8 := hAI.b8
  obtain ⟨c80, c81, c82, c83, f8⟩ := blk4 e8
  have l8 := e8.lt
  have hrow := hAI.row
  by_cases hlt : i < L.length
  · obtain ⟨G, cap, rfl, hG, hGl⟩ := hrow.form (by omega)
    obtain ⟨p0, p1⟩ := rowCell hrow hlt
    have hcn := hBf.conn _ (List.getElem_mem hlt)
    obtain ⟨ga, _⟩ := (abv_iff _ _ _ _).1 (hcn.abv ha.out)
    obtain ⟨hpr, hpc⟩ := hkn.out _ _ ga
    have hBI := Lib.hid (hBf.enter hlt)
    have hlen : L.length ≤ n := hAI.hM.count hBf.nodup (fun x hx => by
      obtain ⟨gx, _⟩ := (abv_iff _ _ _ _).1 ((hBf.conn x hx).abv ha.out)
      obtain ⟨a1, a2⟩ := hkn.out _ _ gx
      exact ⟨gx, by unfold W64; omega, by unfold W64; omega⟩)
    obtain ⟨p, hp⟩ : ∃ p, L[i] = p := ⟨_, rfl⟩
    rw [hp] at p0 p1 hpr hpc hBI
    clear hp ga hcn
    have e4 := hAI.b4
    obtain ⟨c40, c41, _⟩ := blk2c e4
    have l4 := e4.lt
    go_wp2_with fail
    refine wp_region_b 7 (by kernel_rfl) (by kernel_rfl) ?_; simp only [List.take, List.drop]
    repeat (first
      | (apply StepsD.run
         · go_simp
           done
         · intro w' hS K hK
           have hc := (bcell hS).1
           have hf := (bcell hS).2
           have hz := hS.size
           try simp at hz
           go_simp
           try go_bits
           first
             | exact hK _ hS
             | exact hK _ (by repeat (first | (with_reducible exact Below.refl _ _) | (with_reducible assumption) | ((with_reducible refine Below.setCell ?_ ?_ _); rotate_left; · (first | exact Nat.le_refl _ | (simp; done) | (simp; omega) | omega)) | ((with_reducible refine Below.alloc ?_ ?_ _); rotate_left; · (first | exact Nat.le_refl _ | (simp; done) | (simp; omega) | omega)) | (with_reducible apply Below.drew) | (with_reducible apply below_drewN') | (refine Below.trans ?_ (Below.mono (by assumption) (by first | exact Nat.le_refl _ | (simp; done) | (simp; omega) | omega))) | exact Below.refl _ _ | assumption))
         · simp [Act.put]
           done)
      | (apply StepsD.pass
         · go_simp
           done
         · simp only [Act.put, List.setIfInBounds_toArray, List.set_cons_succ, List.set_cons_zero]
           rfl))
    refine StepsD.done ?_
    intro w1 hS1
    have hAI1 := hAI.gr hS1
    have hMk1 := hMk.gr hS1
    go_wp2_with fail
    refine (neighbours_any _ _ _ _).mono ?_
    rintro e w2 ⟨rfl, rfl⟩
    go_wp2_with fail
    have ka := (Blk.new w1 62 #[.int .i64 p.1, .int .i64 p.2]).alloc (.cells #[.bool corners] 4)
    have kc := Blk.new (w1.alloc (.cells #[.int .i64 p.1, .int .i64 p.2] 62)) 4 #[.bool corners]
    have hAI2 := (hAI1.alloc (.cells #[.int .i64 p.1, .int .i64 p.2] 62)).alloc (.cells #[.bool corners] 4)
    have hMk2 := (hMk1.alloc (.cells #[.int .i64 p.1, .int .i64 p.2] 62)).alloc (.cells #[.bool corners] 4)
    have hsz : ((w1.alloc (.cells #[.int .i64 p.1, .int .i64 p.2] 62)).alloc (.cells #[.bool corners] 4)).heap.size = w1.heap.size + 1 + 1 := by simp
    rw [World.size_alloc] at kc
    obtain ⟨W0, hW0⟩ : ∃ W0, (w1.alloc (.cells #[.int .i64 p.1, .int .i64 p.2] 62)).alloc (.cells #[.bool corners] 4) = W0 := ⟨_, rfl⟩
    rw [hW0] at ka kc hAI2 hMk2 hsz ⊢
    have hSl1 := hAI1.hS.lt
    have l81 := hAI1.b8.lt
    clear hW0 hAI1 hMk1 hAI hMk hrow e8 e4 c80 c81 c82 c83 f8 c40 c41 p0 p1
    have hlt0 : ∀ D ∈ Ds, D < W0.heap.size := fun D hD => hMk2.lt hD
    have hzz := Below.size hAI2.below
    have hSl := hAI2.hS.lt
    refine wpIn_wide.1 (wpIn_rangeFunc_ownH (n := 5) rfl (by omega) (gf := 108) (lb := #[.pointer (some ⟨w1.heap.size + 1, 0, none⟩), .pointer (some ⟨w1.heap.size, 0, none⟩)]) rfl trivial (enters_of Tryz.func108 (by kernel_rfl) rfl)
      (nb_stops Fence.wide 4 trivial rfl (by omega) (w1.heap.size + 1) w1.heap.size p.1 p.2 corners (by omega) (by omega) W0 (by omega) (by omega) (kc.cell 0) (ka.cell 0) (ka.cell 1)) KN.trans (fun W l o o' hl _ _ _ => ⟨World.putObj_heap_other (by omega), World.putObj_heap_other (by omega)⟩) (Below.refl _ _) (fun _ => rfl)
      (fun pre W => ArR w b n B4 B6 B7 B8 S g level corners from_ i p w1.heap.size (w1.heap.size + 1 + 1) Ds (pre.map (·.1)) W)
      (fun _ _ _ => False) ?hI (fun _ _ _ _ _ hs _ _ => hs) ?h0
      (fun x a' W => ∃ Bx, W0.heap.size ≤ Bx ∧ Blk W Bx 62 #[.int .i64 x.1.1, .int .i64 x.1.2] ∧ a' = ⟨#[t0, t1, t2, .pointer (some ⟨w.heap.size, 0, none⟩), .pointer (some ⟨B4, 0, none⟩), t5, .pointer (some ⟨B6, 0, none⟩), .pointer (some ⟨B7, 0, none⟩), .pointer (some ⟨B8, 0, none⟩), .int .i64 (i : Int), .pointer (some ⟨Bx, 0, none⟩), t11, t12, t13, t14, t15, t16, t17, t18, .int .i64 (i : Int), .pointer (some ⟨B8, 0, none⟩), .slice (some ⟨G, 0, none⟩) L.length cap, .int .i64 (L.length : Int), .bool true, t24, t25, .pointer (some ⟨B8, 0, none⟩), .slice (some ⟨G, 0, none⟩) L.length cap, .int .i64 (i : Int), .pointer (some ⟨G, i * 2, none⟩), .agg #[.int .i64 p.1, .int .i64 p.2], .pointer (some ⟨B4, 1, none⟩), .bool corners, .func (.func 108) #[] #[.pointer (some ⟨w1.heap.size + 1, 0, none⟩), .pointer (some ⟨w1.heap.size, 0, none⟩)], .agg #[.int .i64 x.1.1, .int .i64 x.1.2], t35, t36, t37, t38, t39, t40, t41, t42, t43, t44, t45, t46, t47, t48, t49, t50, t51, t52, t53, t54, t55, t56, t57, t58, t59, t60, t61, t62, t63, t64, t65, t66, t67, t68, t69, t70, t71, t72, t73, t74, t75, t76, t77, t78, t79, t80, t81, t82, t83, t84, t85], []⟩) ?hAx ?assign ?body ?done ?stop)
    case hI =>
      rintro pre X Y row ⟨⟨L', v', hA, hne, hq, hbf⟩, hm, hz⟩ hg hr
      exact ⟨⟨L', v', (hA.base.ncells hg (fun r e => ⟨⟨by have := (hr r e).1; omega, by have := (hr r e).1; omega⟩, (hr r e).2⟩)).of (hA.hS.kept hg (fun e => by have := (hr _ e.symm).1; omega)), hne, hq, hbf⟩,
        ownFrom_marks (β := Unit) w.heap.size W0.heap.size Ds hlt0 () X Y row hm hg hr, Nat.le_trans hz hg.size⟩
    case h0 => exact ⟨⟨L, _, hAI2, fun k e => by (have := Below.size hS1; simp [Value.ownBlock] at e; omega), ⟨hBI.out.nodup, fun x hx => (hBI.out.conn x hx).abv ha.out⟩, fun _ => hBI.out⟩, hMk2, by omega⟩
    case hAx =>
      rintro x a' _ X Y row ⟨Bx, h1, h2, h3⟩ hg hr
      exact ⟨Bx, h1, h2.grown hg (fun e => by
        obtain ⟨_, o, ho, hc⟩ := hr _ e.symm
        obtain ⟨o', ho', hc', _⟩ := h2.iscells
        exact ne_of_cells ho' hc' ho hc rfl), h3⟩
    case assign =>
      intro l pre x W K hIp hK
      dsimp only [List.zip_cons_cons]
      gi_wp2
      obtain ⟨⟨L', v', hA, hne, hq, hbf⟩, hm, hz⟩ := hIp
      exact hK _ _ ((KeepsOthers.alloc _ _).from _) ⟨Below.heap_alloc _ _ _ (by omega), Below.heap_alloc _ _ _ (by omega)⟩ ⟨⟨L', v', hA.alloc _, hne, hq, hbf⟩, hm.alloc _, by simp; omega⟩ ⟨W.heap.size, by omega, Blk.new _ _ _, rfl⟩
    case body =>
      rintro l pre x a' W hl hrl ⟨⟨L', v', hA, hne, hq, hbf⟩, hm, hz⟩ ⟨Bx, hBx, bx, rfl⟩ hN
      dsimp only
      have e7 := hA.b7; have e8 := hA.b8; have e3 := hA.b3; have e4 := hA.b4
      have c7 := e7.cell 0; have c3 := e3.cell 0
      obtain ⟨c80, c81, c82, c83, f8⟩ := blk4 e8
      obtain ⟨c40, c41, _⟩ := blk2c e4
      obtain ⟨cx0, cx1, _⟩ := blk2c bx
      have l7 := e7.lt; have l8' := e8.lt; have l3 := e3.lt; have l4' := e4.lt; have lx := bx.lt
      obtain ⟨⟨x1, x2⟩, hxb⟩ := x
      dsimp only at cx0 cx1 bx hxb ⊢
      have w1' : W64 x1 := by unfold W64; omega
      have w2' : W64 x2 := by unfold W64; omega
      have hlook := hA.hS.look Tryz.underlying96 w1' w2'
      have hlen' : L'.length ≤ n := hA.hM.count hq.1 (fun x hx => by
        obtain ⟨gx, _⟩ := (abv_iff _ _ _ _).1 (hq.2 x hx)
        obtain ⟨a1, a2⟩ := hkn.out _ _ gx
        exact ⟨gx, by unfold W64; omega, by unfold W64; omega⟩)
      have HX := Lib.hid hbf; have HQ := Lib.hid hq; have HA := Lib.hid hA; have HM := Lib.hid hm
      have HE : Hid (List.map (fun x : Cel => x.1) (pre ++ [⟨(x1, x2), hxb⟩]) = List.map (fun x : Cel => x.1) pre ++ [(x1, x2)]) := Lib.hid (by simp)
      have HNE := Lib.hid hne
      clear hbf hq hm hA hne hN
      by_cases hin : (x1, x2) ∈ L'
      · have hd : decide ((x1, x2) ∈ L') = true := by simpa using hin
        rw [hd] at hlook
        have HIN := Lib.hid hin; clear hin hd
        gi_wp2_with (refine ⟨trivial, ?_⟩)
        exact ⟨KeepsFrom.refl _ _, KN.refl _ _ _, ArR.cong HE.out ⟨⟨L', v', HA.out, HNE.out, HQ.out, bfs_step HX.out (addN_in HIN.out)⟩, HM.out, hz⟩⟩
      · have hd : decide ((x1, x2) ∈ L') = false := by simpa using hin
        rw [hd] at hlook
        have HIN := Lib.hid hin; clear hin hd
        cases hab : abv g x1 x2 level
        · have HAB := Lib.hid hab
          gi_wp2_with (refine ⟨trivial, ?_⟩; gi_at_call 33; refine (CallsIn.inRound l (callsIn_wide.2 (above_any b n g x1 x2 level W HA.out.hM w1' w2'))).mono ?_; rintro e W2 ⟨rfl, hB2⟩; rw [HAB.out])
          have hne2 := Below.size hB2
          exact ⟨keeps_gr hB2, KN.gr hB2 (by omega) (by omega), ArR.cong HE.out ⟨⟨L', v', HA.out.gr hB2, HNE.out, HQ.out, bfs_step HX.out (addN_not HAB.out)⟩, HM.out.gr hB2, by omega⟩⟩
        · have HAB := Lib.hid hab
          obtain ⟨i0, hi, hz0, hz1, hz2⟩ := info_parts infoCell
          gi_wp2_with fail
          refine ⟨trivial, ?_⟩
          gi_at_call 33
          refine (CallsIn.inRound l (callsIn_wide.2 (above_any b n g x1 x2 level W HA.out.hM w1' w2'))).mono ?_
          rintro e W2 ⟨rfl, hB2⟩
          rw [HAB.out]
          have hne2 := Below.size hB2
          obtain ⟨W3, hput, hS3, hg3⟩ := (HA.out.gr hB2).hS.put Tryz.underlying96 (by unfold maxLen; omega) true w1' w2'
          have hJ3 := ((HA.out.gr hB2).base.ncells hg3 (fun r e => by cases e; exact ⟨⟨by omega, by omega⟩, (HA.out.gr hB2).hS.ncells.imp fun _ h => ⟨h.1, h.2.1⟩⟩))
          have k7 := ((e7.gr hB2).cell 0)
          have bx3 := ((bx.gr hB2).grown hg3 (fun e => by have := Option.some.inj e; omega))
          obtain ⟨y0, y1, _⟩ := blk2c bx3
          have kx := blk2c (bx.gr hB2)
          obtain ⟨kx0, kx1, _⟩ := kx
          have g8 := hJ3.b8
          obtain ⟨k80, k81, k82, k83, kf8⟩ := blk4 g8
          gi_wp2_with (gi_at_builtin; refine RowKit.Hid.out ?_)
          refine Lib.hid ?_
          refine wpListIn_append_own_at _ rfl _ _ 61 rfl w.heap.size 62 i0 (.agg #[.int .i64 0, .int .i64 0]) 2 16 Tryz.underlying61 hi hz0 hz1 hz2 rfl (by decide) _ _ _ rfl (hJ3.row.alloc _) ⟨W3.heap.size, 0, none⟩ 1 1 [.int .i64 x1, .int .i64 x2] rfl rfl (cell_two_new _ _ _ _) (by simp [Value.oneCell']) (by unfold maxLen; omega) (by omega) (by have := Below.size hJ3.below; simp; omega) ?_
          intro v2 W5 hown' hgrow _ hob
          obtain ⟨g5, cap5, rfl⟩ := ownsRow_succ hown'
          have q8 := ((g8.alloc (.cells #[.int .i64 x1, .int .i64 x2] 62)).grown hgrow (fun e => own_blk_ne hJ3.row g8 (by decide) e.symm))
          obtain ⟨q80, q81, q82, q83, qf8⟩ := blk4 q8
          gi_wp2_with fail
          have hal : Gr W3 (W3.alloc (.cells #[.int .i64 x1, .int .i64 x2] 62)) := (Below.refl _ _).alloc (Nat.le_refl _) _
          have hJ5 := (hJ3.gr hal).append hb h68 q6.2.1 hgrow hown'
          have own3 := (hJ3.gr hal).row
          have hs3 := Nat.le_trans (by simp : W3.heap.size ≤ _) hgrow.size
          have hs2 := hg3.size
          have nS : some S ≠ v'.ownBlock := fun e => by
            obtain ⟨_, o, ho, hc, _⟩ := own_iscells own3 e.symm
            obtain ⟨o', ho', hc', _⟩ := (hS3.gr hal).ncells
            exact ne_of_cells ho hc ho' hc' rfl
          have n8 : S ≠ B8 := fun e => by
            obtain ⟨o, ho, hc, _⟩ := hJ3.b8.iscells
            obtain ⟨o', ho', hc', _⟩ := hS3.ncells
            exact ne_of_cells ho hc ho' hc' e.symm
          have hS5 := ((hS3.gr hal).kept hgrow nS).setCell (a := ⟨B8, 0, none⟩) n8 (.slice (some ⟨g5, 0, none⟩) (L'.length + 1) cap5)
          have e1 : (L' ++ [(x1, x2)]).length = L'.length + 1 := by simp
          have e2 := cellsC_snoc L' (x1, x2)
          have hk := HNE.out
          have hm5 := ((((HM.out.gr hB2).grown hg3 (fun r o e ho => by
              cases e
              obtain ⟨o', ho', _, h3⟩ := (HA.out.gr hB2).hS.ncells
              exact ⟨o', ho', h3⟩)).gr hal).grown hgrow (fun r o e ho => by
              obtain ⟨_, o', ho', _, h3⟩ := own_iscells own3 e
              exact ⟨o', ho', h3⟩)).setCell q8 (o := 0) (.slice (some ⟨g5, 0, none⟩) (L'.length + 1) cap5)
          refine ⟨?_, ?_, ArR.cong HE.out ⟨⟨L' ++ [(x1, x2)], _, ArB.of (by rw [e1, e2]; exact hJ5) (by rw [e1, set_add]; exact hS5), ?_, ⟨?_, ?_⟩, bfs_step HX.out (addN_new HIN.out HAB.out)⟩, hm5, ?_⟩⟩
          · refine (keeps_gr hB2).trans ((KeepsFrom.of_grownBy hg3 (fun j e => by cases e; exact hSl)).trans ((keeps_gr hal).trans (((KeepsOthers.of_grownBy hgrow (fun j o e ho => ?_)).from _).trans ((KeepsOthers.setCell _ _ _).from _))))
            obtain ⟨_, o', ho', hc, _⟩ := own_iscells own3 e
            rw [ho] at ho'; cases ho'; exact hc
          · refine (KN.gr hB2 (by omega) (by omega)).trans ((KN.grown hg3 (by omega) (by omega) (fun e => by have := Option.some.inj e; omega) (fun e => by have := Option.some.inj e; omega)).trans ((KN.gr hal (by omega) (by omega)).trans ((KN.grown hgrow (by simp; omega) (by simp; omega) (fun e => by have := hk _ e.symm; omega) (fun e => by have := hk _ e.symm; omega)).trans
              ⟨Below.heap_setCell _ _ _ _ (by simp only; omega), Below.heap_setCell _ _ _ _ (by simp only; omega)⟩)))
          · intro k e
            rcases hob with h | h
            · rw [h] at e; exact hk k e
            · rw [h] at e; have := Option.some.inj e; simp at this; omega
          · have h1 := HQ.out.1
            have h2 := HIN.out
            rw [List.nodup_append]
            exact ⟨h1, by simp, fun a ha b hb => by simp at hb; subst hb; exact fun e => h2 (e ▸ ha)⟩
          · intro x hx
            rcases List.mem_append.1 hx with hx | hx
            · exact HQ.out.2 x hx
            · simp at hx; subst hx; exact HAB.out
          · simp; omega
    case done =>
      rintro D xs W hD hxs ⟨⟨L', v', hA, hne, hq, hbf⟩, hm, hz⟩ hdf
      have hbl : Bfs g level corners from_ (i + 1) L' := BfsIn.leave (by have := hbf (by rw [hxs]; exact List.prefix_refl _); rw [hxs] at this; exact this)
      have hbl' := Lib.hid hbl
      have HMC : Hid (Marks w.heap.size (D :: Ds) W) := Lib.hid (hm.cons hlt0 hD (by omega) hdf)
      have HA := Lib.hid hA
      have HL : Hid (i + 1 ≤ n) := Lib.hid (by omega)
      clear hbl hm hA hne hq hbf hdf hxs
      dsimp only
      go_wp2_with fail
      exact HN.out _ _ _ _ _ _ _ _ _ _ _ _ _ _ _ _ _ _ _ _ _ _ _ _ _ _ _ _ _ _ _ _ _ _ _ _ _ _ _ _ _ _ _ _ _ _ _ _ _ _ _ _ _ _ _ _ _ _ _ _ _ _ _ _ _ _ _ _ _ _ _ _ _ _ _ _ _ _ _ _ L' v' (D :: Ds) _ HL.out hbl'.out HA.out HMC.out
    case stop => exact fun _ _ _ _ _ _ h _ => h.elim
  · have hXL := hBf.le
    obtain rfl : i = L.length := by omega
    have HBF := Lib.hid hBf
    clear hBf
    rcases hrow.2 with ⟨rfl, h0⟩ | ⟨G, cap, cur, rfl, _⟩
    · have h1 := HBF.out.has
      have h2 := cellsC_len L
      rw [h0] at h2
      have h3 : L.length = 0 := by simp at h2; omega
      rw [List.length_eq_zero_iff.1 h3] at h1; cases h1
    · go_wp2
      exact HX.out _ _ _ _ _ _ _ _ _ _ _ _ _ _ _ _ _ _ _ _ _ _ _ _ _ _ _ _ _ _ _ _ _ _ _ _ _ _ _ _ _ _ _ _ _ _ _ _ _ _ _ _ _ _ _ _ _ _ _ _ _ _ _ _ _ _ _ _ _ _ _ _ _ _ _ _ _ _ _ _ HBF.out
end Go.Proofs.YtjimdnmdnjhnjaaGreatDoor
