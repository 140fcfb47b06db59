/- Contract: flaw.CheckCover, one mark of the first list. Contract: flaw.CheckCover. Contract: flaw.CheckCover, whole. Regions of the law FlawClaims: the lists are copied and checked. A region of the law FlawClaims: the lists and pairs are copied and checked. -/
import Derived.Laws.AppendOwnNone
import Derived.Test.YtidgeagpgllkeaaGreatZdFpG
import Derived.Test.YtidgeagpgllkeaaGreatZdFpN
import Derived.Test.YtidgeagpgllkeaaGreatZdFiB
namespace Go.Proofs.YtidgeagpgllkeaaGreat
open Go.RowKit Go.Shelf

attribute [local go_sem] Oper.semAt_some

/-- What lies in memory while a cover is checked. -/
structure CcM (V : World) (q z5 z6 z7 B n₀ : Nat) (l0 l1 : List Mk) (A0 A1 AF AS : Option Addr) (c0 c1 cF cS : Nat) (slack : Int) (v0 v1 : Value) (Fl Sl : List Int) : Prop where
  box : Blk V q 200 #[.slice A0 l0.length c0, .slice A1 l1.length c1, .int .i64 slack, v0, v1]
  r0 : Row V B 6 A0 l0.length (mksC l0)
  r1 : Row V B 6 A1 l1.length (mksC l1)
  b5 : Blk V z5 126 #[.slice AF Fl.length cF, .slice AS Sl.length cS]
  rF : Row V B 1 AF Fl.length (intsC Fl)
  rS : Row V B 1 AS Sl.length (intsC Sl)
  b6 : Blk V z6 3 #[.int .i64 0]
  b7 : Blk V z7 32 #[.int .i64 0]
  base : B ≤ V.heap.size
  low6 : n₀ ≤ z6
  low7 : n₀ ≤ z7
  low : n₀ ≤ V.heap.size
theorem CcM.gr {V W : World} {q z5 z6 z7 B n₀ : Nat} {l0 l1 : List Mk} {A0 A1 AF AS : Option Addr} {c0 c1 cF cS : Nat} {slack : Int} {v0 v1 : Value} {Fl Sl : List Int} (h : CcM V q z5 z6 z7 B n₀ l0 l1 A0 A1 AF AS c0 c1 cF cS slack v0 v1 Fl Sl) (g : Gr V W) : CcM W q z5 z6 z7 B n₀ l0 l1 A0 A1 AF AS c0 c1 cF cS slack v0 v1 Fl Sl :=
  ⟨h.box.gr g, h.r0.below g h.base, h.r1.below g h.base, h.b5.gr g, h.rF.below g h.base, h.rS.below g h.base, h.b6.gr g, h.b7.gr g, Nat.le_trans h.base (Below.size g), h.low6, h.low7, Nat.le_trans h.low (Below.size g)⟩
theorem below_grown {V W W' : World} {B : Nat} {row : Option Nat} (h : Below V.heap.size V W) (hg : W.grownBy W' row) (hr : ∀ r, row = some r → B ≤ r) (hB : V.heap.size ≤ B) : Below V.heap.size V W' := h.grown hg (Below.size h) (fun r e => Nat.le_trans hB (hr r e))

set_option maxRecDepth 100000 in
set_option maxHeartbeats 8000000 in
theorem ccRound {V : World} {z3 q z5 z6 z7 B n₀ : Nat} {l0 l1 : List Mk} {A0 A1 AF AS : Option Addr} {c0 c1 cF cS : Nat} {slack : Int} {v0 v1 : Value} {Fl Sl : List Int} (M : CcM V q z5 z6 z7 B n₀ l0 l1 A0 A1 AF AS c0 c1 cF cS slack v0 v1 Fl Sl) (hn0 : l0.length ≤ 1000) (hn1 : l1.length ≤ 1000) (hF : Fl.length ≤ 1000000) (hS : Sl.length ≤ 1000000) (HS0 : Hid (∀ m ∈ l0, MkS m)) (HS1 : Hid (∀ m ∈ l1, MkS m)) (i : Nat) (hi : i ≤ l0.length) (Ds : List Nat) (wr : World) (hG : Gr V wr) (hMk : Marks n₀ Ds wr)
    (K' : Act → World → Prop) (Q' : Exit → Act → World → Prop) {t0 t1 t2 t4 t9 t10 t11 t12 t13 t14 t15 t16 t17 t18 t19 t20 t21 t22 t23 t24 t25 t26 t27 t28 t29 t30 t31 t32 t33 t34 t35 t36 t37 t38 t39 t40 t41 t42 t43 t44 t45 t46 t47 t48 t49 t50 t51 t52 t53 t54 t55 t56 t57 t58 t59 t60 t61 t62 t63 t64 t65 t68 t69 t70 t71 t72 t73 t74 t75 t76 t77 t78 t79 t80 t81 t82 t83 t84 t85 t86 t87 t88 t89 t90 t91 t92 t93 : Value}
    (hnext : ∀ (t0 t1 t2 t4 t9 t10 t11 t12 t13 t14 t15 t16 t17 t18 t19 t20 t21 t22 t23 t24 t25 t26 t27 t28 t29 t30 t31 t32 t33 t34 t35 t36 t37 t38 t39 t40 t41 t42 t43 t44 t45 t46 t47 t48 t49 t50 t51 t52 t53 t54 t55 t56 t57 t58 t59 t60 t61 t62 t63 t64 t65 t68 t69 t70 t71 t72 t73 t74 t75 t76 t77 t78 t79 t80 t81 t82 t83 t84 t85 t86 t87 t88 t89 t90 t91 t92 t93 : Value) (Ds : List Nat) (wr : World), i < l0.length → (∀ k : Nat, k < l1.length → openB (relV l0 l1 slack) Fl Sl (i : Int) (k : Int) = false) → Gr V wr → Marks n₀ Ds wr → K' ⟨#[t0, t1, t2, .pointer (some ⟨z3, 0, none⟩), t4, .pointer (some ⟨z5, 0, none⟩), .pointer (some ⟨z6, 0, none⟩), .pointer (some ⟨z7, 0, none⟩), .pointer (some ⟨q, 0, none⟩), t9, t10, t11, t12, t13, t14, t15, t16, t17, t18, t19, t20, t21, t22, t23, t24, t25, t26, t27, t28, t29, t30, t31, t32, t33, t34, t35, t36, t37, t38, t39, t40, t41, t42, t43, t44, t45, t46, t47, t48, t49, t50, t51, t52, t53, t54, t55, t56, t57, t58, t59, t60, t61, t62, t63, t64, t65, .int .i64 l0.length, .int .i64 ((i + 1 : Nat) : Int), t68, t69, t70, t71, t72, t73, t74, t75, t76, t77, t78, t79, t80, t81, t82, t83, t84, t85, t86, t87, t88, t89, t90, t91, t92, t93], marksOf Ds⟩ wr)
    (hret : ∀ (t0 t1 t2 t4 t9 t10 t11 t12 t13 t14 t15 t16 t17 t18 t19 t20 t21 t22 t23 t24 t25 t26 t27 t28 t29 t30 t31 t32 t33 t34 t35 t36 t37 t38 t39 t40 t41 t42 t43 t44 t45 t46 t47 t48 t49 t50 t51 t52 t53 t54 t55 t56 t57 t58 t59 t60 t61 t62 t63 t64 t65 t68 t69 t70 t71 t72 t73 t74 t75 t76 t77 t78 t79 t80 t81 t82 t83 t84 t85 t86 t87 t88 t89 t90 t91 t92 t93 : Value) (Ds : List Nat) (w' : World), i < l0.length → (∃ k : Nat, k < l1.length ∧ openB (relV l0 l1 slack) Fl Sl (i : Int) (k : Int) = true) → Below n₀ V w' → Blk w' z6 3 #[.int .i64 0] → Blk w' z7 32 #[.int .i64 18] → Marks n₀ Ds w' → Q' .ret ⟨#[t0, t1, t2, .pointer (some ⟨z3, 0, none⟩), t4, .pointer (some ⟨z5, 0, none⟩), .pointer (some ⟨z6, 0, none⟩), .pointer (some ⟨z7, 0, none⟩), .pointer (some ⟨q, 0, none⟩), t9, t10, t11, t12, t13, t14, t15, t16, t17, t18, t19, t20, t21, t22, t23, t24, t25, t26, t27, t28, t29, t30, t31, t32, t33, t34, t35, t36, t37, t38, t39, t40, t41, t42, t43, t44, t45, t46, t47, t48, t49, t50, t51, t52, t53, t54, t55, t56, t57, t58, t59, t60, t61, t62, t63, t64, t65, .int .i64 l0.length, .int .i64 (i : Int), t68, t69, t70, t71, t72, t73, t74, t75, t76, t77, t78, t79, t80, t81, t82, t83, t84, t85, t86, t87, t88, t89, t90, t91, t92, t93], marksOf Ds⟩ w')
    (hexit : ∀ (t0 t1 t2 t4 t9 t10 t11 t12 t13 t14 t15 t16 t17 t18 t19 t20 t21 t22 t23 t24 t25 t26 t27 t28 t29 t30 t31 t32 t33 t34 t35 t36 t37 t38 t39 t40 t41 t42 t43 t44 t45 t46 t47 t48 t49 t50 t51 t52 t53 t54 t55 t56 t57 t58 t59 t60 t61 t62 t63 t64 t65 t68 t69 t70 t71 t72 t73 t74 t75 t76 t77 t78 t79 t80 t81 t82 t83 t84 t85 t86 t87 t88 t89 t90 t91 t92 t93 : Value), i = l0.length → Q' (.exit 5) ⟨#[t0, t1, t2, .pointer (some ⟨z3, 0, none⟩), t4, .pointer (some ⟨z5, 0, none⟩), .pointer (some ⟨z6, 0, none⟩), .pointer (some ⟨z7, 0, none⟩), .pointer (some ⟨q, 0, none⟩), t9, t10, t11, t12, t13, t14, t15, t16, t17, t18, t19, t20, t21, t22, t23, t24, t25, t26, t27, t28, t29, t30, t31, t32, t33, t34, t35, t36, t37, t38, t39, t40, t41, t42, t43, t44, t45, t46, t47, t48, t49, t50, t51, t52, t53, t54, t55, t56, t57, t58, t59, t60, t61, t62, t63, t64, t65, .int .i64 l0.length, .int .i64 (i : Int), t68, t69, t70, t71, t72, t73, t74, t75, t76, t77, t78, t79, t80, t81, t82, t83, t84, t85, t86, t87, t88, t89, t90, t91, t92, t93], marksOf Ds⟩ wr) :
    (bodyOf Tryz.f75 2).wp Tryz.prog (Exit.then K' Q') ⟨#[t0, t1, t2, .pointer (some ⟨z3, 0, none⟩), t4, .pointer (some ⟨z5, 0, none⟩), .pointer (some ⟨z6, 0, none⟩), .pointer (some ⟨z7, 0, none⟩), .pointer (some ⟨q, 0, none⟩), t9, t10, t11, t12, t13, t14, t15, t16, t17, t18, t19, t20, t21, t22, t23, t24, t25, t26, t27, t28, t29, t30, t31, t32, t33, t34, t35, t36, t37, t38, t39, t40, t41, t42, t43, t44, t45, t46, t47, t48, t49, t50, t51, t52, t53, t54, t55, t56, t57, t58, t59, t60, t61, t62, t63, t64, t65, .int .i64 l0.length, .int .i64 (i : Int), t68, t69, t70, t71, t72, t73, t74, t75, t76, t77, t78, t79, t80, t81, t82, t83, t84, t85, t86, t87, t88, t89, t90, t91, t92, t93], marksOf Ds⟩ wr := by
  have HN := Lib.hid hnext; have HR := Lib.hid hret; have HX := Lib.hid hexit
  clear hnext hret hexit
  conv in (bodyOf _ _) => whnf
  by_cases hlt : i < l0.length
  · have i1 : ((i : Int) < (l0.length : Int)) := by omega
    have hsz0 := Below.size hG
    have hgA : Gr wr (wr.alloc (.cells #[.int .i64 (i : Int)] 3)) := (Below.refl _ _).alloc (Nat.le_refl _) _
    have bi := Blk.new wr 3 #[.int .i64 (i : Int)]
    have ci := bi.cell 0
    have li := bi.lt
    go_wp2_with fail
    obtain ⟨wa, hwa⟩ : ∃ wa, wr.alloc (.cells #[.int .i64 (i : Int)] 3) = wa := ⟨_, rfl⟩
    have hwz : wa.heap.size = wr.heap.size + 1 := by rw [← hwa]; simp
    rw [hwa] at hgA bi ci li ⊢
    clear hwa
    refine (like_any q (i : Int) wa).mono ?_
    rintro e wb ⟨rfl, hwb⟩
    have hgB : Gr wa wb := by rw [← hwb]; exact ((Below.refl _ _).alloc (Nat.le_refl _) _).alloc (by simp) _
    have bm : Blk wb wa.heap.size 195 #[.pointer (some ⟨q, 0, none⟩)] := by rw [← hwb]; exact (Blk.new wa 195 #[.pointer (some ⟨q, 0, none⟩)]).alloc _
    have bj : Blk wb (wa.heap.size + 1) 3 #[.int .i64 (i : Int)] := by
      have := Blk.new (wa.alloc (.cells #[.pointer (some ⟨q, 0, none⟩)] 195)) 3 #[.int .i64 (i : Int)]
      rw [World.size_alloc] at this
      rw [← hwb]; exact this
    rw [hwz] at bm bj ⊢
    clear hwb ci li
    have hGB : Gr V wb := Gr.trans hG (Gr.trans hgA hgB)
    have MB := M.gr hGB
    have hMkB := hMk.gr (Gr.trans hgA hgB)
    have b14 := bi.gr hgB
    have hsz1 := Below.size hGB
    have hlt0 : ∀ D ∈ Ds, D < wb.heap.size := fun D hD => hMkB.lt hD
    have hl14 := b14.lt
    have hlj := bj.lt
    have hlq := MB.box.lt
    have lm : LkM (wr.heap.size + 1) (wr.heap.size + 1 + 1) q B i l0 l1 A0 A1 c0 c1 slack wb := ⟨bm.cell 0, bj.cell 0, MB.box.cell 0, MB.box.cell 1, MB.box.cell 2, MB.r0, MB.r1, MB.base⟩
    have HSS : Hid (MkS (l0[i]?.getD mkZ) ∧ ∀ m ∈ l1, MkS m) := Lib.hid ⟨by rw [List.getElem?_eq_getElem hlt]; exact HS0.out _ (List.getElem_mem hlt), HS1.out⟩
    have hB := MB.base
    clear hG hMk bi hgA hgB
    dsimp only
    go_wp2_with fail
    refine wpIn_wide.1 (wpIn_rangeFunc_ownH (n := 5) rfl (by omega) (gf := 159) (lb := #[.pointer (some ⟨wr.heap.size + 1, 0, none⟩), .pointer (some ⟨wr.heap.size + 1 + 1, 0, none⟩)]) rfl trivial (enters_of Tryz.func159 (by kernel_rfl) rfl)
      (like_stops 4 (by omega) (wr.heap.size + 1) (wr.heap.size + 1 + 1) q B l0 l1 A0 A1 c0 c1 i slack hlt hn1 hn0 HSS wb lm) KL.trans (fun W l o o' hl _ _ _ => ⟨World.putObj_heap_other (by omega), World.putObj_heap_other (by omega), World.putObj_heap_other (by omega), fun k hk => World.putObj_heap_other (by omega), by simp⟩) (Below.refl _ _) (fun _ => rfl)
      (fun pre W => Below wb.heap.size wb W ∧ Marks n₀ Ds W ∧ ∀ x ∈ pre, Fl.contains (i : Int) = true ∨ Sl.contains (x.1 : Int) = true)
      (fun c _ W => c = .ret ∧ (∃ k : Nat, k < l1.length ∧ openB (relV l0 l1 slack) Fl Sl (i : Int) (k : Int) = true) ∧ Below n₀ V W ∧ Blk W z6 3 #[.int .i64 0] ∧ Blk W z7 32 #[.int .i64 18] ∧ Marks n₀ Ds W) ?hI ?hIx ?h0
      (fun x a' W => a' = ⟨#[t0, t1, t2, .pointer (some ⟨z3, 0, none⟩), t4, .pointer (some ⟨z5, 0, none⟩), .pointer (some ⟨z6, 0, none⟩), .pointer (some ⟨z7, 0, none⟩), .pointer (some ⟨q, 0, none⟩), t9, t10, t11, t12, t13, .pointer (some ⟨wr.heap.size, 0, none⟩), .int .i64 (x.1 : Int), t16, t17, t18, t19, t20, t21, t22, t23, t24, t25, t26, t27, t28, t29, t30, t31, t32, t33, t34, t35, t36, t37, t38, t39, t40, t41, t42, t43, t44, t45, t46, t47, t48, t49, t50, t51, t52, t53, t54, t55, t56, t57, t58, t59, t60, t61, t62, t63, t64, t65, .int .i64 l0.length, .int .i64 (i : Int), .bool true, .int .i64 (i : Int), .pointer (some ⟨q, 0, none⟩), .int .i64 (i : Int), .func (.func 159) #[] #[.pointer (some ⟨wr.heap.size + 1, 0, none⟩), .pointer (some ⟨wr.heap.size + 1 + 1, 0, none⟩)], .int .i64 (x.1 : Int), t74, t75, t76, t77, t78, t79, t80, t81, t82, t83, t84, t85, t86, t87, t88, t89, t90, t91, t92, t93], []⟩) ?hAx ?assign ?body ?done ?stop)
    case hI =>
      rintro pre X Y row ⟨h1, h2, h3⟩ hg hr
      exact ⟨below_grown h1 hg (fun r e => (hr r e).1) (Nat.le_refl _), ownFrom_marks (β := Unit) n₀ wb.heap.size Ds hlt0 () X Y row h2 hg hr, h3⟩
    case hIx =>
      rintro c pre X Y row ⟨h1, h2, h3, h4, h5, h6⟩ hg hr
      have key : ∀ {G t cs}, Blk X G t cs → some G ≠ row := fun hb e => by
        obtain ⟨_, o, ho, hc⟩ := hr _ e.symm
        obtain ⟨o', ho', hc', _⟩ := hb.iscells
        exact ne_of_cells ho' hc' ho hc rfl
      exact ⟨h1, h2, h3.grown hg (by have := h3.size; have := M.low; omega) (fun r e => by have := (hr r e).1; have := M.low; omega), h4.grown hg (key h4), h5.grown hg (key h5), ownFrom_marks (β := Unit) n₀ wb.heap.size Ds hlt0 () X Y row h6 hg hr⟩
    case h0 => exact ⟨Below.refl _ _, hMkB, fun x h => by cases h⟩
    case hAx => exact fun x a' _ X Y row h _ _ => h
    case assign =>
      intro l pre x W K hIp hK
      dsimp only [List.zip_cons_cons]
      gi_wp2
      exact hK _ _ (KeepsFrom.refl _ _) (KL.refl _ _ _ _ _) hIp rfl
    case body =>
      rintro l pre x a' W hl hrl ⟨hBW, hmW, hpre⟩ rfl hN
      dsimp only
      have MW := MB.gr hBW
      have hbb := MW.b5
      obtain ⟨f50, f51, _⟩ := blk2c hbb
      have l5 := hbb.lt
      have c14 := (b14.gr hBW).cell 0
      have l14 := (b14.gr hBW).lt
      have g6 := MW.b6
      have g7 := MW.b7
      have c6 := g6.cell 0
      have c7 := g7.cell 0
      have ff6 := g6.frozen
      have ff7 := g7.frozen
      have l6 := g6.lt
      have l7 := g7.lt
      have hne : z6 ≠ z7 := Blk.ne_ g6 g7 (by decide)
      have HRF := Lib.hid MW.rF; have HRS := Lib.hid MW.rS
      have hB' := MW.base
      have HPRE := Lib.hid hpre
      obtain ⟨x, hxl, hxr⟩ := x
      dsimp only
      have HXR : Hid (relV l0 l1 slack (i : Int) (x : Int) = true) := Lib.hid (by rw [← likeR_rel]; exact hxr)
      cases hc1 : Fl.contains (i : Int)
      · have C1 := Lib.hid hc1
        cases hc2 : Sl.contains (x : Int)
        · have C2 := Lib.hid hc2
          clear hc1 hc2
          gi_wp2_with (first
            | (refine ⟨trivial, ?_⟩; gi_at_call 134; refine (CallsIn.inRound l (callsIn_wide.2 (contains_any Fl AF cF B (i : Int) _ HRF.out hF))).mono ?_; rintro e W2 ⟨rfl, hw2⟩; rw [hw2, C1.out])
            | (refine ⟨trivial, ?_⟩; gi_at_call 134; refine (CallsIn.inRound l (callsIn_wide.2 (contains_any Sl AS cS B (x : Int) _ HRS.out hS))).mono ?_; rintro e W2 ⟨rfl, hw2⟩; rw [hw2, C2.out]))
          refine ⟨((KeepsOthers.setCell _ _ _).trans (KeepsOthers.setCell _ _ _)).from _, rfl, ⟨x, hxl, ?_⟩, ?_, ?_, ?_, ?_⟩
          · unfold openB; rw [HXR.out, C1.out, C2.out]; rfl
          · exact (((hGB.mono M.low).trans (hBW.mono MB.low)).setCell M.low6 _).setCell M.low7 _
          · exact (g6.set_ 0 (.int .i64 0)).far (p := ⟨z7, 0, none⟩) hne _
          · exact (g7.far (p := ⟨z6, 0, none⟩) (Ne.symm hne) _).set_ 0 (.int .i64 18)
          · exact (hmW.setCell g6 _).setCell (g7.far (p := ⟨z6, 0, none⟩) (Ne.symm hne) _) _
        · have C2 := Lib.hid hc2
          clear hc1 hc2
          gi_wp2_with (first
            | (refine ⟨trivial, ?_⟩; gi_at_call 134; refine (CallsIn.inRound l (callsIn_wide.2 (contains_any Fl AF cF B (i : Int) _ HRF.out hF))).mono ?_; rintro e W2 ⟨rfl, hw2⟩; rw [hw2, C1.out])
            | (refine ⟨trivial, ?_⟩; gi_at_call 134; refine (CallsIn.inRound l (callsIn_wide.2 (contains_any Sl AS cS B (x : Int) _ HRS.out hS))).mono ?_; rintro e W2 ⟨rfl, hw2⟩; rw [hw2, C2.out]))
          refine ⟨KeepsFrom.refl _ _, KL.refl _ _ _ _ _, hBW, hmW, fun y hy => ?_⟩
          rcases List.mem_append.1 hy with hy | hy
          · rcases HPRE.out y hy with h | h
            · rw [C1.out] at h; cases h
            · exact .inr h
          · obtain rfl := List.mem_singleton.1 hy
            exact .inr C2.out
      · have C1 := Lib.hid hc1
        clear hc1
        gi_wp2_with fail
        refine ⟨trivial, ?_⟩
        gi_at_call 134
        refine (CallsIn.inRound l (callsIn_wide.2 (contains_any Fl AF cF B (i : Int) _ HRF.out hF))).mono ?_
        rintro e W2 ⟨rfl, hw2⟩
        rw [hw2]
        rw [C1.out]
        gi_wp2
        refine ⟨trivial, ?_⟩
        gi_wp2
        exact ⟨KeepsFrom.refl _ _, KL.refl _ _ _ _ _, hBW, hmW⟩
    case done =>
      rintro D xs W hD hxs ⟨hBW, hmW, hpre⟩ hdf
      have HALL : Hid (∀ k : Nat, k < l1.length → openB (relV l0 l1 slack) Fl Sl (i : Int) (k : Int) = false) := Lib.hid (fun k hk => by
        unfold openB
        cases hr : relV l0 l1 slack (i : Int) (k : Int)
        · rfl
        · have hm : k ∈ likeV (likeR l0 l1 i slack) l1.length := mem_likeV.2 ⟨hk, by rw [likeR_rel]; exact hr⟩
          rw [← hxs] at hm
          obtain ⟨x, hx, rfl⟩ := List.mem_map.1 hm
          rcases hpre x hx with h | h
          · rw [h]; cases Sl.contains (x.1 : Int) <;> rfl
          · rw [h]; cases Fl.contains (i : Int) <;> rfl)
      have HMC : Hid (Marks n₀ (D :: Ds) W) := Lib.hid (hmW.cons hlt0 hD (Nat.le_trans MB.low hD) hdf)
      have HGV : Hid (Gr V W) := Lib.hid (Gr.trans hGB hBW)
      clear hBW hmW hpre hdf hxs
      dsimp only
      go_wp2_with fail
      exact HN.out _ _ _ _ _ _ _ _ _ _ _ _ _ _ _ _ _ _ _ _ _ _ _ _ _ _ _ _ _ _ _ _ _ _ _ _ _ _ _ _ _ _ _ _ _ _ _ _ _ _ _ _ _ _ _ _ _ _ _ _ _ _ _ _ _ _ _ _ _ _ _ _ _ _ _ _ _ _ _ _ _ _ _ _ _ _ _ (D :: Ds) _ hlt HALL.out HGV.out HMC.out
    case stop =>
      rintro D c pre W hD hpre ⟨rfl, h2, h3, h4, h5, h6⟩ hdf
      have HMC : Hid (Marks n₀ (D :: Ds) W) := Lib.hid (h6.cons hlt0 hD (Nat.le_trans MB.low hD) hdf)
      have H2 := Lib.hid h2; have H3 := Lib.hid h3; have H4 := Lib.hid h4; have H5 := Lib.hid h5
      clear h2 h3 h4 h5 h6 hdf hpre
      gi_wp2
      exact HR.out _ _ _ _ _ _ _ _ _ _ _ _ _ _ _ _ _ _ _ _ _ _ _ _ _ _ _ _ _ _ _ _ _ _ _ _ _ _ _ _ _ _ _ _ _ _ _ _ _ _ _ _ _ _ _ _ _ _ _ _ _ _ _ _ _ _ _ _ _ _ _ _ _ _ _ _ _ _ _ _ _ _ _ _ _ _ _ (D :: Ds) _ hlt H2.out H3.out H4.out H5.out HMC.out
  · obtain rfl : i = l0.length := by omega
    go_wp2
    exact HX.out _ _ _ _ _ _ _ _ _ _ _ _ _ _ _ _ _ _ _ _ _ _ _ _ _ _ _ _ _ _ _ _ _ _ _ _ _ _ _ _ _ _ _ _ _ _ _ _ _ _ _ _ _ _ _ _ _ _ _ _ _ _ _ _ _ _ _ _ _ _ _ _ _ _ _ _ _ _ _ _ _ _ _ _ _ _ _ (by trivial)
end Go.Proofs.YtidgeagpgllkeaaGreat

namespace Go.Proofs.YtidgeagpgllkeaaGreat
open Go.RowKit Go.Shelf

attribute [local go_sem] Oper.semAt_some

def ccE (l0 l1 : List Mk) (slack : Int) (Fl Sl : List Int) : Int := if openE l0 l1 slack = 0 then coverE l0.length l1.length (relV l0 l1 slack) Fl Sl else openE l0 l1 slack
def ccN (l0 l1 : List Mk) (slack : Int) (Fl Sl : List Int) : Int := if ccE l0 l1 slack Fl Sl = 0 then (Fl.length : Int) + Sl.length else 0
theorem ccN_of {l0 l1 : List Mk} {slack : Int} {Fl Sl : List Int} {e : Int} (h : ccE l0 l1 slack Fl Sl = e) (hn : e ≠ 0) : ccE l0 l1 slack Fl Sl = e ∧ ccN l0 l1 slack Fl Sl = 0 := ⟨h, by unfold ccN; rw [h, if_neg hn]⟩
theorem cc_open {l0 l1 : List Mk} {slack : Int} {Fl Sl : List Int} (he : openE l0 l1 slack ≠ 0) : ccE l0 l1 slack Fl Sl = openE l0 l1 slack ∧ ccN l0 l1 slack Fl Sl = 0 := ccN_of (by unfold ccE; rw [if_neg he]) he
theorem cc_1 {l0 l1 : List Mk} {slack : Int} {Fl Sl : List Int} (he : openE l0 l1 slack = 0) (h : numbE l0.length Fl ≠ 0) : ccE l0 l1 slack Fl Sl = numbE l0.length Fl ∧ ccN l0 l1 slack Fl Sl = 0 := ccN_of (by unfold ccE coverE; rw [if_pos he, if_neg h]) h
theorem cc_2 {l0 l1 : List Mk} {slack : Int} {Fl Sl : List Int} (he : openE l0 l1 slack = 0) (h : numbE l0.length Fl = 0) (h2 : numbE l1.length Sl ≠ 0) : ccE l0 l1 slack Fl Sl = numbE l1.length Sl ∧ ccN l0 l1 slack Fl Sl = 0 := ccN_of (by unfold ccE coverE; rw [if_pos he, if_pos h, if_neg h2]) h2
theorem coverB_false {n m : Nat} {R : Int → Int → Bool} {F S : List Int} (h : ∃ i k : Nat, i < n ∧ k < m ∧ openB R F S (i : Int) (k : Int) = true) : coverB n m R F S = false := by
  obtain ⟨i, k, hi, hk, ho⟩ := h
  cases hc : coverB n m R F S
  · rfl
  · have := List.all_eq_true.1 (List.all_eq_true.1 hc i (List.mem_range.2 hi)) k (List.mem_range.2 hk)
    rw [ho] at this; cases this
theorem coverB_true {n m : Nat} {R : Int → Int → Bool} {F S : List Int} (h : ∀ i k : Nat, i < n → k < m → openB R F S (i : Int) (k : Int) = false) : coverB n m R F S = true :=
  List.all_eq_true.2 fun i hi => List.all_eq_true.2 fun k hk => by rw [h i k (List.mem_range.1 hi) (List.mem_range.1 hk)]; rfl
theorem cc_3 {l0 l1 : List Mk} {slack : Int} {Fl Sl : List Int} (he : openE l0 l1 slack = 0) (h : numbE l0.length Fl = 0) (h2 : numbE l1.length Sl = 0) (h3 : ∃ i k : Nat, i < l0.length ∧ k < l1.length ∧ openB (relV l0 l1 slack) Fl Sl (i : Int) (k : Int) = true) : ccE l0 l1 slack Fl Sl = 18 ∧ ccN l0 l1 slack Fl Sl = 0 := ccN_of (by unfold ccE coverE; rw [if_pos he, if_pos h, if_pos h2, coverB_false h3]; rfl) (by decide)
theorem cc_4 {l0 l1 : List Mk} {slack : Int} {Fl Sl : List Int} (he : openE l0 l1 slack = 0) (h : numbE l0.length Fl = 0) (h2 : numbE l1.length Sl = 0) (h3 : ∀ i k : Nat, i < l0.length → k < l1.length → openB (relV l0 l1 slack) Fl Sl (i : Int) (k : Int) = false) : ccE l0 l1 slack Fl Sl = 0 ∧ ccN l0 l1 slack Fl Sl = (Fl.length : Int) + Sl.length := by
  have hE : ccE l0 l1 slack Fl Sl = 0 := by unfold ccE coverE; rw [if_pos he, if_pos h, if_pos h2, coverB_true h3]; rfl
  exact ⟨hE, by unfold ccN; rw [if_pos hE]⟩

set_option maxRecDepth 100000 in
set_option maxHeartbeats 8000000 in
theorem ccLoop3 {V : World} {z3 q z5 z6 z7 B n₀ : Nat} {l0 l1 : List Mk} {A0 A1 AF AS : Option Addr} {c0 c1 cF cS : Nat} {slack : Int} {v0 v1 : Value} {Fl Sl : List Int} (M : CcM V q z5 z6 z7 B n₀ l0 l1 A0 A1 AF AS c0 c1 cF cS slack v0 v1 Fl Sl) (hn0 : l0.length ≤ 1000) (hn1 : l1.length ≤ 1000) (hF : Fl.length ≤ 1000000) (hS : Sl.length ≤ 1000000) (HS0 : Hid (∀ m ∈ l0, MkS m)) (HS1 : Hid (∀ m ∈ l1, MkS m)) (wr : World) (hG : Gr V wr) (Q' : Exit → Act → World → Prop) {t0 t1 t2 t4 t9 t10 t11 t12 t13 t14 t15 t16 t17 t18 t19 t20 t21 t22 t23 t24 t25 t26 t27 t28 t29 t30 t31 t32 t33 t34 t35 t36 t37 t38 t39 t40 t41 t42 t43 t44 t45 t46 t47 t48 t49 t50 t51 t52 t53 t54 t55 t56 t57 t58 t59 t60 t61 t62 t63 t64 t65 t68 t69 t70 t71 t72 t73 t74 t75 t76 t77 t78 t79 t80 t81 t82 t83 t84 t85 t86 t87 t88 t89 t90 t91 t92 t93 : Value}
    (hret : ∀ (t0 t1 t2 t4 t9 t10 t11 t12 t13 t14 t15 t16 t17 t18 t19 t20 t21 t22 t23 t24 t25 t26 t27 t28 t29 t30 t31 t32 t33 t34 t35 t36 t37 t38 t39 t40 t41 t42 t43 t44 t45 t46 t47 t48 t49 t50 t51 t52 t53 t54 t55 t56 t57 t58 t59 t60 t61 t62 t63 t64 t65 t68 t69 t70 t71 t72 t73 t74 t75 t76 t77 t78 t79 t80 t81 t82 t83 t84 t85 t86 t87 t88 t89 t90 t91 t92 t93 : Value) (j : Nat) (Ds : List Nat) (w' : World), (∃ i k : Nat, i < l0.length ∧ k < l1.length ∧ openB (relV l0 l1 slack) Fl Sl (i : Int) (k : Int) = true) → Below n₀ V w' → Blk w' z6 3 #[.int .i64 0] → Blk w' z7 32 #[.int .i64 18] → Marks n₀ Ds w' → Q' .ret ⟨#[t0, t1, t2, .pointer (some ⟨z3, 0, none⟩), t4, .pointer (some ⟨z5, 0, none⟩), .pointer (some ⟨z6, 0, none⟩), .pointer (some ⟨z7, 0, none⟩), .pointer (some ⟨q, 0, none⟩), t9, t10, t11, t12, t13, t14, t15, t16, t17, t18, t19, t20, t21, t22, t23, t24, t25, t26, t27, t28, t29, t30, t31, t32, t33, t34, t35, t36, t37, t38, t39, t40, t41, t42, t43, t44, t45, t46, t47, t48, t49, t50, t51, t52, t53, t54, t55, t56, t57, t58, t59, t60, t61, t62, t63, t64, t65, .int .i64 l0.length, .int .i64 (j : Int), t68, t69, t70, t71, t72, t73, t74, t75, t76, t77, t78, t79, t80, t81, t82, t83, t84, t85, t86, t87, t88, t89, t90, t91, t92, t93], marksOf Ds⟩ w')
    (hexit : ∀ (t0 t1 t2 t4 t9 t10 t11 t12 t13 t14 t15 t16 t17 t18 t19 t20 t21 t22 t23 t24 t25 t26 t27 t28 t29 t30 t31 t32 t33 t34 t35 t36 t37 t38 t39 t40 t41 t42 t43 t44 t45 t46 t47 t48 t49 t50 t51 t52 t53 t54 t55 t56 t57 t58 t59 t60 t61 t62 t63 t64 t65 t68 t69 t70 t71 t72 t73 t74 t75 t76 t77 t78 t79 t80 t81 t82 t83 t84 t85 t86 t87 t88 t89 t90 t91 t92 t93 : Value) (Ds : List Nat) (wr : World), (∀ i k : Nat, i < l0.length → k < l1.length → openB (relV l0 l1 slack) Fl Sl (i : Int) (k : Int) = false) → Gr V wr → Marks n₀ Ds wr → Q' (.exit 5) ⟨#[t0, t1, t2, .pointer (some ⟨z3, 0, none⟩), t4, .pointer (some ⟨z5, 0, none⟩), .pointer (some ⟨z6, 0, none⟩), .pointer (some ⟨z7, 0, none⟩), .pointer (some ⟨q, 0, none⟩), t9, t10, t11, t12, t13, t14, t15, t16, t17, t18, t19, t20, t21, t22, t23, t24, t25, t26, t27, t28, t29, t30, t31, t32, t33, t34, t35, t36, t37, t38, t39, t40, t41, t42, t43, t44, t45, t46, t47, t48, t49, t50, t51, t52, t53, t54, t55, t56, t57, t58, t59, t60, t61, t62, t63, t64, t65, .int .i64 l0.length, .int .i64 (l0.length : Int), t68, t69, t70, t71, t72, t73, t74, t75, t76, t77, t78, t79, t80, t81, t82, t83, t84, t85, t86, t87, t88, t89, t90, t91, t92, t93], marksOf Ds⟩ wr) :
    (Code.loop (bodyOf Tryz.f75 2)).wp Tryz.prog Q' ⟨#[t0, t1, t2, .pointer (some ⟨z3, 0, none⟩), t4, .pointer (some ⟨z5, 0, none⟩), .pointer (some ⟨z6, 0, none⟩), .pointer (some ⟨z7, 0, none⟩), .pointer (some ⟨q, 0, none⟩), t9, t10, t11, t12, t13, t14, t15, t16, t17, t18, t19, t20, t21, t22, t23, t24, t25, t26, t27, t28, t29, t30, t31, t32, t33, t34, t35, t36, t37, t38, t39, t40, t41, t42, t43, t44, t45, t46, t47, t48, t49, t50, t51, t52, t53, t54, t55, t56, t57, t58, t59, t60, t61, t62, t63, t64, t65, .int .i64 l0.length, .int .i64 ((0 : Nat) : Int), t68, t69, t70, t71, t72, t73, t74, t75, t76, t77, t78, t79, t80, t81, t82, t83, t84, t85, t86, t87, t88, t89, t90, t91, t92, t93], marksOf []⟩ wr := by
  refine wp_loop_ghost (fun m a' wr => ∃ (v : Nat → Value) (j : Nat) (Ds : List Nat), a' = ⟨#[v 0, v 1, v 2, .pointer (some ⟨z3, 0, none⟩), v 4, .pointer (some ⟨z5, 0, none⟩), .pointer (some ⟨z6, 0, none⟩), .pointer (some ⟨z7, 0, none⟩), .pointer (some ⟨q, 0, none⟩), v 9, v 10, v 11, v 12, v 13, v 14, v 15, v 16, v 17, v 18, v 19, v 20, v 21, v 22, v 23, v 24, v 25, v 26, v 27, v 28, v 29, v 30, v 31, v 32, v 33, v 34, v 35, v 36, v 37, v 38, v 39, v 40, v 41, v 42, v 43, v 44, v 45, v 46, v 47, v 48, v 49, v 50, v 51, v 52, v 53, v 54, v 55, v 56, v 57, v 58, v 59, v 60, v 61, v 62, v 63, v 64, v 65, .int .i64 l0.length, .int .i64 (j : Int), v 68, v 69, v 70, v 71, v 72, v 73, v 74, v 75, v 76, v 77, v 78, v 79, v 80, v 81, v 82, v 83, v 84, v 85, v 86, v 87, v 88, v 89, v 90, v 91, v 92, v 93], marksOf Ds⟩ ∧ m + j = l0.length ∧ (∀ i k : Nat, i < j → k < l1.length → openB (relV l0 l1 slack) Fl Sl (i : Int) (k : Int) = false) ∧ Gr V wr ∧ Marks n₀ Ds wr) l0.length ⟨fun k => (#[t0, t1, t2, undef, t4, undef, undef, undef, undef, t9, t10, t11, t12, t13, t14, t15, t16, t17, t18, t19, t20, t21, t22, t23, t24, t25, t26, t27, t28, t29, t30, t31, t32, t33, t34, t35, t36, t37, t38, t39, t40, t41, t42, t43, t44, t45, t46, t47, t48, t49, t50, t51, t52, t53, t54, t55, t56, t57, t58, t59, t60, t61, t62, t63, t64, t65, undef, undef, t68, t69, t70, t71, t72, t73, t74, t75, t76, t77, t78, t79, t80, t81, t82, t83, t84, t85, t86, t87, t88, t89, t90, t91, t92, t93] : Array Value).getD k undef, 0, [], rfl, by omega, fun i k h => by omega, hG, Marks.nil _ _⟩ ?_
  clear hG
  rintro m a' wr ⟨v, j, Ds, rfl, hmj, hall, hG, hMk⟩
  refine ccRound M hn0 hn1 hF hS HS0 HS1 j (by omega) Ds wr hG hMk _ _ ?_ ?_ ?_
  · intro t0 t1 t2 t4 t9 t10 t11 t12 t13 t14 t15 t16 t17 t18 t19 t20 t21 t22 t23 t24 t25 t26 t27 t28 t29 t30 t31 t32 t33 t34 t35 t36 t37 t38 t39 t40 t41 t42 t43 t44 t45 t46 t47 t48 t49 t50 t51 t52 t53 t54 t55 t56 t57 t58 t59 t60 t61 t62 t63 t64 t65 t68 t69 t70 t71 t72 t73 t74 t75 t76 t77 t78 t79 t80 t81 t82 t83 t84 t85 t86 t87 t88 t89 t90 t91 t92 t93 Ds wr h1 h2 h3 h4
    exact ⟨m - 1, by omega, fun k => (#[t0, t1, t2, undef, t4, undef, undef, undef, undef, t9, t10, t11, t12, t13, t14, t15, t16, t17, t18, t19, t20, t21, t22, t23, t24, t25, t26, t27, t28, t29, t30, t31, t32, t33, t34, t35, t36, t37, t38, t39, t40, t41, t42, t43, t44, t45, t46, t47, t48, t49, t50, t51, t52, t53, t54, t55, t56, t57, t58, t59, t60, t61, t62, t63, t64, t65, undef, undef, t68, t69, t70, t71, t72, t73, t74, t75, t76, t77, t78, t79, t80, t81, t82, t83, t84, t85, t86, t87, t88, t89, t90, t91, t92, t93] : Array Value).getD k undef, j + 1, Ds, rfl, by omega, fun i k hi hk => by
      by_cases e : i = j
      · subst e; exact h2 k hk
      · exact hall i k (by omega) hk, h3, h4⟩
  · intro t0 t1 t2 t4 t9 t10 t11 t12 t13 t14 t15 t16 t17 t18 t19 t20 t21 t22 t23 t24 t25 t26 t27 t28 t29 t30 t31 t32 t33 t34 t35 t36 t37 t38 t39 t40 t41 t42 t43 t44 t45 t46 t47 t48 t49 t50 t51 t52 t53 t54 t55 t56 t57 t58 t59 t60 t61 t62 t63 t64 t65 t68 t69 t70 t71 t72 t73 t74 t75 t76 t77 t78 t79 t80 t81 t82 t83 t84 t85 t86 t87 t88 t89 t90 t91 t92 t93 Ds w' h1 ⟨k, hk, ho⟩ h3 h4 h5 h6
    exact hret _ _ _ _ _ _ _ _ _ _ _ _ _ _ _ _ _ _ _ _ _ _ _ _ _ _ _ _ _ _ _ _ _ _ _ _ _ _ _ _ _ _ _ _ _ _ _ _ _ _ _ _ _ _ _ _ _ _ _ _ _ _ _ _ _ _ _ _ _ _ _ _ _ _ _ _ _ _ _ _ _ _ _ _ _ _ _ j Ds w' ⟨j, k, h1, hk, ho⟩ h3 h4 h5 h6
  · intro t0 t1 t2 t4 t9 t10 t11 t12 t13 t14 t15 t16 t17 t18 t19 t20 t21 t22 t23 t24 t25 t26 t27 t28 t29 t30 t31 t32 t33 t34 t35 t36 t37 t38 t39 t40 t41 t42 t43 t44 t45 t46 t47 t48 t49 t50 t51 t52 t53 t54 t55 t56 t57 t58 t59 t60 t61 t62 t63 t64 t65 t68 t69 t70 t71 t72 t73 t74 t75 t76 t77 t78 t79 t80 t81 t82 t83 t84 t85 t86 t87 t88 t89 t90 t91 t92 t93 h1
    subst h1
    exact hexit _ _ _ _ _ _ _ _ _ _ _ _ _ _ _ _ _ _ _ _ _ _ _ _ _ _ _ _ _ _ _ _ _ _ _ _ _ _ _ _ _ _ _ _ _ _ _ _ _ _ _ _ _ _ _ _ _ _ _ _ _ _ _ _ _ _ _ _ _ _ _ _ _ _ _ _ _ _ _ _ _ _ _ _ _ _ _ Ds wr hall hG hMk
end Go.Proofs.YtidgeagpgllkeaaGreat

namespace Go.Proofs.YtidgeagpgllkeaaGreat
open Go.RowKit Go.Shelf

attribute [local go_sem] Oper.semAt_some

set_option maxRecDepth 100000 in
set_option maxHeartbeats 8000000 in
theorem checkCover_any (l0 l1 : List Mk) (A0 A1 AF AS : Option Addr) (c0 c1 cF cS B : Nat) (slack : Int) (Fl Sl : List Int) (w : World) (h0 : MkOk l0 A0 B w) (h1 : MkOk l1 A1 B w) (hFr : Row w B 1 AF Fl.length (intsC Fl)) (hSr : Row w B 1 AS Sl.length (intsC Sl)) (hc0 : l0.length ≤ c0) (hc1 : l1.length ≤ c1) (hB : B ≤ w.heap.size) (hn0 : l0.length ≤ 1000) (hn1 : l1.length ≤ 1000) (hFl : Fl.length ≤ 1000) (hSl : Sl.length ≤ 1000) :
    Calls Tryz.prog 75 #[.agg #[.slice A0 l0.length c0, .slice A1 l1.length c1], .int .i64 slack, .agg #[.slice AF Fl.length cF, .slice AS Sl.length cS]] w fun e w' => e = .returned (.tuple #[.int .i64 (ccN l0 l1 slack Fl Sl), .int .i64 (ccE l0 l1 slack Fl Sl)]) ∧ Below w.heap.size w w' := by
  obtain ⟨E, hE⟩ : ∃ E, ccE l0 l1 slack Fl Sl = E := ⟨_, rfl⟩
  obtain ⟨NN, hNN⟩ : ∃ N, ccN l0 l1 slack Fl Sl = N := ⟨_, rfl⟩
  rw [hE, hNN]
  have b3 := (((Blk.new w 124 #[.slice A0 l0.length c0, .slice A1 l1.length c1]).alloc (.cells #[.slice AF Fl.length cF, .slice AS Sl.length cS] 126)).alloc (.cells #[.int .i64 0] 3)).alloc (.cells #[.int .i64 0] 32)
  have b5 := ((Blk.new (w.alloc (.cells #[.slice A0 l0.length c0, .slice A1 l1.length c1] 124)) 126 #[.slice AF Fl.length cF, .slice AS Sl.length cS]).alloc (.cells #[.int .i64 0] 3)).alloc (.cells #[.int .i64 0] 32)
  have b6 := (Blk.new ((w.alloc (.cells #[.slice A0 l0.length c0, .slice A1 l1.length c1] 124)).alloc (.cells #[.slice AF Fl.length cF, .slice AS Sl.length cS] 126)) 3 #[.int .i64 0]).alloc (.cells #[.int .i64 0] 32)
  have b7 := Blk.new (((w.alloc (.cells #[.slice A0 l0.length c0, .slice A1 l1.length c1] 124)).alloc (.cells #[.slice AF Fl.length cF, .slice AS Sl.length cS] 126)).alloc (.cells #[.int .i64 0] 3)) 32 #[.int .i64 0]
  have hBB : Below w.heap.size w ((((w.alloc (.cells #[.slice A0 l0.length c0, .slice A1 l1.length c1] 124)).alloc (.cells #[.slice AF Fl.length cF, .slice AS Sl.length cS] 126)).alloc (.cells #[.int .i64 0] 3)).alloc (.cells #[.int .i64 0] 32)) := (by repeat (first | (with_reducible exact Below.refl _ _) | (with_reducible assumption) | ((with_reducible refine Below.setCell ?_ ?_ _); rotate_left; · (first | exact Nat.le_refl _ | (simp; done) | (simp; omega) | omega)) | ((with_reducible refine Below.alloc ?_ ?_ _); rotate_left; · (first | exact Nat.le_refl _ | (simp; done) | (simp; omega) | omega)) | (with_reducible apply Below.drew) | (with_reducible apply below_drewN') | (refine Below.trans ?_ (Below.mono (by assumption) (by first | exact Nat.le_refl _ | (simp; done) | (simp; omega) | omega))) | exact Below.refl _ _ | assumption))
  simp only [World.size_alloc] at b5 b6 b7
  obtain ⟨d0, d1, d2⟩ := blk2c b3
  have l3 := b3.lt
  refine callsIn_wide.1 (callsIn_of_wp_marks (F := Fence.wide) (n := 5) Tryz.func75 rfl trivial (wpIn_wide.2 ?_) rfl)
  simp only [Tryz.ntmps75, List.size_toArray, List.length_cons, List.length_nil, Nat.reduceAdd, Nat.reduceSub, Array.replicate_succ, Array.replicate_zero, List.push_toArray, List.append_toArray, List.nil_append, List.cons_append]
  go_wp2_with fail
  obtain ⟨W, hW⟩ : ∃ W, (((w.alloc (.cells #[.slice A0 l0.length c0, .slice A1 l1.length c1] 124)).alloc (.cells #[.slice AF Fl.length cF, .slice AS Sl.length cS] 126)).alloc (.cells #[.int .i64 0] 3)).alloc (.cells #[.int .i64 0] 32) = W := ⟨_, rfl⟩
  rw [hW] at b3 b5 b6 b7 hBB d0 d1 d2 l3 ⊢
  clear hW
  have hzW := Below.size hBB
  have e6 := b6.cell 0
  have e7 := b7.cell 0
  have f6 := b6.frozen
  have f7 := b7.frozen
  by_cases he : openE l0 l1 slack = 0
  case neg =>
    obtain ⟨x1, x2⟩ := cc_open (Fl := Fl) (Sl := Sl) he
    rw [hE] at x1
    rw [hNN] at x2
    subst x2
    subst x1
    clear hE hNN
    refine (openLists_bad l0 l1 A0 A1 c0 c1 B slack _ (h0.below hBB hB) (h1.below hBB hB) hc0 hc1 (by omega) he).mono ?_
    rintro e w1 ⟨rfl, hB1⟩
    have hne : (openE l0 l1 slack != 0) = true := by simpa using he
    have g6 := b6.gr hB1
    have g7 := b7.gr hB1
    have k6 := g6.cell 0
    have k7 := g7.cell 0
    have kf6 := g6.frozen
    have kf7 := g7.frozen
    have kl6 := g6.lt
    have kl7 := g7.lt
    have hbe := hBB.trans (hB1.mono hzW)
    go_wp2
    refine ret_marks (n₀ := w.heap.size) (Marks.nil _ _) fun w' hs => ⟨.tuple #[.int .i64 0, .int .i64 (openE l0 l1 slack)], ?_, rfl, ((hbe.setCell (by simp; omega) _).setCell (by simp; omega) _).trans hs.below⟩
    have u6 := (hs.blk ((g6.set_ 0 (.int .i64 0)).far (p := ⟨w.heap.size + 1 + 1 + 1, 0, none⟩) (by first | omega | (simp; done) | (simp; omega)) (.int .i64 (openE l0 l1 slack)))).cell 0
    have u7 := (hs.blk ((g7.far (p := ⟨w.heap.size + 1 + 1, 0, none⟩) (by first | omega | (simp; done) | (simp; omega)) (.int .i64 0)).set_ 0 (.int .i64 (openE l0 l1 slack)))).cell 0
    simp [results, Tryz.results75, go_sem, u6, u7]
  case pos =>
    have HB1 : Hid (numbE l0.length Fl ≠ 0 → E = numbE l0.length Fl ∧ NN = 0) := Lib.hid (fun h => by obtain ⟨a, b⟩ := cc_1 (Sl := Sl) he h; exact ⟨hE.symm.trans a, hNN.symm.trans b⟩)
    have HB2 : Hid (numbE l0.length Fl = 0 → numbE l1.length Sl ≠ 0 → E = numbE l1.length Sl ∧ NN = 0) := Lib.hid (fun h h2 => by obtain ⟨a, b⟩ := cc_2 he h h2; exact ⟨hE.symm.trans a, hNN.symm.trans b⟩)
    have HB3 : Hid (numbE l0.length Fl = 0 → numbE l1.length Sl = 0 → (∃ i k : Nat, i < l0.length ∧ k < l1.length ∧ openB (relV l0 l1 slack) Fl Sl (i : Int) (k : Int) = true) → E = 18 ∧ NN = 0) := Lib.hid (fun h h2 h3 => by obtain ⟨a, b⟩ := cc_3 he h h2 h3; exact ⟨hE.symm.trans a, hNN.symm.trans b⟩)
    have HB4 : Hid (numbE l0.length Fl = 0 → numbE l1.length Sl = 0 → (∀ i k : Nat, i < l0.length → k < l1.length → openB (relV l0 l1 slack) Fl Sl (i : Int) (k : Int) = false) → E = 0 ∧ NN = (Fl.length : Int) + Sl.length) := Lib.hid (fun h h2 h3 => by obtain ⟨a, b⟩ := cc_4 he h h2 h3; exact ⟨hE.symm.trans a, hNN.symm.trans b⟩)
    have hz := (firstE_zero _).1 he
    have HS0 : Hid (∀ m ∈ l0, MkS m) := Lib.hid (marks_small (hz (marksE l0).2 (by simp)))
    have HS1 : Hid (∀ m ∈ l1, MkS m) := Lib.hid (marks_small (hz (marksE l1).2 (by simp)))
    refine (openLists_ok l0 l1 A0 A1 c0 c1 B slack _ (h0.below hBB hB) (h1.below hBB hB) hc0 hc1 (by omega) hn0 hn1 he).mono ?_
    rintro e w1 ⟨q, p0, p1, rfl, M⟩
    have hB1 : Gr W w1 := M.r0.below
    have hbe := hBB.trans (hB1.mono hzW)
    have CM : CcM w1 q (w.heap.size + 1) (w.heap.size + 1 + 1) (w.heap.size + 1 + 1 + 1) B w.heap.size l0 l1 A0 A1 AF AS c0 c1 cF cS slack _ _ Fl Sl := ⟨M.box, h0.row.below hbe hB, h1.row.below hbe hB, b5.gr hB1, hFr.below hbe hB, hSr.below hbe hB, b6.gr hB1, b7.gr hB1, Nat.le_trans hB (Below.size hbe), by omega, by omega, Below.size hbe⟩
    have g3 := b3.gr hB1
    clear hE hNN he hz h0 h1 hFr hSr d0 d1 d2 l3 b3 b5 b6 b7 e6 e7 f6 f7 hBB hzW M hB1
    obtain ⟨f50, f51, f52⟩ := blk2c CM.b5
    have l5 := CM.b5.lt
    have hix : ∀ (u v : Value) (W : World), (Instr.index 198 (.agg #[u, v]) (.int .i64 0)).run Tryz.prog W = .ok u W ∧ (Instr.index 198 (.agg #[u, v]) (.int .i64 1)).run Tryz.prog W = .ok v W := fun u v W => ⟨by kernel_rfl, by kernel_rfl⟩
    go_wp2_with fail
    clear f50 f51 f52 l5
    go_loopw [30] (fun s30 wr => ∃ k : Nat, k ≤ 2 ∧ s30 = .int .i64 k ∧ Hid ((1 ≤ k → numbE l0.length Fl = 0) ∧ (2 ≤ k → numbE l1.length Sl = 0)) ∧ Gr w1 wr) (fun s30 _ => 2 - (intOf s30).toNat)
    case atStart => exact ⟨0, by omega, rfl, Lib.hid ⟨fun h => by omega, fun h => by omega⟩, Below.refl _ _⟩
    case round =>
      obtain ⟨k, hk, rfl, HK2, hG⟩ := hrel
      rcases (by omega : k = 0 ∨ k = 1 ∨ k = 2) with rfl | rfl | rfl
      · have hi := (hix (.slice AF Fl.length cF) (.slice AS Sl.length cS) wr).1
        go_wp2
        have hl2 := ccLoop2 (V := w1) (wr0 := wr) (z3 := w.heap.size) (z6 := w.heap.size + 1 + 1) (z7 := w.heap.size + 1 + 1 + 1) (s := 0) (As := A0) (n := l0.length) (cs := c0) (AL := AF) (L := Fl) (cL := cF) (B := B) (g3.cell 0) (by omega) CM.b6 CM.b7 CM.rF CM.base (by omega) (by omega)
        unfold bodyOf at hl2
        conv at hl2 in (Option.getD _ Code.skip) => whnf
        refine hl2 hG _ ?_ ?_
        · clear hl2
          intro t12 t13 t36 t37 t38 t39 t40 t41 t42 t43 t44 t45 t46 t47 t48 t49 t50 t51 t52 t53 t54 t55 t56 t57 t58 t59 t60 t61 t62 wx hne hGx
          have HX := HB1.out hne
          obtain ⟨rfl, rfl⟩ := HX
          have k6 := CM.b6.gr hGx
          have k7 := CM.b7.gr hGx
          have hbx := hbe.trans (hGx.mono (Below.size hbe))
          try go_wp2
          refine ret_marks (n₀ := w.heap.size) (Marks.nil _ _) fun w' hs => ⟨.tuple #[.int .i64 0, .int .i64 (numbE l0.length Fl)], ?_, rfl, ((hbx.setCell (by simp; omega) _).setCell (by simp; omega) _).trans hs.below⟩
          have u6 := (hs.blk ((k6.set_ 0 (.int .i64 0)).far (p := ⟨w.heap.size + 1 + 1 + 1, 0, none⟩) (by first | omega | (simp; done) | (simp; omega)) (.int .i64 (numbE l0.length Fl)))).cell 0
          have u7 := (hs.blk ((k7.far (p := ⟨w.heap.size + 1 + 1, 0, none⟩) (by first | omega | (simp; done) | (simp; omega)) (.int .i64 0)).set_ 0 (.int .i64 (numbE l0.length Fl)))).cell 0
          simp [results, Tryz.results75, go_sem, u6, u7]
        · clear hl2
          intro t12 t13 t36 t37 t38 t39 t40 t41 t42 t43 t44 t45 t46 t47 t48 t49 t50 t51 t52 t53 t54 t55 t56 t57 t58 t59 t60 t61 t62 wx hz0 hGx
          go_wp2
          exact ⟨⟨1, by omega, rfl, Lib.hid ⟨fun _ => hz0, fun h => by omega⟩, hGx⟩, by simp [intOf]⟩
      · have hi := (hix (.slice AF Fl.length cF) (.slice AS Sl.length cS) wr).2
        have hz0 := HK2.out.1 (by omega)
        go_wp2
        have hl2 := ccLoop2 (V := w1) (wr0 := wr) (z3 := w.heap.size) (z6 := w.heap.size + 1 + 1) (z7 := w.heap.size + 1 + 1 + 1) (s := 1) (As := A1) (n := l1.length) (cs := c1) (AL := AS) (L := Sl) (cL := cS) (B := B) (g3.cell 1) (by omega) CM.b6 CM.b7 CM.rS CM.base (by omega) (by omega)
        unfold bodyOf at hl2
        conv at hl2 in (Option.getD _ Code.skip) => whnf
        refine hl2 hG _ ?_ ?_
        · clear hl2
          intro t12 t13 t36 t37 t38 t39 t40 t41 t42 t43 t44 t45 t46 t47 t48 t49 t50 t51 t52 t53 t54 t55 t56 t57 t58 t59 t60 t61 t62 wx hne hGx
          have HX := HB2.out hz0 hne
          obtain ⟨rfl, rfl⟩ := HX
          have k6 := CM.b6.gr hGx
          have k7 := CM.b7.gr hGx
          have hbx := hbe.trans (hGx.mono (Below.size hbe))
          try go_wp2
          refine ret_marks (n₀ := w.heap.size) (Marks.nil _ _) fun w' hs => ⟨.tuple #[.int .i64 0, .int .i64 (numbE l1.length Sl)], ?_, rfl, ((hbx.setCell (by simp; omega) _).setCell (by simp; omega) _).trans hs.below⟩
          have u6 := (hs.blk ((k6.set_ 0 (.int .i64 0)).far (p := ⟨w.heap.size + 1 + 1 + 1, 0, none⟩) (by first | omega | (simp; done) | (simp; omega)) (.int .i64 (numbE l1.length Sl)))).cell 0
          have u7 := (hs.blk ((k7.far (p := ⟨w.heap.size + 1 + 1, 0, none⟩) (by first | omega | (simp; done) | (simp; omega)) (.int .i64 0)).set_ 0 (.int .i64 (numbE l1.length Sl)))).cell 0
          simp [results, Tryz.results75, go_sem, u6, u7]
        · clear hl2
          intro t12 t13 t36 t37 t38 t39 t40 t41 t42 t43 t44 t45 t46 t47 t48 t49 t50 t51 t52 t53 t54 t55 t56 t57 t58 t59 t60 t61 t62 wx hz1 hGx
          go_wp2
          exact ⟨⟨2, by omega, rfl, Lib.hid ⟨fun _ => hz0, fun _ => hz1⟩, hGx⟩, by simp [intOf]⟩
      · have hz0 := HK2.out.1 (by omega)
        have hz1 := HK2.out.2 (by omega)
        have g3' := g3.gr hG
        obtain ⟨d0, d1, d2⟩ := blk2c g3'
        have l3 := g3'.lt
        go_wp2
        have hl3 := ccLoop3 (z3 := w.heap.size) (CM.gr hG) hn0 hn1 (by omega) (by omega) HS0 HS1 wr (Below.refl _ _)
        unfold bodyOf at hl3
        conv at hl3 in (Option.getD _ Code.skip) => whnf
        refine hl3 _ ?_ ?_
        · clear hl3
          intro t0 t1 t2 t4 t9 t10 t11 t12 t13 t14 t15 t16 t17 t18 t19 t20 t21 t22 t23 t24 t25 t26 t27 t28 t29 t30 t31 t32 t33 t34 t35 t36 t37 t38 t39 t40 t41 t42 t43 t44 t45 t46 t47 t48 t49 t50 t51 t52 t53 t54 t55 t56 t57 t58 t59 t60 t61 t62 t63 t64 t65 t68 t69 t70 t71 t72 t73 t74 t75 t76 t77 t78 t79 t80 t81 t82 t83 t84 t85 t86 t87 t88 t89 t90 t91 t92 t93 j Ds wx hop hBx k6 k7 hMk
          obtain ⟨rfl, rfl⟩ := HB3.out hz0 hz1 hop
          have hbx := (hbe.trans (hG.mono (Below.size hbe))).trans hBx
          try go_wp2
          refine ret_marks (n₀ := w.heap.size) (hMk) fun w' hs => ⟨.tuple #[.int .i64 0, .int .i64 18], ?_, rfl, (hbx).trans hs.below⟩
          have u6 := (hs.blk (k6)).cell 0
          have u7 := (hs.blk (k7)).cell 0
          simp [results, Tryz.results75, go_sem, u6, u7]
        · clear hl3
          intro t0 t1 t2 t4 t9 t10 t11 t12 t13 t14 t15 t16 t17 t18 t19 t20 t21 t22 t23 t24 t25 t26 t27 t28 t29 t30 t31 t32 t33 t34 t35 t36 t37 t38 t39 t40 t41 t42 t43 t44 t45 t46 t47 t48 t49 t50 t51 t52 t53 t54 t55 t56 t57 t58 t59 t60 t61 t62 t63 t64 t65 t68 t69 t70 t71 t72 t73 t74 t75 t76 t77 t78 t79 t80 t81 t82 t83 t84 t85 t86 t87 t88 t89 t90 t91 t92 t93 Ds wx hall hGx hMk
          obtain ⟨rfl, rfl⟩ := HB4.out hz0 hz1 hall
          have CX := (CM.gr hG).gr hGx
          have k6 := CX.b6
          have k7 := CX.b7
          have hbx := (hbe.trans (hG.mono (Below.size hbe))).trans (hGx.mono (Nat.le_trans (Below.size hbe) (Below.size hG)))
          have c6 := k6.cell 0
          have c7 := k7.cell 0
          have kf6 := k6.frozen
          have kf7 := k7.frozen
          have kl6 := k6.lt
          have kl7 := k7.lt
          obtain ⟨f50, f51, f52⟩ := blk2c CX.b5
          have l5 := CX.b5.lt
          go_wp2
          refine ret_marks (n₀ := w.heap.size) (((hMk.setCell k6 _).setCell (k7.far (p := ⟨w.heap.size + 1 + 1, 0, none⟩) (by first | omega | (simp; done) | (simp; omega)) _) _)) fun w' hs => ⟨.tuple #[.int .i64 ((Fl.length : Int) + Sl.length), .int .i64 0], ?_, rfl, ((hbx.setCell (by simp; omega) _).setCell (by simp; omega) _).trans hs.below⟩
          have u6 := (hs.blk ((k6.set_ 0 (.int .i64 ((Fl.length : Int) + Sl.length))).far (p := ⟨w.heap.size + 1 + 1 + 1, 0, none⟩) (by first | omega | (simp; done) | (simp; omega)) (.int .i64 0))).cell 0
          have u7 := (hs.blk ((k7.far (p := ⟨w.heap.size + 1 + 1, 0, none⟩) (by first | omega | (simp; done) | (simp; omega)) (.int .i64 ((Fl.length : Int) + Sl.length))).set_ 0 (.int .i64 0))).cell 0
          simp [results, Tryz.results75, go_sem, u6, u7]
end Go.Proofs.YtidgeagpgllkeaaGreat

namespace Go.Proofs.YtidgeagpgllkeaaGreat
open Go.RowKit

theorem MkOk.gr {l : List Mk} {A : Option Addr} {w w' : World} (h : MkOk l A w.heap.size w) (g : Gr w w') : MkOk l A w'.heap.size w' := ⟨h.len, (h.row.below g (Nat.le_refl _)).more (Below.size g), h.size⟩
theorem Row.gr {A : Option Addr} {size n : Nat} {xs : List Value} {w w' : World} (h : Row w w.heap.size size A n xs) (g : Gr w w') : Row w' w'.heap.size size A n xs := (h.below g (Nat.le_refl _)).more (Below.size g)
theorem wp_append_none_op {P : Program} (w : World) {o : Oper} {a : Act} {K : Act → World → Prop} {Q : Exit → Act → World → Prop} (s x : Operand) (t : TypeId)
    (ho : o.op = .call { callee := .builtin .append, args := #[s, x], argTypes := #[t, t] }) {v' : Value} (hr : (Builtin.append_ #[t, t] o.type #[a.eval s, a.eval x]).run P w = .ok v' w) (h : K (a.put o.dst v') w) : o.wp P a w K Q := by
  unfold Oper.wp execOp
  simp only [ho, resolve, invoke, builtin, Sem.run_bind, Sem.run_pure, Result.andThen_ok, List.map_toArray, List.map_cons, List.map_nil, hr]
  exact h

end Go.Proofs.YtidgeagpgllkeaaGreat

namespace Go.Proofs.YtidgeagpgllkeaaGreat
open Go.RowKit

theorem own_mk {w : World} {base : Nat} {D : Option Addr} {d : Nat} {l : List Mk} (h : w.ownsRow base 79 6 (.slice D l.length d) l.length (mksC l)) (hl : l.length ≤ 1000000000) (hs : ∀ m ∈ l, m.nm.size ≤ 1000000000000) : MkOk l D w.heap.size w := by
  obtain ⟨A, c, e, m, _⟩ := copied h hl hs
  have e1 := Value.slice.inj e
  rw [e1.1]; exact m
theorem wp_append_own_none' {P : Program} (w : World) {o : Oper} {a : Act} {K : Act → World → Prop} {Q : Exit → Act → World → Prop} (s x : Operand) (t : TypeId)
    (ho : o.op = .call { callee := .builtin .append, args := #[s, x], argTypes := #[t, t] })
    (base : Nat) (e : TypeId) (i : TypeInfo) (size : Nat) (ht : P.underlying t = some (.slice e)) (hi : P.info? e = some i)
    (v : Value) (n : Nat) (xs : List Value) (hs : a.eval s = v) (hown : w.ownsRow base e size v n xs) (hx : a.eval x = .slice none 0 0)
    (h : K (a.put o.dst v) w) : o.wp P a w K Q := by
  have hrun := run_append_owned_none (P := P) (w := w) base t o.type e i size ht hi v n xs hown
  unfold Oper.wp
  simp [execOp, ho, resolve, invoke, builtin, hs, hx, hrun, Result.andThen]
  exact h
theorem wp_append_row (w : World) {o : Oper} {a : Act} {K : Act → World → Prop} {Q : Exit → Act → World → Prop} (s x : Operand)
    (ho : o.op = .call { callee := .builtin .append, args := #[s, x], argTypes := #[87, 87] })
    (base : Nat) (v : Value) (P : List (Int × Int)) (A2 : Option Addr) (c2 B : Nat) (hs : a.eval s = v) (hown : w.ownsRow base 25 2 v 0 []) (hx : a.eval x = .slice A2 P.length c2) (hR : Row w B 2 A2 P.length (cellsC P)) (hN : A2 = none → c2 = 0) (hP : P.length ≤ 1000) (hbase : base ≤ w.heap.size)
    (h : ∀ v' w', w'.ownsRow base 25 2 v' P.length (cellsC P) → w.grownBy w' v.ownBlock → K (a.put o.dst v') w') : o.wp Tryz.prog a w K Q := by
  obtain ⟨i0, hi, hz0, hz1, hz2⟩ := info_parts infoCell
  cases A2 with
  | none =>
    have h0 : P.length = 0 := by
      rcases Nat.eq_zero_or_pos P.length with h | h
      · exact h
      · obtain ⟨_, _, h, _⟩ := hR.2 h; cases h
    have hnil : P = [] := List.eq_nil_of_length_eq_zero h0
    subst hnil
    rw [hN rfl] at hx
    exact wp_append_own_none' w s x _ ho base 25 i0 2 Tryz.underlying87 hi v 0 [] hs hown hx (h v w hown ⟨rfl, rfl, rfl, Nat.le_refl _, fun _ _ _ => rfl⟩)
  | some ad =>
    refine wp_append_at w s x _ ho base 25 i0 (.agg #[.int .i64 0, .int .i64 0]) 2 16 Tryz.underlying87 hi hz0 hz1 hz2 rfl (by decide) v 0 [] hs hown ad P.length c2 (cellsC P) hx (cellsC_len P) (row_cells hR) (fun u hu => ?_) (by unfold maxLen; omega) (by omega) hbase (fun v' w' h1 h2 _ => h v' w' (by simpa using h1) h2)
    simp only [cellsC, List.mem_flatMap] at hu
    obtain ⟨m, _, hm⟩ := hu
    simp [encC] at hm
    rcases hm with rfl | rfl <;> rfl

end Go.Proofs.YtidgeagpgllkeaaGreat
