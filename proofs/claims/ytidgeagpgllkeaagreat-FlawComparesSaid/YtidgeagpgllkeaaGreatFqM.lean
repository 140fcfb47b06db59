/- Contract: the cover with as many members as there are pairs, whole. -/
import Derived.Test.YtidgeagpgllkeaaGreatZdFqL
namespace Go.Proofs.YtidgeagpgllkeaaGreat
open Go.RowKit Go.Shelf

theorem run_store_fn {P : Program} {w : World} (a : Addr) (m : Mode) (fn : Fn) (first captured : Array Value) : (store a (.func fn first captured) m).run P w = stored P w a (.func fn first captured) m := run_store P w a _ m rfl
attribute [local go_sem] run_store_fn
theorem KI.bound {R : Int → Int → Bool} {m n : Nat} {T F : List Int} (h : KI R m n (ofL F) (ofL T)) : ∀ (k : Nat) (x : Int), F[k]? = some x → x < (n : Int) := by
  intro k x hx
  by_cases h0 : 0 ≤ x
  · have h1 : ofL F k = ((x.toNat : Nat) : Int) := by rw [ofL_at hx]; omega
    have h2 := (h.mt.two x.toNat k).2 h1
    have := h.small x.toNat (by omega)
    omega
  · omega

set_option maxRecDepth 100000 in
set_option maxHeartbeats 8000000 in
theorem cover_any (V : World) (q p0 p1 B : Nat) (l0 l1 : List Mk) (A0 A1 : Option Addr) (c0 c1 : Nat) (slack : Int) (T F : List Int) (h0 : Row V B 6 A0 l0.length (mksC l0)) (h1 : Row V B 6 A1 l1.length (mksC l1)) (hB : B ≤ V.heap.size) (HS0 : Hid (∀ m ∈ l0, MkS m)) (HS1 : Hid (∀ m ∈ l1, MkS m)) (hn0 : l0.length ≤ 1000) (hn1 : l1.length ≤ 1000) (w : World) (M : MaM V q p0 p1 (.slice A0 l0.length c0) (.slice A1 l1.length c1) l0.length l1.length slack T F w)
    (HK : Hid (KI (relV l0 l1 slack) l1.length l0.length (ofL F) (ofL T))) :
    Calls Tryz.prog 138 #[.pointer (some ⟨q, 0, none⟩)] w fun e w' => ∃ (AF AS : Option Addr) (cF cS : Nat) (x0 x1 : Nat → Bool), e = .returned (.agg #[.slice AF (numsV l0.length (fun a => !x0 a)).length cF, .slice AS (numsV l1.length x1).length cS]) ∧
      w'.ownsRow w.heap.size 3 1 (.slice AF (numsV l0.length (fun a => !x0 a)).length cF) (numsV l0.length (fun a => !x0 a)).length (intsC (numsV l0.length (fun a => !x0 a))) ∧ w'.ownsRow w.heap.size 3 1 (.slice AS (numsV l1.length x1).length cS) (numsV l1.length x1).length (intsC (numsV l1.length x1)) ∧
      Rch (relV l0 l1 slack) l0.length l1.length (ofL F) (ofL T) x0 x1 ∧ Below w.heap.size w w' := by
  obtain ⟨D, hD, hfree⟩ := HK.out.dead
  have HD := Lib.hid hD
  have HFR := Lib.hid hfree
  have HF := Lib.hid HK.out.bound
  clear hD hfree
  have bm := ((Blk.new w 195 #[.pointer (some ⟨q, 0, none⟩)]).alloc (.cells #[.slice none 0 0, .slice none 0 0] 126)).alloc (.cells #[.slice none 0 0, .slice none 0 0] 223)
  have br := (Blk.new (w.alloc (.cells #[.pointer (some ⟨q, 0, none⟩)] 195)) 126 #[.slice none 0 0, .slice none 0 0]).alloc (.cells #[.slice none 0 0, .slice none 0 0] 223)
  have bb := Blk.new ((w.alloc (.cells #[.pointer (some ⟨q, 0, none⟩)] 195)).alloc (.cells #[.slice none 0 0, .slice none 0 0] 126)) 223 #[.slice none 0 0, .slice none 0 0]
  have hBB : Gr w (((w.alloc (.cells #[.pointer (some ⟨q, 0, none⟩)] 195)).alloc (.cells #[.slice none 0 0, .slice none 0 0] 126)).alloc (.cells #[.slice none 0 0, .slice none 0 0] 223)) := (((Below.refl _ _).alloc (Nat.le_refl _) _).alloc (by simp) _).alloc (by simp; omega) _
  simp only [World.size_alloc] at br bb
  have MA := M.gr hBB
  obtain ⟨m0, m1, m2, m3, m4, mf⟩ := blk5c MA.box
  have lq := MA.box.lt
  have lqw := M.box.lt
  have d1 := bm.cell 0
  have ld := bm.lt
  have hVw := M.vsize
  have hlow := M.low
  go_enter Tryz.func138, Tryz.ntmps138
  go_wp2_with fail
  obtain ⟨W, hW⟩ : ∃ W, (((w.alloc (.cells #[.pointer (some ⟨q, 0, none⟩)] 195)).alloc (.cells #[.slice none 0 0, .slice none 0 0] 126)).alloc (.cells #[.slice none 0 0, .slice none 0 0] 223)) = W := ⟨_, rfl⟩
  rw [hW] at bm br bb hBB MA m0 m1 m2 m3 m4 mf lq d1 ld ⊢
  clear hW
  have hl := coverLoop0 (V := V) (w := w) (wr0 := W) (rb := w.heap.size + 1 + 1) (zm := w.heap.size) (zr := w.heap.size + 1) (q := q) (n0 := l0.length) (n1 := l1.length) (c0 := c0) (c1 := c1) (A0 := A0) (A1 := A1) hn0 hn1 MA.r0.below hBB hVw (by omega) bb bm
  unfold bodyOf at hl
  conv at hl in (Option.getD _ Code.skip) => whnf
  refine hl br _ ?_
  clear hl m0 m1 m2 m3 m4 mf lq d1 ld bm br bb
  intro t4 t5 t18 t19 t20 t21 t22 t23 t24 t25 t26 t27 b0 b1 w1 hb0 hb1 hne bb hx hy bm br hw1
  have M1 := M.gr hw1
  have lb1 := bb.lt
  have hz1 := Below.size hw1
  have hV1 := M1.vsize
  have lq1 := M1.box.lt
  have lp0 := M1.r0.lt
  have lp1 := M1.r1.lt
  have lx0 := hx.lt
  have ly0 := hy.lt
  have lm1 := bm.lt
  have lr1 := br.lt
  have bf := Blk.new w1 224 #[.nilFunc]
  have f0 := bf.cell 0
  have ff := bf.frozen
  have lf := bf.lt
  have hgA : Gr w1 (w1.alloc (.cells #[.nilFunc] 224)) := (Below.refl _ _).alloc (Nat.le_refl _) _
  obtain ⟨FV, hFV⟩ : ∃ FV, FV = Value.func (.func 162) #[] #[.pointer (some ⟨w.heap.size + 1 + 1, 0, none⟩), .pointer (some ⟨w.heap.size, 0, none⟩), .pointer (some ⟨w1.heap.size, 0, none⟩)] := ⟨_, rfl⟩
  obtain ⟨W2, hW2⟩ : ∃ W2, (w1.alloc (.cells #[.nilFunc] 224)).setCell ⟨w1.heap.size, 0, none⟩ FV = W2 := ⟨_, rfl⟩
  have hb2 : Below w1.heap.size w1 W2 := by rw [← hW2]; exact hgA.setCell (Nat.le_refl _) _
  have bf2 : Blk W2 w1.heap.size 224 #[FV] := by rw [← hW2]; exact bf.set_ 0 FV
  have hxb : BoM V b0 l0.length (List.replicate l0.length false) W2 := hx.at_ (hx.below.trans (hb2.mono hV1)) (hb2.block _ lx0)
  have hyb : BoM V b1 l1.length (List.replicate l1.length false) W2 := hy.at_ (hy.below.trans (hb2.mono hV1)) (hb2.block _ ly0)
  have M2 := M1.under hb2 lq1 lp0 lp1
  have bb2 := bb.below hb2 lb1
  have bm2 := bm.below hb2 lm1
  have br2 := br.below hb2 lr1
  obtain ⟨m0, m1, m2, m3, m4, mf⟩ := blk5c M2.box
  have lq2 := M2.box.lt
  have d1 := bm2.cell 0
  have ld := bm2.lt
  rw [hFV] at bf2
  have C : ReC V (w.heap.size + 1 + 1) w.heap.size w1.heap.size q p0 p1 b0 b1 l0.length l1.length (.slice A0 l0.length c0) (.slice A1 l1.length c1) slack T F _ _ W2 := ⟨bb2, bm2, bf2, M2, hxb, hyb, hne⟩
  rw [hFV] at hW2
  have hw2 : Below w.heap.size w W2 := hw1.trans (hb2.mono hz1)
  clear bf2 hxb hyb hgA hb2 hFV M1 M hx hy bb bm br lx0 ly0 lp0 lp1
  go_wp2_with (rw [hW2])
  have hl := coverLoop1 V (w.heap.size + 1 + 1) w.heap.size w1.heap.size q p0 p1 b0 b1 B l0 l1 A0 A1 c0 c1 slack T F h0 h1 hB HS0 HS1 hn0 hn1 D HD HF HFR (wr0 := W2)
  unfold bodyOf at hl
  conv at hl in (Option.getD _ Code.skip) => whnf
  refine hl C _ ?_
  clear hl m0 m1 m2 m3 m4 mf lq2 d1 ld bm2 bb2 M2
  intro t7 t8 t35 t36 t37 t38 t39 t40 t41 t42 t43 t44 t45 X Y w3 C3 hF3 hrch
  have HRC := Lib.hid hrch
  clear hrch
  have br3 := hF3.blk br2 (C.x.neb br2 (by decide)) (C.y.neb br2 (by decide)) (C.y.neb br2 (by decide))
  have hw3 : Below w.heap.size w w3 := hw2.trans (hF3.under hb0 hb1 hb1 (Below.size hw2))
  clear C hF3 br2 hw2 hb0 hb1
  have hz3 := Below.size hw3
  have hg4 : Gr w3 (w3.alloc (.cells #[.slice none 0 0, .slice none 0 0] 126)) := (Below.refl _ _).alloc (Nat.le_refl _) _
  have bz := Blk.new w3 126 #[.slice none 0 0, .slice none 0 0]
  obtain ⟨W4, hW4⟩ : ∃ W4, w3.alloc (.cells #[.slice none 0 0, .slice none 0 0] 126) = W4 := ⟨_, rfl⟩
  rw [hW4] at bz hg4
  have rb3 := C3.rbx
  have lr3 := C3.rbx.lt
  have rb4 := C3.rbx.gr hg4
  obtain ⟨x0, x1, xf⟩ := blk2c rb4
  have lx := rb4.lt
  have C4 : CvM V w3 w3.heap.size b0 b1 l0.length l1.length X Y (.slice none 0 0) (.slice none 0 0) (numsV 0 (fun a => !atB X a)) (numsV 0 (atB Y)) W4 := ⟨C3.x.gr hg4, C3.y.gr hg4, bz, World.ownsRow_nil _ _ _ _, World.ownsRow_nil _ _ _ _, (fun b h => by cases h), hg4, C3.m.vsize, Nat.le_refl _⟩
  have HC3 := Lib.hid C3
  clear C3 bz
  go_wp2_with (rw [hW4])
  have hl := coverLoop2 (V := V) (w := w3) (wr0 := W4) (z := w3.heap.size) (b0 := b0) (b1 := b1) (N := l0.length) (M := l1.length) (X := X) (Y := Y) (vF := .slice none 0 0) (vS := .slice none 0 0) (Sl := numsV 0 (atB Y)) hn0
  unfold bodyOf at hl
  conv at hl in (Option.getD _ Code.skip) => whnf
  refine hl C4 _ ?_
  clear hl x0 x1 xf lx rb4 C4 hW4 hg4
  intro t10 t11 t49 t50 t51 t52 t53 t54 t55 t56 t57 t58 t59 t60 t61 t62 uF uS w5 C5
  have rb5 := rb3.below C5.below lr3
  obtain ⟨x0, x1, xf⟩ := blk2c rb5
  have lx := rb5.lt
  go_wp2_with fail
  have hl := coverLoop3 (V := V) (w := w3) (wr0 := w5) (z := w3.heap.size) (b0 := b0) (b1 := b1) (N := l0.length) (M := l1.length) (X := X) (Y := Y) (vF := uF) (vS := uS) (Fl := numsV l0.length (fun a => !atB X a)) hn1
  unfold bodyOf at hl
  conv at hl in (Option.getD _ Code.skip) => whnf
  refine hl C5 _ ?_
  clear hl x0 x1 xf lx rb5 C5
  intro t12 t13 t66 t67 t68 t69 t70 t71 t72 t73 t74 t75 t76 t77 t78 uF uS w6 C6
  have br6 := br3.below C6.below br3.lt
  obtain ⟨e0, e1, ef⟩ := blk2c C6.box
  obtain ⟨d0, d1, df⟩ := blk2c br6
  have lz := C6.box.lt
  have lr6 := br6.lt
  have hfF := C6.f
  have hsS := C6.s
  obtain ⟨AF, cF, rfl⟩ := own_slice hfF
  obtain ⟨AS, cS, rfl⟩ := own_slice hsS
  have hz6 := Below.size C6.below
  have hbr := br3.lt
  have oF := own_blk_ne hfF br6 (by decide)
  have oS := own_blk_ne hsS br6 (by decide)
  have hB6 : Below w.heap.size w w6 := hw3.trans (C6.below.mono hz3)
  clear C6
  go_wp2
  obtain ⟨u0, u1, _⟩ := blk2c (br6.set2 (.slice AF (numsV l0.length (fun a => !atB X a)).length cF) (.slice AS (numsV l1.length (atB Y)).length cS))
  refine bodyPost_ret (v := .agg #[.slice AF (numsV l0.length (fun a => !atB X a)).length cF, .slice AS (numsV l1.length (atB Y)).length cS]) (by simp [results, Tryz.results138, go_sem, u0, u1]) rfl ⟨AF, AS, cF, cS, atB X, atB Y, rfl, ?_, ?_, HRC.out, (hB6.setCell (by simp) _).setCell (by simp) _⟩
  · exact ownsRow_setCell_other (ownsRow_setCell_other (own_lower hfF hz3) oF _) oF _
  · exact ownsRow_setCell_other (ownsRow_setCell_other (own_lower hsS hz3) oS _) oS _
end Go.Proofs.YtidgeagpgllkeaaGreat
