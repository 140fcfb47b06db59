/- Contract: the reference's area of a cell, where there is none. Contract: the reference's area of a cell, where there is one (the loop over areas, and the whole). -/
import Derived.Test.YtidgeagpgllkeaaGreatZaFnI
import Derived.Test.YtidgeagpgllkeaaGreatZaFnL
namespace Go.Proofs.YtidgeagpgllkeaaGreat
open Go.RowKit

set_option maxRecDepth 100000 in
set_option maxHeartbeats 4000000 in
theorem refAreaAt_no (l : List Sc) (A : Option Addr) (cap B : Nat) (level : Int) (corners : Bool) (r c : Int) (w : World) (hl : ScOk l A B w) (hB : B ≤ w.heap.size) (HG : Hid (∀ s ∈ l, ScGood s)) (hr : -1000000 ≤ r ∧ r ≤ 1000000) (hc : -1000000 ≤ c ∧ c ≤ 1000000) (h0 : atV l r c < 0) :
    Calls Tryz.prog 64 #[.slice A l.length cap, .agg #[.int .i64 level, .bool corners], .agg #[.int .i64 r, .int .i64 c]] w fun e w' => e = .returned (.tuple #[.agg #[.slice none 0 0, .int .i64 0, .int .i64 0, .int .i64 0], .int .i64 6]) ∧ Below w.heap.size w w' := by
  have b4 := ((Blk.new w 24 #[.int .i64 level, .bool corners]).alloc (.cells #[.int .i64 r, .int .i64 c] 25)).alloc (.cells #[.slice none 0 0, .int .i64 0, .int .i64 0, .int .i64 0] 91)
  have b5 := (Blk.new (w.alloc (.cells #[.int .i64 level, .bool corners] 24)) 25 #[.int .i64 r, .int .i64 c]).alloc (.cells #[.slice none 0 0, .int .i64 0, .int .i64 0, .int .i64 0] 91)
  have b6 := Blk.new ((w.alloc (.cells #[.int .i64 level, .bool corners] 24)).alloc (.cells #[.int .i64 r, .int .i64 c] 25)) 91 #[.slice none 0 0, .int .i64 0, .int .i64 0, .int .i64 0]
  have hBB : Below w.heap.size w (((w.alloc (.cells #[.int .i64 level, .bool corners] 24)).alloc (.cells #[.int .i64 r, .int .i64 c] 25)).alloc (.cells #[.slice none 0 0, .int .i64 0, .int .i64 0, .int .i64 0] 91)) := (by repeat (first | (with_reducible exact Below.refl _ _) | (with_reducible assumption) | ((with_reducible refine Below.setCell ?_ ?_ _); rotate_left; · (first | exact Nat.le_refl _ | (simp; done) | (simp; omega) | omega)) | ((with_reducible refine Below.alloc ?_ ?_ _); rotate_left; · (first | exact Nat.le_refl _ | (simp; done) | (simp; omega) | omega)) | (with_reducible apply Below.drew) | (with_reducible apply below_drewN') | (refine Below.trans ?_ (Below.mono (by assumption) (by first | exact Nat.le_refl _ | (simp; done) | (simp; omega) | omega))) | exact Below.refl _ _ | assumption))
  simp only [World.size_alloc] at b5 b6
  obtain ⟨d0, d1, f5⟩ := blk2c b5
  have l5 := b5.lt
  go_enter Tryz.func64, Tryz.ntmps64
  go_wp2_with fail
  obtain ⟨W, hW⟩ : ∃ W, ((w.alloc (.cells #[.int .i64 level, .bool corners] 24)).alloc (.cells #[.int .i64 r, .int .i64 c] 25)).alloc (.cells #[.slice none 0 0, .int .i64 0, .int .i64 0, .int .i64 0] 91) = W := ⟨_, rfl⟩
  rw [hW] at b4 b5 b6 hBB ⊢
  clear hW d0 d1 f5 l5
  refine (refAt_any l A cap B r c _ (hl.below hBB hB) (by have := Below.size hBB; omega) HG hr hc).mono ?_
  rintro e w1 ⟨rfl, hB1⟩
  replace b4 := b4.gr hB1
  replace b5 := b5.gr hB1
  replace b6 := b6.gr hB1
  replace hBB := hBB.trans (hB1.mono (Below.size hBB))
  clear hB1
  obtain ⟨c0, c1, f4⟩ := blk2c b4
  obtain ⟨y0, y1, y2, y3, yf⟩ := blk4 b6
  have l4 := b4.lt
  have l6 := b6.lt
  obtain ⟨G, hG⟩ : ∃ G, atV l r c = G := ⟨_, rfl⟩
  rw [hG] at h0 ⊢
  clear hG
  go_wp2
  have b7 := b6.set4 (.slice none 0 0) (.int .i64 0) (.int .i64 0) (.int .i64 0)
  obtain ⟨u0, u1, u2, u3, _⟩ := blk4 b7
  exact bodyPost_ret (v := .tuple #[.agg #[.slice none 0 0, .int .i64 0, .int .i64 0, .int .i64 0], .int .i64 6]) (by simp [results, Tryz.results64, go_sem, u0, u1, u2, u3]) rfl ⟨rfl, Below.set4 hBB (by omega)⟩

set_option maxRecDepth 100000 in
set_option maxHeartbeats 4000000 in
theorem refAreaAt_low (l : List Sc) (A : Option Addr) (cap B : Nat) (level : Int) (corners : Bool) (r c : Int) (w : World) (hl : ScOk l A B w) (hB : B ≤ w.heap.size) (HG : Hid (∀ s ∈ l, ScGood s)) (hr : -1000000 ≤ r ∧ r ≤ 1000000) (hc : -1000000 ≤ c ∧ c ≤ 1000000) (h0 : 0 ≤ atV l r c) (h1 : atV l r c < level) :
    Calls Tryz.prog 64 #[.slice A l.length cap, .agg #[.int .i64 level, .bool corners], .agg #[.int .i64 r, .int .i64 c]] w fun e w' => e = .returned (.tuple #[.agg #[.slice none 0 0, .int .i64 0, .int .i64 0, .int .i64 0], .int .i64 12]) ∧ Below w.heap.size w w' := by
  have b4 := ((Blk.new w 24 #[.int .i64 level, .bool corners]).alloc (.cells #[.int .i64 r, .int .i64 c] 25)).alloc (.cells #[.slice none 0 0, .int .i64 0, .int .i64 0, .int .i64 0] 91)
  have b5 := (Blk.new (w.alloc (.cells #[.int .i64 level, .bool corners] 24)) 25 #[.int .i64 r, .int .i64 c]).alloc (.cells #[.slice none 0 0, .int .i64 0, .int .i64 0, .int .i64 0] 91)
  have b6 := Blk.new ((w.alloc (.cells #[.int .i64 level, .bool corners] 24)).alloc (.cells #[.int .i64 r, .int .i64 c] 25)) 91 #[.slice none 0 0, .int .i64 0, .int .i64 0, .int .i64 0]
  have hBB : Below w.heap.size w (((w.alloc (.cells #[.int .i64 level, .bool corners] 24)).alloc (.cells #[.int .i64 r, .int .i64 c] 25)).alloc (.cells #[.slice none 0 0, .int .i64 0, .int .i64 0, .int .i64 0] 91)) := (by repeat (first | (with_reducible exact Below.refl _ _) | (with_reducible assumption) | ((with_reducible refine Below.setCell ?_ ?_ _); rotate_left; · (first | exact Nat.le_refl _ | (simp; done) | (simp; omega) | omega)) | ((with_reducible refine Below.alloc ?_ ?_ _); rotate_left; · (first | exact Nat.le_refl _ | (simp; done) | (simp; omega) | omega)) | (with_reducible apply Below.drew) | (with_reducible apply below_drewN') | (refine Below.trans ?_ (Below.mono (by assumption) (by first | exact Nat.le_refl _ | (simp; done) | (simp; omega) | omega))) | exact Below.refl _ _ | assumption))
  simp only [World.size_alloc] at b5 b6
  obtain ⟨d0, d1, f5⟩ := blk2c b5
  have l5 := b5.lt
  go_enter Tryz.func64, Tryz.ntmps64
  go_wp2_with fail
  obtain ⟨W, hW⟩ : ∃ W, ((w.alloc (.cells #[.int .i64 level, .bool corners] 24)).alloc (.cells #[.int .i64 r, .int .i64 c] 25)).alloc (.cells #[.slice none 0 0, .int .i64 0, .int .i64 0, .int .i64 0] 91) = W := ⟨_, rfl⟩
  rw [hW] at b4 b5 b6 hBB ⊢
  clear hW d0 d1 f5 l5
  refine (refAt_any l A cap B r c _ (hl.below hBB hB) (by have := Below.size hBB; omega) HG hr hc).mono ?_
  rintro e w1 ⟨rfl, hB1⟩
  replace b4 := b4.gr hB1
  replace b5 := b5.gr hB1
  replace b6 := b6.gr hB1
  replace hBB := hBB.trans (hB1.mono (Below.size hBB))
  clear hB1
  obtain ⟨c0, c1, f4⟩ := blk2c b4
  obtain ⟨y0, y1, y2, y3, yf⟩ := blk4 b6
  have l4 := b4.lt
  have l6 := b6.lt
  obtain ⟨G, hG⟩ : ∃ G, atV l r c = G := ⟨_, rfl⟩
  rw [hG] at h0 ⊢
  rw [hG] at h1
  clear hG
  go_wp2
  have b7 := b6.set4 (.slice none 0 0) (.int .i64 0) (.int .i64 0) (.int .i64 0)
  obtain ⟨u0, u1, u2, u3, _⟩ := blk4 b7
  exact bodyPost_ret (v := .tuple #[.agg #[.slice none 0 0, .int .i64 0, .int .i64 0, .int .i64 0], .int .i64 12]) (by simp [results, Tryz.results64, go_sem, u0, u1, u2, u3]) rfl ⟨rfl, Below.set4 hBB (by omega)⟩
end Go.Proofs.YtidgeagpgllkeaaGreat

namespace Go.Proofs.YtidgeagpgllkeaaGreat
open Go.RowKit

set_option maxRecDepth 100000 in
set_option maxHeartbeats 8000000 in
theorem atLoop1 {V wr0 : World} {q5 : Nat} {g : Int → Int → Int} {As : List ArA} {A9 : Option Addr} {c9 : Nat} {r c : Int} (hA : ArsOk g As A9 V.heap.size V) (h5 : Blk V q5 25 #[.int .i64 r, .int .i64 c]) {x0 x1 x2 x3 : Value} (hB : Below V.heap.size V wr0) (b10 : Blk wr0 V.heap.size 91 #[x0, x1, x2, x3]) {t0 t1 t2 t3 t4 t6 t7 t8 t12 t13 t14 t15 t16 t17 t18 t19 t20 t21 t22 t23 t24 t25 t26 t27 t28 t29 t30 t31 t32 t33 t34 t35 t36 t37 t38 t39 t40 t41 t42 t43 t44 t45 t46 t47 t48 t49 t50 t51 t52 t53 t54 t55 t56 t57 t58 : Value} {ds : List Deferred} (Q' : Exit → Act → World → Prop)
    (h : ∀ (t11 t12 t28 t29 t30 t31 t32 t33 t34 t35 t36 t37 t38 t39 t40 t41 t42 t43 t44 t45 t46 t47 t48 t49 t50 t51 t52 t53 t54 t55 t56 t57 y0 y1 y2 y3 : Value) (w' : World), [y0, y1, y2, y3] = outL g (r, c) As [x0, x1, x2, x3] → Below V.heap.size V w' → Blk w' V.heap.size 91 #[y0, y1, y2, y3] → Q' (.exit 0) ⟨#[t0, t1, t2, t3, t4, .pointer (some ⟨q5, 0, none⟩), t6, t7, t8, .slice A9 As.length c9, .pointer (some ⟨V.heap.size, 0, none⟩), t11, t12, t13, t14, t15, t16, t17, t18, t19, t20, t21, t22, t23, t24, t25, t26, t27, t28, t29, t30, t31, t32, t33, t34, t35, t36, t37, t38, t39, t40, t41, t42, t43, t44, t45, t46, t47, t48, t49, t50, t51, t52, t53, t54, t55, t56, t57, t58], ds⟩ w') :
    (Code.loop (bodyOf Tryz.f64 0)).wp Tryz.prog Q' ⟨#[t0, t1, t2, t3, t4, .pointer (some ⟨q5, 0, none⟩), t6, t7, t8, .slice A9 As.length c9, .pointer (some ⟨V.heap.size, 0, none⟩), .int .i64 0, t12, t13, t14, t15, t16, t17, t18, t19, t20, t21, t22, t23, t24, t25, t26, t27, t28, t29, t30, t31, t32, t33, t34, t35, t36, t37, t38, t39, t40, t41, t42, t43, t44, t45, t46, t47, t48, t49, t50, t51, t52, t53, t54, t55, t56, t57, t58], ds⟩ wr0 := by
  have H := Lib.hid h; clear h
  have HA := Lib.hid hA; have H5 := Lib.hid h5
  have lA := hA.len
  clear hA h5
  conv in (bodyOf _ _) => whnf
  dsimp only
  go_loopw [11] (fun s11 wr => ∃ (i : Nat) (y0 y1 y2 y3 : Value), i ≤ As.length ∧ s11 = .int .i64 i ∧ Hid ([y0, y1, y2, y3] = outL g (r, c) (As.take i) [x0, x1, x2, x3]) ∧ Below V.heap.size V wr ∧ Blk wr V.heap.size 91 #[y0, y1, y2, y3]) (fun s11 _ => As.length - (intOf s11).toNat)
  case atStart => exact ⟨0, x0, x1, x2, x3, Nat.zero_le _, by go_num, Lib.hid rfl, hB, b10⟩
  case round =>
    clear hB b10
    obtain ⟨i, y0, y1, y2, y3, hi, rfl, HI, hBx, b10⟩ := hrel
    by_cases hlt : i < As.length
    · have i1 : ((i : Int) < (As.length : Int)) := by omega
      go_wp2
      have hl2 := atLoop2 (V := V) (wr0 := wr) (q5 := q5) (g := g) (As := As) (A9 := A9) (c9 := c9) (r := r) (c := c) (x0 := y0) (x1 := y1) (x2 := y2) (x3 := y3) HA.out H5.out hlt hBx
      unfold bodyOf at hl2
      conv at hl2 in (Option.getD _ Code.skip) => whnf
      refine hl2 b10 _ ?_
      clear hl2 b10
      intro t12 t34 t35 t36 t37 t38 t39 t40 t41 t42 t43 t44 t45 t46 t47 t48 t49 t50 t51 t52 t53 t54 t55 t56 t57 z0 z1 z2 z3 w6 hP hB6 b6
      have HN : Hid ([z0, z1, z2, z3] = outL g (r, c) (As.take (i + 1)) [x0, x1, x2, x3]) := Lib.hid (by rw [outL_succ (List.getElem?_eq_getElem hlt), ← HI.out]; exact hP)
      clear hP HI
      go_wp2
      exact ⟨⟨i + 1, z0, z1, z2, z3, by omega, by go_num, HN, hB6, b6⟩, by simp [intOf]; omega⟩
    · obtain rfl : i = As.length := by omega
      go_wp2
      exact H.out _ _ _ _ _ _ _ _ _ _ _ _ _ _ _ _ _ _ _ _ _ _ _ _ _ _ _ _ _ _ _ _ y0 y1 y2 y3 wr (by have := HI.out; rwa [List.take_length] at this) hBx b10

set_option maxRecDepth 100000 in
set_option maxHeartbeats 8000000 in
theorem refAreaAt_ok (l : List Sc) (A : Option Addr) (cap B : Nat) (level : Int) (corners : Bool) (r c : Int) (w : World) (hl : ScOk l A B w) (hB : B ≤ w.heap.size) (HG : Hid (∀ s ∈ l, ScGood s)) (hlv : 0 ≤ level) (hn : l.length ≤ 6) (hr : -1000000 ≤ r ∧ r ≤ 1000000) (hc : -1000000 ≤ c ∧ c ≤ 1000000) (h0 : 0 ≤ atV l r c) (h1 : level ≤ atV l r c) :
    Calls Tryz.prog 64 #[.slice A l.length cap, .agg #[.int .i64 level, .bool corners], .agg #[.int .i64 r, .int .i64 c]] w fun e w' => ∃ v cs P, e = .returned (.tuple #[.agg #[v, .int .i64 (peakV (atV l) cs).1, .int .i64 (peakV (atV l) cs).2, .int .i64 (atV l (peakV (atV l) cs).1 (peakV (atV l) cs).2)], .int .i64 0]) ∧ Pls (atV l) level P ∧ cs = compC (atV l) level corners P (r, c) ∧ w'.ownsRow 0 25 2 v cs.length (cellsC cs) ∧ Below w.heap.size w w' := by
  have b4 := ((Blk.new w 24 #[.int .i64 level, .bool corners]).alloc (.cells #[.int .i64 r, .int .i64 c] 25)).alloc (.cells #[.slice none 0 0, .int .i64 0, .int .i64 0, .int .i64 0] 91)
  have b5 := (Blk.new (w.alloc (.cells #[.int .i64 level, .bool corners] 24)) 25 #[.int .i64 r, .int .i64 c]).alloc (.cells #[.slice none 0 0, .int .i64 0, .int .i64 0, .int .i64 0] 91)
  have b6 := Blk.new ((w.alloc (.cells #[.int .i64 level, .bool corners] 24)).alloc (.cells #[.int .i64 r, .int .i64 c] 25)) 91 #[.slice none 0 0, .int .i64 0, .int .i64 0, .int .i64 0]
  have hBB : Below w.heap.size w (((w.alloc (.cells #[.int .i64 level, .bool corners] 24)).alloc (.cells #[.int .i64 r, .int .i64 c] 25)).alloc (.cells #[.slice none 0 0, .int .i64 0, .int .i64 0, .int .i64 0] 91)) := (by repeat (first | (with_reducible exact Below.refl _ _) | (with_reducible assumption) | ((with_reducible refine Below.setCell ?_ ?_ _); rotate_left; · (first | exact Nat.le_refl _ | (simp; done) | (simp; omega) | omega)) | ((with_reducible refine Below.alloc ?_ ?_ _); rotate_left; · (first | exact Nat.le_refl _ | (simp; done) | (simp; omega) | omega)) | (with_reducible apply Below.drew) | (with_reducible apply below_drewN') | (refine Below.trans ?_ (Below.mono (by assumption) (by first | exact Nat.le_refl _ | (simp; done) | (simp; omega) | omega))) | exact Below.refl _ _ | assumption))
  simp only [World.size_alloc] at b5 b6
  obtain ⟨d0, d1, f5⟩ := blk2c b5
  have l5 := b5.lt
  go_enter Tryz.func64, Tryz.ntmps64
  go_wp2_with fail
  obtain ⟨W, hW⟩ : ∃ W, ((w.alloc (.cells #[.int .i64 level, .bool corners] 24)).alloc (.cells #[.int .i64 r, .int .i64 c] 25)).alloc (.cells #[.slice none 0 0, .int .i64 0, .int .i64 0, .int .i64 0] 91) = W := ⟨_, rfl⟩
  rw [hW] at b4 b5 b6 hBB ⊢
  clear hW d0 d1 f5 l5
  refine (refAt_any l A cap B r c _ (hl.below hBB hB) (by have := Below.size hBB; omega) HG hr hc).mono ?_
  rintro e w1 ⟨rfl, hB1⟩
  replace b4 := b4.gr hB1
  replace b5 := b5.gr hB1
  replace b6 := b6.gr hB1
  replace hBB := hBB.trans (hB1.mono (Below.size hBB))
  clear hB1
  have hd4 := blk2c b4
  obtain ⟨c0, c1, f4⟩ := hd4
  have l4 := b4.lt
  have hX := Lib.hid ((abv_iff _ _ _ _).2 ⟨h0, h1⟩)
  obtain ⟨G, hG⟩ : ∃ G, atV l r c = G := ⟨_, rfl⟩
  rw [hG] at h0 h1 ⊢
  clear hG
  go_wp2_with fail
  refine (refAreas_any l A cap B level corners _ (hl.below hBB hB) (by have := Below.size hBB; omega) HG hlv hn).mono ?_
  rintro e w2 ⟨A9, c9, P, As, rfl, hP, hAs, hA, hR, hB2⟩
  have HPX := Lib.hid (outL_area hP hAs ((hP.mem (r, c)).2 hX.out))
  have HP := Lib.hid hP; have HA := Lib.hid hA; have HR := Lib.hid hR
  have hq6 : w.heap.size + 1 + 1 < w1.heap.size := b6.lt
  replace b5 := b5.gr hB2
  replace b6 := b6.gr hB2
  replace hBB := hBB.trans (hB2.mono (Below.size hBB))
  clear hB2 c0 c1 f4 l4 b4 hP hAs hA hR
  have b10 := Blk.new w2 91 #[.slice none 0 0, .int .i64 0, .int .i64 0, .int .i64 0]
  have hgA : Below w2.heap.size w2 (w2.alloc (.cells #[.slice none 0 0, .int .i64 0, .int .i64 0, .int .i64 0] 91)) := (Below.refl _ _).alloc (Nat.le_refl _) _
  have hlp := fun (Z : World) => atLoop1 (V := w2) (wr0 := Z) (q5 := w.heap.size + 1) (g := atV l) (As := As) (A9 := A9) (c9 := c9) (r := r) (c := c) (x0 := .slice none 0 0) (x1 := .int .i64 0) (x2 := .int .i64 0) (x3 := .int .i64 0) HA.out b5
  have HLP := Lib.hid hlp
  clear hlp
  go_wp2
  have hlp := HLP.out (w2.alloc (.cells #[.slice none 0 0, .int .i64 0, .int .i64 0, .int .i64 0] 91))
  unfold bodyOf at hlp
  conv at hlp in (Option.getD _ Code.skip) => whnf
  refine hlp hgA b10 _ ?_
  clear hlp HLP b10 hgA
  intro t11 t12 t28 t29 t30 t31 t32 t33 t34 t35 t36 t37 t38 t39 t40 t41 t42 t43 t44 t45 t46 t47 t48 t49 t50 t51 t52 t53 t54 t55 t56 t57 y0 y1 y2 y3 w3 hO hB3 b10
  obtain ⟨a, ha, he, hE⟩ := HPX.out [.slice none 0 0, .int .i64 0, .int .i64 0, .int .i64 0]
  rw [hE] at hO
  have hrow := own_below (HR.out a ha) hB3
  obtain ⟨va, cs⟩ := a
  dsimp only at he hrow
  unfold encA at hO
  simp only [List.cons.injEq, and_true] at hO
  obtain ⟨rfl, rfl, rfl, rfl⟩ := hO
  obtain ⟨Av, cv, rfl, _, _, _⟩ := own_row2 hrow
  have HCS := Lib.hid he
  replace b6 := b6.gr hB3
  replace hBB := hBB.trans (hB3.mono (Below.size hBB))
  clear hB3 he hE ha
  obtain ⟨y0, y1, y2, y3, yf⟩ := blk4 b6
  obtain ⟨z0, z1, z2, z3, zf⟩ := blk4 b10
  have l6 := b6.lt
  have l10 := b10.lt
  obtain ⟨pr, hpr⟩ : ∃ x, (peakV (atV l) cs).1 = x := ⟨_, rfl⟩
  obtain ⟨pc, hpc⟩ : ∃ x, (peakV (atV l) cs).2 = x := ⟨_, rfl⟩
  obtain ⟨lv, hlv⟩ : ∃ x, atV l pr pc = x := ⟨_, rfl⟩
  have HPR := Lib.hid hpr; have HPC := Lib.hid hpc; have HLV := Lib.hid hlv
  rw [hpr] at z1
  rw [hpc] at z2
  rw [hpr, hpc, hlv] at z3
  clear hpr hpc hlv b5 b10
  go_wp2
  have b7 := b6.set4 (.slice Av cs.length cv) (.int .i64 pr) (.int .i64 pc) (.int .i64 lv)
  obtain ⟨u0, u1, u2, u3, _⟩ := blk4 b7
  have own4 := ownsRow_setCell_below (ownsRow_setCell_below (ownsRow_setCell_below (ownsRow_setCell_below hrow (a := ⟨w.heap.size + 1 + 1, 0, none⟩) hq6 (.slice Av cs.length cv)) (a := ⟨w.heap.size + 1 + 1, 1, none⟩) hq6 (.int .i64 pr)) (a := ⟨w.heap.size + 1 + 1, 2, none⟩) hq6 (.int .i64 pc)) (a := ⟨w.heap.size + 1 + 1, 3, none⟩) hq6 (.int .i64 lv)
  exact bodyPost_ret (v := .tuple #[.agg #[.slice Av cs.length cv, .int .i64 pr, .int .i64 pc, .int .i64 lv], .int .i64 0]) (by simp [results, Tryz.results64, go_sem, u0, u1, u2, u3]) rfl ⟨.slice Av cs.length cv, cs, P, by rw [HPR.out, HPC.out, HLV.out], HP.out, HCS.out, own_low own4 (Nat.zero_le _), Below.set4 hBB (by omega)⟩
end Go.Proofs.YtidgeagpgllkeaaGreat
