/- Contract: the reference's areas. Contract: the area of a cell. -/
import Derived.Test.YtidgeagpgllkeaaGreatZaFnG
import Derived.Test.YtidgeagpgllkeaaGreatZaFjF
namespace Go.Proofs.YtidgeagpgllkeaaGreat
open Go.RowKit

set_option maxRecDepth 100000 in
set_option maxHeartbeats 8000000 in
theorem refAreas_any (l : List Sc) (A : Option Addr) (c B : Nat) (level : Int) (corners : Bool) (w : World) (hl : ScOk l A B w) (hB : B ≤ w.heap.size) (HG : Hid (∀ s ∈ l, ScGood s)) (hlv : 0 ≤ level) (hn : l.length ≤ 6) :
    Calls Tryz.prog 65 #[.slice A l.length c, .agg #[.int .i64 level, .bool corners]] w fun e w' => ∃ (A' : Option Addr) (c' : Nat) (P : List (Int × Int)) (As : List ArA), e = .returned (.slice A' As.length c') ∧ Pls (atV l) level P ∧ As.map (·.2) = areasV (atV l) level corners P ∧ ArsOk (atV l) As A' w'.heap.size w' ∧ (∀ a ∈ As, w'.ownsRow w.heap.size 25 2 a.1 a.2.length (cellsC a.2)) ∧ Below w.heap.size w w' := by
  obtain ⟨i0, hi, hz0, hz1, hz2⟩ := info_parts infoInt
  have b3 := Blk.new w 24 #[.int .i64 level, .bool corners]
  have hBB : Below w.heap.size w (w.alloc (.cells #[.int .i64 level, .bool corners] 24)) := (by repeat (first | (with_reducible exact Below.refl _ _) | (with_reducible assumption) | ((with_reducible refine Below.setCell ?_ ?_ _); rotate_left; · (first | exact Nat.le_refl _ | (simp; done) | (simp; omega) | omega)) | ((with_reducible refine Below.alloc ?_ ?_ _); rotate_left; · (first | exact Nat.le_refl _ | (simp; done) | (simp; omega) | omega)) | (with_reducible apply Below.drew) | (with_reducible apply below_drewN') | (refine Below.trans ?_ (Below.mono (by assumption) (by first | exact Nat.le_refl _ | (simp; done) | (simp; omega) | omega))) | exact Below.refl _ _ | assumption))
  obtain ⟨c0, c1, f3⟩ := blk2c b3
  have l3 := b3.lt
  go_enter Tryz.func65, Tryz.ntmps65
  go_wp2_with fail
  obtain ⟨W, hW⟩ : ∃ W, w.alloc (.cells #[.int .i64 level, .bool corners] 24) = W := ⟨_, rfl⟩
  rw [hW] at b3 hBB l3 ⊢
  clear hW c0 c1 f3
  refine (cells_any l A c B level _ (hl.below hBB hB) (by have := Below.size hBB; omega) HG hlv hn).mono ?_
  rintro e w1 ⟨v, L, rfl, hPL, hLl, ownL, hB1⟩
  obtain ⟨A5, c5, rfl, hR5, _, _⟩ := own_row2 ownL
  replace b3 := b3.gr hB1
  replace hBB := hBB.trans (hB1.mono (Below.size hBB))
  have HPL := Lib.hid hPL
  have HPB3 : Hid (∀ x ∈ L, (-1000000 ≤ x.1 ∧ x.1 ≤ 1000000) ∧ (-1000000 ≤ x.2 ∧ x.2 ≤ 1000000) ∧ 0 ≤ atV l x.1 x.2) := Lib.hid (fun x hx => by
    have h1 := ((abv_iff _ _ _ _).1 ((hPL.mem x).1 hx)).1
    have h2 := atV_known HG.out h1
    omega)
  have HPB2 : Hid (∀ x ∈ L, (-1000000 ≤ x.1 ∧ x.1 ≤ 1000000) ∧ (-1000000 ≤ x.2 ∧ x.2 ≤ 1000000)) := Lib.hid (fun x hx => ⟨(HPB3.out x hx).1, (HPB3.out x hx).2.1⟩)
  have hwz := Below.size hBB
  have hl1 := hl.below hBB hB
  clear ownL hPL hB1 l3
  go_wp2_with (at_make; refine wpList_make_full _ rfl _ _ 37 rfl w1.heap.size 3 i0 (.int .i64 0) 1 Tryz.underlying37 hi hz0 hz1 .i64 .i64 _ _ L.length rfl rfl rfl rfl (by rw [hz2]; omega) (by unfold maxLen; omega) (Nat.le_refl _) ?_; intro w2 own2 hgrow)
  rw [made_ints] at own2
  have M0 : LbM w1 w1.heap.size L.length (List.replicate L.length 0) w2 := ⟨own2, (Below.refl _ _).grown hgrow (Nat.le_refl _) (fun q e => by cases e)⟩
  clear own2 hgrow
  obtain ⟨p, hp⟩ : ∃ p, w1.heap.size = p := ⟨_, rfl⟩
  have hlp1 := labLoop1 (V := w1) (wr0 := w2) (p := w1.heap.size) (A5 := A5) (c5 := c5) (F := List.replicate L.length 0) hLl
  unfold bodyOf at hlp1
  conv at hlp1 in (Option.getD _ Code.skip) => whnf
  refine hlp1 M0 _ ?_
  clear hlp1 M0
  intro t7 t23 t24 t25 t26 t27 t28 t29 t30 t31 t32 w3 M
  go_wp2
  have hlp2 := labLoop2 (g := atV l) (wr0 := w3) (p := w1.heap.size) (c5 := c5) (F := numsTo L.length) b3 hR5 (Nat.le_refl _) HPL HPB2 hLl (Lib.hid (Lab.start (atV l) level corners L))
  unfold bodyOf at hlp2
  conv at hlp2 in (Option.getD _ Code.skip) => whnf
  refine hlp2 M _ ?_
  clear hlp2 M
  intro t8 t9 t10 t33 t34 t35 t36 t37 t38 t39 t40 t41 t42 t43 t44 t45 t46 t47 t48 t49 t50 t51 t52 t53 t54 t55 t56 t57 t58 t59 t60 t61 t62 t63 t64 t65 t66 t67 t68 t69 t70 t71 t72 t73 t74 t75 t76 t77 t78 t79 t80 t81 t82 t83 t84 t85 t86 t87 t88 t89 t90 F w4 HF M
  go_wp2
  have hlp5 := areaLoop5 l A c B (V := w1) (wr0 := w4) (p := w1.heap.size) (F := F) (c5 := c5) (g0 := atV l) (level := level) (corners := corners) hl1 (by omega) HG hR5 (Nat.le_refl _) HPB3 hLl (Lib.hid HF.out.1)
  unfold bodyOf at hlp5
  conv at hlp5 in (Option.getD _ Code.skip) => whnf
  refine hlp5 ⟨M, World.ownsRow_nil _ _ _ _, by simp⟩ _ ?_
  clear hlp5 M
  intro t12 t13 t14 t15 t91 t92 t93 t94 t95 t96 t97 t98 t99 t100 t101 t102 t103 t104 t105 t106 t107 t108 t109 t110 t111 t112 t113 t114 t115 t116 t117 t118 t119 t120 t121 t122 t123 t124 t125 t126 t127 t128 t129 t130 t131 t132 t133 t134 t135 t136 t137 t138 t139 t140 t141 t142 t143 t144 t145 t146 As v w5 hAs M
  have HAS := Lib.hid hAs
  obtain ⟨A', c', rfl, hR', _, _⟩ := own_row2 M.out
  have HM := Lib.hid M
  have hlen : As.length ≤ 9223372036854775807 := by
    rcases M.out.2 with ⟨_, h0⟩ | ⟨_, cap, _, _, _, _, h1, h2, _⟩
    · omega
    · unfold maxLen at h2; omega
  have hB5 := hBB.trans (M.lab.below.mono hwz)
  clear hAs M
  go_wp2
  go_ret
  exact ⟨A', c', L, As, rfl, HPL.out, HAS.out.trans (areasTo_all HPL.out HF.out.1 HF.out.2), ⟨hlen, hR', fun a ha => own_ar (HM.out.rows a ha)⟩, fun a ha => own_low (HM.out.rows a ha) hwz, hB5⟩
end Go.Proofs.YtidgeagpgllkeaaGreat

namespace Go.Proofs.YtidgeagpgllkeaaGreat
open Go.RowKit

set_option maxRecDepth 100000 in
set_option maxHeartbeats 4000000 in
theorem areaAt_bad (l : List Sc) (A : Option Addr) (cap B : Nat) (level : Int) (corners : Bool) (r c : Int) (w : World) (hl : ScOk l A B w) (hB : B ≤ w.heap.size) (he : scanAskE l level ≠ 0) :
    Calls Tryz.prog 62 #[.slice A l.length cap, .agg #[.int .i64 level, .bool corners], .agg #[.int .i64 r, .int .i64 c]] w fun e w' => e = .returned (.tuple #[.agg #[.slice none 0 0, .int .i64 0, .int .i64 0, .int .i64 0], .int .i64 (scanAskE l level)]) ∧ Below w.heap.size w w' := by
  have HB := Lib.hid he
  obtain ⟨E, hE⟩ : ∃ E, scanAskE l level = E := ⟨_, rfl⟩
  have HE := Lib.hid hE
  have he' : (E != 0) = true := by rw [hE] at he; simpa using he
  clear he hE
  rw [HE.out]
  have b4 := ((Blk.new w 24 #[.int .i64 level, .bool corners]).alloc (.cells #[.int .i64 r, .int .i64 c] 25)).alloc (.cells #[.slice none 0 0, .int .i64 0, .int .i64 0, .int .i64 0] 91)
  have b6 := Blk.new ((w.alloc (.cells #[.int .i64 level, .bool corners] 24)).alloc (.cells #[.int .i64 r, .int .i64 c] 25)) 91 #[.slice none 0 0, .int .i64 0, .int .i64 0, .int .i64 0]
  have hBB : Below w.heap.size w (((w.alloc (.cells #[.int .i64 level, .bool corners] 24)).alloc (.cells #[.int .i64 r, .int .i64 c] 25)).alloc (.cells #[.slice none 0 0, .int .i64 0, .int .i64 0, .int .i64 0] 91)) := (by repeat (first | (with_reducible exact Below.refl _ _) | (with_reducible assumption) | ((with_reducible refine Below.setCell ?_ ?_ _); rotate_left; · (first | exact Nat.le_refl _ | (simp; done) | (simp; omega) | omega)) | ((with_reducible refine Below.alloc ?_ ?_ _); rotate_left; · (first | exact Nat.le_refl _ | (simp; done) | (simp; omega) | omega)) | (with_reducible apply Below.drew) | (with_reducible apply below_drewN') | (refine Below.trans ?_ (Below.mono (by assumption) (by first | exact Nat.le_refl _ | (simp; done) | (simp; omega) | omega))) | exact Below.refl _ _ | assumption))
  simp only [World.size_alloc] at b6
  obtain ⟨c0, c1, f4⟩ := blk2c b4
  have l4 := b4.lt
  go_enter Tryz.func62, Tryz.ntmps62
  go_wp2_with fail
  obtain ⟨W, hW⟩ : ∃ W, ((w.alloc (.cells #[.int .i64 level, .bool corners] 24)).alloc (.cells #[.int .i64 r, .int .i64 c] 25)).alloc (.cells #[.slice none 0 0, .int .i64 0, .int .i64 0, .int .i64 0] 91) = W := ⟨_, rfl⟩
  rw [hW] at b6 hBB ⊢
  clear hW c0 c1 f4 l4 b4
  refine (openAsk_bad l A cap B level corners _ (hl.below hBB hB) (by have := Below.size hBB; omega) HB.out).mono ?_
  rw [HE.out]
  rintro e w1 ⟨v, rfl, hB1⟩
  replace b6 := b6.gr hB1
  replace hBB := hBB.trans (hB1.mono (Below.size hBB))
  obtain ⟨y0, y1, y2, y3, yf⟩ := blk4 b6
  have l6 := b6.lt
  clear hB1
  go_wp2
  have b7 := b6.set4 (.slice none 0 0) (.int .i64 0) (.int .i64 0) (.int .i64 0)
  obtain ⟨u0, u1, u2, u3, _⟩ := blk4 b7
  exact bodyPost_ret (v := .tuple #[.agg #[.slice none 0 0, .int .i64 0, .int .i64 0, .int .i64 0], .int .i64 E]) (by simp [results, Tryz.results62, go_sem, u0, u1, u2, u3]) rfl ⟨rfl, Below.set4 hBB (by omega)⟩
set_option maxRecDepth 100000 in
set_option maxHeartbeats 4000000 in
theorem areaAt_no (l : List Sc) (A : Option Addr) (cap B : Nat) (level : Int) (corners : Bool) (r c : Int) (w : World) (hl : ScOk l A B w) (hB : B ≤ w.heap.size) (he : scanAskE l level = 0) (hr : W64 r) (hc : W64 c) (h0 : atV l r c < 0) :
    Calls Tryz.prog 62 #[.slice A l.length cap, .agg #[.int .i64 level, .bool corners], .agg #[.int .i64 r, .int .i64 c]] w fun e w' => e = .returned (.tuple #[.agg #[.slice none 0 0, .int .i64 0, .int .i64 0, .int .i64 0], .int .i64 6]) ∧ Below w.heap.size w w' := by
  have HB := Lib.hid he
  have b4 := ((Blk.new w 24 #[.int .i64 level, .bool corners]).alloc (.cells #[.int .i64 r, .int .i64 c] 25)).alloc (.cells #[.slice none 0 0, .int .i64 0, .int .i64 0, .int .i64 0] 91)
  have b5 := (Blk.new (w.alloc (.cells #[.int .i64 level, .bool corners] 24)) 25 #[.int .i64 r, .int .i64 c]).alloc (.cells #[.slice none 0 0, .int .i64 0, .int .i64 0, .int .i64 0] 91)
  have b6 := Blk.new ((w.alloc (.cells #[.int .i64 level, .bool corners] 24)).alloc (.cells #[.int .i64 r, .int .i64 c] 25)) 91 #[.slice none 0 0, .int .i64 0, .int .i64 0, .int .i64 0]
  have hBB : Below w.heap.size w (((w.alloc (.cells #[.int .i64 level, .bool corners] 24)).alloc (.cells #[.int .i64 r, .int .i64 c] 25)).alloc (.cells #[.slice none 0 0, .int .i64 0, .int .i64 0, .int .i64 0] 91)) := (by repeat (first | (with_reducible exact Below.refl _ _) | (with_reducible assumption) | ((with_reducible refine Below.setCell ?_ ?_ _); rotate_left; · (first | exact Nat.le_refl _ | (simp; done) | (simp; omega) | omega)) | ((with_reducible refine Below.alloc ?_ ?_ _); rotate_left; · (first | exact Nat.le_refl _ | (simp; done) | (simp; omega) | omega)) | (with_reducible apply Below.drew) | (with_reducible apply below_drewN') | (refine Below.trans ?_ (Below.mono (by assumption) (by first | exact Nat.le_refl _ | (simp; done) | (simp; omega) | omega))) | exact Below.refl _ _ | assumption))
  simp only [World.size_alloc] at b5 b6
  obtain ⟨c0, c1, f4⟩ := blk2c b4
  have l4 := b4.lt
  go_enter Tryz.func62, Tryz.ntmps62
  go_wp2_with fail
  obtain ⟨W, hW⟩ : ∃ W, ((w.alloc (.cells #[.int .i64 level, .bool corners] 24)).alloc (.cells #[.int .i64 r, .int .i64 c] 25)).alloc (.cells #[.slice none 0 0, .int .i64 0, .int .i64 0, .int .i64 0] 91) = W := ⟨_, rfl⟩
  rw [hW] at b4 b5 b6 hBB ⊢
  clear hW c0 c1 f4 l4
  refine (openAsk_ok l A cap B level corners _ (hl.below hBB hB) (by have := Below.size hBB; omega) HB.out).mono ?_
  rintro e w1 ⟨b, n, rfl, hb, hn, hM, hB1⟩
  replace b4 := b4.gr hB1
  replace b5 := b5.gr hB1
  replace b6 := b6.gr hB1
  replace hBB := hBB.trans (hB1.mono (Below.size hBB))
  clear hB1
  obtain ⟨c0, c1, f4⟩ := blk2c b4
  obtain ⟨d0, d1, f5⟩ := blk2c b5
  obtain ⟨y0, y1, y2, y3, yf⟩ := blk4 b6
  have l4 := b4.lt
  have l5 := b5.lt
  have l6 := b6.lt
  have hlk : (Instr.lookup 147 (.map (some b)) (cellV r c) true).run Tryz.prog w1 = .ok (.tuple #[.int .i64 0, .bool false]) w1 := by
    rw [hM.look_ok Tryz.underlying147 hr hc, show decide (0 ≤ atV l r c) = false by simp; omega]; unfold pos; rw [if_neg (by omega)]
  clear h0 hM
  go_wp2
  have b7 := b6.set4 (.slice none 0 0) (.int .i64 0) (.int .i64 0) (.int .i64 0)
  obtain ⟨u0, u1, u2, u3, _⟩ := blk4 b7
  exact bodyPost_ret (v := .tuple #[.agg #[.slice none 0 0, .int .i64 0, .int .i64 0, .int .i64 0], .int .i64 6]) (by simp [results, Tryz.results62, go_sem, u0, u1, u2, u3]) rfl ⟨rfl, Below.set4 hBB (by omega)⟩

set_option maxRecDepth 100000 in
set_option maxHeartbeats 4000000 in
theorem areaAt_low (l : List Sc) (A : Option Addr) (cap B : Nat) (level : Int) (corners : Bool) (r c : Int) (w : World) (hl : ScOk l A B w) (hB : B ≤ w.heap.size) (he : scanAskE l level = 0) (hr : W64 r) (hc : W64 c) (h0 : 0 ≤ atV l r c) (h1 : atV l r c < level) :
    Calls Tryz.prog 62 #[.slice A l.length cap, .agg #[.int .i64 level, .bool corners], .agg #[.int .i64 r, .int .i64 c]] w fun e w' => e = .returned (.tuple #[.agg #[.slice none 0 0, .int .i64 0, .int .i64 0, .int .i64 0], .int .i64 12]) ∧ Below w.heap.size w w' := by
  have HB := Lib.hid he
  have b4 := ((Blk.new w 24 #[.int .i64 level, .bool corners]).alloc (.cells #[.int .i64 r, .int .i64 c] 25)).alloc (.cells #[.slice none 0 0, .int .i64 0, .int .i64 0, .int .i64 0] 91)
  have b5 := (Blk.new (w.alloc (.cells #[.int .i64 level, .bool corners] 24)) 25 #[.int .i64 r, .int .i64 c]).alloc (.cells #[.slice none 0 0, .int .i64 0, .int .i64 0, .int .i64 0] 91)
  have b6 := Blk.new ((w.alloc (.cells #[.int .i64 level, .bool corners] 24)).alloc (.cells #[.int .i64 r, .int .i64 c] 25)) 91 #[.slice none 0 0, .int .i64 0, .int .i64 0, .int .i64 0]
  have hBB : Below w.heap.size w (((w.alloc (.cells #[.int .i64 level, .bool corners] 24)).alloc (.cells #[.int .i64 r, .int .i64 c] 25)).alloc (.cells #[.slice none 0 0, .int .i64 0, .int .i64 0, .int .i64 0] 91)) := (by repeat (first | (with_reducible exact Below.refl _ _) | (with_reducible assumption) | ((with_reducible refine Below.setCell ?_ ?_ _); rotate_left; · (first | exact Nat.le_refl _ | (simp; done) | (simp; omega) | omega)) | ((with_reducible refine Below.alloc ?_ ?_ _); rotate_left; · (first | exact Nat.le_refl _ | (simp; done) | (simp; omega) | omega)) | (with_reducible apply Below.drew) | (with_reducible apply below_drewN') | (refine Below.trans ?_ (Below.mono (by assumption) (by first | exact Nat.le_refl _ | (simp; done) | (simp; omega) | omega))) | exact Below.refl _ _ | assumption))
  simp only [World.size_alloc] at b5 b6
  obtain ⟨c0, c1, f4⟩ := blk2c b4
  have l4 := b4.lt
  go_enter Tryz.func62, Tryz.ntmps62
  go_wp2_with fail
  obtain ⟨W, hW⟩ : ∃ W, ((w.alloc (.cells #[.int .i64 level, .bool corners] 24)).alloc (.cells #[.int .i64 r, .int .i64 c] 25)).alloc (.cells #[.slice none 0 0, .int .i64 0, .int .i64 0, .int .i64 0] 91) = W := ⟨_, rfl⟩
  rw [hW] at b4 b5 b6 hBB ⊢
  clear hW c0 c1 f4 l4
  refine (openAsk_ok l A cap B level corners _ (hl.below hBB hB) (by have := Below.size hBB; omega) HB.out).mono ?_
  rintro e w1 ⟨b, n, rfl, hb, hn, hM, hB1⟩
  replace b4 := b4.gr hB1
  replace b5 := b5.gr hB1
  replace b6 := b6.gr hB1
  replace hBB := hBB.trans (hB1.mono (Below.size hBB))
  clear hB1
  obtain ⟨c0, c1, f4⟩ := blk2c b4
  obtain ⟨d0, d1, f5⟩ := blk2c b5
  obtain ⟨y0, y1, y2, y3, yf⟩ := blk4 b6
  have l4 := b4.lt
  have l5 := b5.lt
  have l6 := b6.lt
  have hlk : (Instr.lookup 147 (.map (some b)) (cellV r c) true).run Tryz.prog w1 = .ok (.tuple #[.int .i64 (atV l r c), .bool true]) w1 := by
    rw [hM.look_ok Tryz.underlying147 hr hc, show decide (0 ≤ atV l r c) = true by simpa using h0]; unfold pos; rw [if_pos h0]
  obtain ⟨G, hG⟩ : ∃ G, atV l r c = G := ⟨_, rfl⟩
  rw [hG] at hlk h0 h1
  clear hM hG
  go_wp2
  have b7 := b6.set4 (.slice none 0 0) (.int .i64 0) (.int .i64 0) (.int .i64 0)
  obtain ⟨u0, u1, u2, u3, _⟩ := blk4 b7
  exact bodyPost_ret (v := .tuple #[.agg #[.slice none 0 0, .int .i64 0, .int .i64 0, .int .i64 0], .int .i64 12]) (by simp [results, Tryz.results62, go_sem, u0, u1, u2, u3]) rfl ⟨rfl, Below.set4 hBB (by omega)⟩

set_option maxRecDepth 100000 in
set_option maxHeartbeats 4000000 in
theorem areaAt_ok (l : List Sc) (A : Option Addr) (cap B : Nat) (level : Int) (corners : Bool) (r c : Int) (w : World) (hl : ScOk l A B w) (hB : B ≤ w.heap.size) (he : scanAskE l level = 0) (HG : Hid (∀ s ∈ l, ScGood s)) (hr : W64 r) (hc : W64 c) (h0 : 0 ≤ atV l r c) (h1 : level ≤ atV l r c) :
    Calls Tryz.prog 62 #[.slice A l.length cap, .agg #[.int .i64 level, .bool corners], .agg #[.int .i64 r, .int .i64 c]] w fun e w' => ∃ v cs, e = .returned (.tuple #[.agg #[v, .int .i64 (peakV (atV l) cs).1, .int .i64 (peakV (atV l) cs).2, .int .i64 (atV l (peakV (atV l) cs).1 (peakV (atV l) cs).2)], .int .i64 0]) ∧ AreaOk (atV l) level corners (r, c) cs ∧ w'.ownsRow 0 25 2 v cs.length (cellsC cs) ∧ Below w.heap.size w w' := by
  have HB := Lib.hid he
  have b4 := ((Blk.new w 24 #[.int .i64 level, .bool corners]).alloc (.cells #[.int .i64 r, .int .i64 c] 25)).alloc (.cells #[.slice none 0 0, .int .i64 0, .int .i64 0, .int .i64 0] 91)
  have b5 := (Blk.new (w.alloc (.cells #[.int .i64 level, .bool corners] 24)) 25 #[.int .i64 r, .int .i64 c]).alloc (.cells #[.slice none 0 0, .int .i64 0, .int .i64 0, .int .i64 0] 91)
  have b6 := Blk.new ((w.alloc (.cells #[.int .i64 level, .bool corners] 24)).alloc (.cells #[.int .i64 r, .int .i64 c] 25)) 91 #[.slice none 0 0, .int .i64 0, .int .i64 0, .int .i64 0]
  have hBB : Below w.heap.size w (((w.alloc (.cells #[.int .i64 level, .bool corners] 24)).alloc (.cells #[.int .i64 r, .int .i64 c] 25)).alloc (.cells #[.slice none 0 0, .int .i64 0, .int .i64 0, .int .i64 0] 91)) := (by repeat (first | (with_reducible exact Below.refl _ _) | (with_reducible assumption) | ((with_reducible refine Below.setCell ?_ ?_ _); rotate_left; · (first | exact Nat.le_refl _ | (simp; done) | (simp; omega) | omega)) | ((with_reducible refine Below.alloc ?_ ?_ _); rotate_left; · (first | exact Nat.le_refl _ | (simp; done) | (simp; omega) | omega)) | (with_reducible apply Below.drew) | (with_reducible apply below_drewN') | (refine Below.trans ?_ (Below.mono (by assumption) (by first | exact Nat.le_refl _ | (simp; done) | (simp; omega) | omega))) | exact Below.refl _ _ | assumption))
  simp only [World.size_alloc] at b5 b6
  obtain ⟨c0, c1, f4⟩ := blk2c b4
  have l4 := b4.lt
  go_enter Tryz.func62, Tryz.ntmps62
  go_wp2_with fail
  obtain ⟨W, hW⟩ : ∃ W, ((w.alloc (.cells #[.int .i64 level, .bool corners] 24)).alloc (.cells #[.int .i64 r, .int .i64 c] 25)).alloc (.cells #[.slice none 0 0, .int .i64 0, .int .i64 0, .int .i64 0] 91) = W := ⟨_, rfl⟩
  rw [hW] at b4 b5 b6 hBB ⊢
  clear hW c0 c1 f4 l4
  refine (openAsk_ok l A cap B level corners _ (hl.below hBB hB) (by have := Below.size hBB; omega) HB.out).mono ?_
  rintro e w1 ⟨b, n, rfl, hb, hn, hM, hB1⟩
  replace b4 := b4.gr hB1
  replace b5 := b5.gr hB1
  replace b6 := b6.gr hB1
  replace hBB := hBB.trans (hB1.mono (Below.size hBB))
  clear hB1
  obtain ⟨c0, c1, f4⟩ := blk2c b4
  obtain ⟨d0, d1, f5⟩ := blk2c b5
  obtain ⟨y0, y1, y2, y3, yf⟩ := blk4 b6
  have l4 := b4.lt
  have l5 := b5.lt
  have l6 := b6.lt
  have hlk : (Instr.lookup 147 (.map (some b)) (cellV r c) true).run Tryz.prog w1 = .ok (.tuple #[.int .i64 (atV l r c), .bool true]) w1 := by
    rw [hM.look_ok Tryz.underlying147 hr hc, show decide (0 ≤ atV l r c) = true by simpa using h0]; unfold pos; rw [if_pos h0]
  have hab : abv (atV l) r c level = true := (abv_iff _ _ _ _).2 ⟨h0, h1⟩
  obtain ⟨G, hG⟩ : ∃ G, atV l r c = G := ⟨_, rfl⟩
  rw [hG] at hlk h0 h1
  clear hG
  have HM := Lib.hid hM
  have hab' := Lib.hid hab
  clear hM hab
  have HKN : Hid (∀ x y, 0 ≤ atV l x y → (-100000 ≤ x ∧ x ≤ 100023) ∧ (-100000 ≤ y ∧ y ≤ 100023)) := Lib.hid (fun x y h => by have := atV_known HG.out h; omega)
  have HBD : Hid (∀ x y, atV l x y ≤ 1000000000) := Lib.hid (fun x y => (atV_bd HG.out x y).2)
  go_wp2_with fail
  refine (area_any b n (atV l) level corners r c _ HM.out hn HKN HBD hab'.out).mono ?_
  rintro e w2 ⟨v, cs, rfl, hAo, own, hB2⟩
  have HAO := Lib.hid hAo
  replace b6 := b6.gr hB2
  have hq1 : w.heap.size + 1 + 1 < w1.heap.size := l6
  replace hBB := hBB.trans (hB2.mono (Below.size hBB))
  clear y0 y1 y2 y3 yf l6 c0 c1 f4 d0 d1 f5 l4 l5 hAo
  obtain ⟨Av, cv, rfl, _, _, _⟩ := own_row2 own
  obtain ⟨y0, y1, y2, y3, yf⟩ := blk4 b6
  have l6 := b6.lt
  clear hB2
  obtain ⟨pr, hpr⟩ : ∃ x, (peakV (atV l) cs).1 = x := ⟨_, rfl⟩
  obtain ⟨pc, hpc⟩ : ∃ x, (peakV (atV l) cs).2 = x := ⟨_, rfl⟩
  obtain ⟨lv, hlv⟩ : ∃ x, atV l pr pc = x := ⟨_, rfl⟩
  have HPR := Lib.hid hpr; have HPC := Lib.hid hpc; have HLV := Lib.hid hlv
  rw [hpr, hpc, hlv]
  clear hpr hpc hlv
  go_wp2
  have b7 := b6.set4 (.slice Av cs.length cv) (.int .i64 pr) (.int .i64 pc) (.int .i64 lv)
  obtain ⟨u0, u1, u2, u3, _⟩ := blk4 b7
  have own4 := ownsRow_setCell_below (ownsRow_setCell_below (ownsRow_setCell_below (ownsRow_setCell_below own (a := ⟨w.heap.size + 1 + 1, 0, none⟩) hq1 (.slice Av cs.length cv)) (a := ⟨w.heap.size + 1 + 1, 1, none⟩) hq1 (.int .i64 pr)) (a := ⟨w.heap.size + 1 + 1, 2, none⟩) hq1 (.int .i64 pc)) (a := ⟨w.heap.size + 1 + 1, 3, none⟩) hq1 (.int .i64 lv)
  exact bodyPost_ret (v := .tuple #[.agg #[.slice Av cs.length cv, .int .i64 pr, .int .i64 pc, .int .i64 lv], .int .i64 0]) (by simp [results, Tryz.results62, go_sem, u0, u1, u2, u3]) rfl ⟨.slice Av cs.length cv, cs, by rw [HPR.out, HPC.out, HLV.out], HAO.out, own_low own4 (Nat.zero_le _), Below.set4 hBB (by omega)⟩
end Go.Proofs.YtidgeagpgllkeaaGreat
