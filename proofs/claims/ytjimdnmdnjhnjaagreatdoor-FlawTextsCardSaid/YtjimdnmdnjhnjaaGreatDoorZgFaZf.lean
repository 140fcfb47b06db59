/- Contract: the areas: the loop over the places as a whole. Contract: all areas. Contract: all areas, where the scans or the ask are not right. -/
import Derived.Test.YtjimdnmdnjhnjaaGreatDoorZgFaZc
import Derived.Test.YtjimdnmdnjhnjaaGreatDoorZgFaH
namespace Go.Proofs.YtjimdnmdnjhnjaaGreatDoor
open Go.RowKit Go.Shelf

attribute [local irreducible] nbV

set_option maxRecDepth 100000 in
set_option maxHeartbeats 4000000 in
theorem areas_loop (b n S cap : Nat) (pP : Option Addr) (g : Int → Int → Int) (level : Int) (corners : Bool) (P : List (Int × Int)) (w : World) (hn : n ≤ 100000) (hkn : Hid (∀ x y, 0 ≤ g x y → (-100000 ≤ x ∧ x ≤ 100023) ∧ (-100000 ≤ y ∧ y ≤ 100023))) (hbd : Hid (∀ x y, g x y ≤ 1000000000)) (hPa : Hid (∀ x ∈ P, abv g x.1 x.2 level = true)) (hPl : P.length ≤ 100000)
    (Q' : Exit → Act → World → Prop)
    (hexit : ∀ (t0 t1 t2 t4 t5 t7 t8 t9 t12 t13 t14 t15 t16 t17 t18 t19 t20 t21 t22 t23 t24 t25 t26 t27 t28 t29 t30 t31 t32 t33 t34 t35 t36 t37 t38 t39 t40 t41 t42 t43 t47 t48 t49 t50 t51 t52 t53 t54 t55 t56 t57 t58 t59 t60 t61 t62 t63 t64 t65 t66 t67 t68 t69 t70 t71 t72 : Value) (Bs : List ((Int × Int) × ArA)) (vo : Value) (kk : Nat) (wr : World), Bs.length ≤ P.length → AoM w b n S g level corners P (.slice pP P.length cap) (Bs.map (·.2)) vo kk (doneF Bs) wr → ArS g level corners P P.length Bs → Q' (.exit 2) ⟨#[t0, t1, t2, .pointer (some ⟨w.heap.size, 0, none⟩), t4, t5, .map (some b), t7, t8, t9, vo, .map (some S), t12, t13, t14, t15, t16, t17, t18, t19, t20, t21, t22, t23, t24, t25, t26, t27, t28, t29, t30, t31, t32, t33, t34, t35, t36, t37, t38, t39, t40, t41, t42, t43, .slice pP P.length cap, .int .i64 (P.length : Int), .int .i64 (P.length : Int), t47, t48, t49, t50, t51, t52, t53, t54, t55, t56, t57, t58, t59, t60, t61, t62, t63, t64, t65, t66, t67, t68, t69, t70, t71, t72], []⟩ wr)
    {t0 t1 t2 t4 t5 t7 t8 t9 t12 t13 t14 t15 t16 t17 t18 t19 t20 t21 t22 t23 t24 t25 t26 t27 t28 t29 t30 t31 t32 t33 t34 t35 t36 t37 t38 t39 t40 t41 t42 t43 t47 t48 t49 t50 t51 t52 t53 t54 t55 t56 t57 t58 t59 t60 t61 t62 t63 t64 t65 t66 t67 t68 t69 t70 t71 t72 : Value} (wr : World) (hI : AoM w b n S g level corners P (.slice pP P.length cap) [] (.slice none 0 0) 0 (fun _ _ => false) wr) :
    (Code.loop (bodyOf Tryz.f10 1)).wp Tryz.prog Q' ⟨#[t0, t1, t2, .pointer (some ⟨w.heap.size, 0, none⟩), t4, t5, .map (some b), t7, t8, t9, .slice none 0 0, .map (some S), t12, t13, t14, t15, t16, t17, t18, t19, t20, t21, t22, t23, t24, t25, t26, t27, t28, t29, t30, t31, t32, t33, t34, t35, t36, t37, t38, t39, t40, t41, t42, t43, .slice pP P.length cap, .int .i64 (P.length : Int), .int .i64 ((0 : Nat) : Int), t47, t48, t49, t50, t51, t52, t53, t54, t55, t56, t57, t58, t59, t60, t61, t62, t63, t64, t65, t66, t67, t68, t69, t70, t71, t72], []⟩ wr := by
  refine wp_loop_ghost (fun m a' wr => ∃ (zf : Nat → Value) (i : Nat) (Bs : List ((Int × Int) × ArA)) (vo : Value) (kk : Nat), a' = ⟨#[zf 0, zf 1, zf 2, .pointer (some ⟨w.heap.size, 0, none⟩), zf 4, zf 5, .map (some b), zf 7, zf 8, zf 9, vo, .map (some S), zf 12, zf 13, zf 14, zf 15, zf 16, zf 17, zf 18, zf 19, zf 20, zf 21, zf 22, zf 23, zf 24, zf 25, zf 26, zf 27, zf 28, zf 29, zf 30, zf 31, zf 32, zf 33, zf 34, zf 35, zf 36, zf 37, zf 38, zf 39, zf 40, zf 41, zf 42, zf 43, .slice pP P.length cap, .int .i64 (P.length : Int), .int .i64 (i : Int), zf 47, zf 48, zf 49, zf 50, zf 51, zf 52, zf 53, zf 54, zf 55, zf 56, zf 57, zf 58, zf 59, zf 60, zf 61, zf 62, zf 63, zf 64, zf 65, zf 66, zf 67, zf 68, zf 69, zf 70, zf 71, zf 72], []⟩ ∧ m + i = P.length ∧ kk ≤ i * n ∧ Bs.length ≤ i ∧ AoM w b n S g level corners P (.slice pP P.length cap) (Bs.map (·.2)) vo kk (doneF Bs) wr ∧ ArS g level corners P i Bs) P.length ⟨fun k => (#[t0, t1, t2, undef, t4, t5, undef, t7, t8, t9, undef, undef, t12, t13, t14, t15, t16, t17, t18, t19, t20, t21, t22, t23, t24, t25, t26, t27, t28, t29, t30, t31, t32, t33, t34, t35, t36, t37, t38, t39, t40, t41, t42, t43, undef, undef, undef, t47, t48, t49, t50, t51, t52, t53, t54, t55, t56, t57, t58, t59, t60, t61, t62, t63, t64, t65, t66, t67, t68, t69, t70, t71, t72] : Array Value).getD k undef, 0, [], _, 0, rfl, by omega, by omega, by simp, hI, ArS.nil⟩ ?_
  clear hI
  rintro m a' wr ⟨zf, i, Bs, vo, kk, rfl, hmi, hkk, hBl, hI, hS⟩
  refine areas_round b n S cap pP g level corners P Bs vo i kk w hn hkn hbd hPa hPl (by omega) hkk hBl wr hI hS _ _ ?_ ?_
  · intro t0 t1 t2 t4 t5 t7 t8 t9 t12 t13 t14 t15 t16 t17 t18 t19 t20 t21 t22 t23 t24 t25 t26 t27 t28 t29 t30 t31 t32 t33 t34 t35 t36 t37 t38 t39 t40 t41 t42 t43 t47 t48 t49 t50 t51 t52 t53 t54 t55 t56 t57 t58 t59 t60 t61 t62 t63 t64 t65 t66 t67 t68 t69 t70 t71 t72 Bs vo kk wr h1 h2 h3 h4 h5
    exact ⟨m - 1, by omega, fun k => (#[t0, t1, t2, undef, t4, t5, undef, t7, t8, t9, undef, undef, t12, t13, t14, t15, t16, t17, t18, t19, t20, t21, t22, t23, t24, t25, t26, t27, t28, t29, t30, t31, t32, t33, t34, t35, t36, t37, t38, t39, t40, t41, t42, t43, undef, undef, undef, t47, t48, t49, t50, t51, t52, t53, t54, t55, t56, t57, t58, t59, t60, t61, t62, t63, t64, t65, t66, t67, t68, t69, t70, t71, t72] : Array Value).getD k undef, i + 1, Bs, vo, kk, rfl, by omega, h2, h3, h4, h5⟩
  · intro t0 t1 t2 t4 t5 t7 t8 t9 t12 t13 t14 t15 t16 t17 t18 t19 t20 t21 t22 t23 t24 t25 t26 t27 t28 t29 t30 t31 t32 t33 t34 t35 t36 t37 t38 t39 t40 t41 t42 t43 t47 t48 t49 t50 t51 t52 t53 t54 t55 t56 t57 t58 t59 t60 t61 t62 t63 t64 t65 t66 t67 t68 t69 t70 t71 t72 h1
    subst h1
    exact hexit _ _ _ _ _ _ _ _ _ _ _ _ _ _ _ _ _ _ _ _ _ _ _ _ _ _ _ _ _ _ _ _ _ _ _ _ _ _ _ _ _ _ _ _ _ _ _ _ _ _ _ _ _ _ _ _ _ _ _ _ _ _ _ _ _ _ Bs vo kk wr hBl hI hS
end Go.Proofs.YtjimdnmdnjhnjaaGreatDoor

namespace Go.Proofs.YtjimdnmdnjhnjaaGreatDoor
open Go.RowKit Go.Shelf

attribute [local go_sem] Oper.semAt_some
attribute [local irreducible] nbV

/-- The places of all areas, ascending. -/
structure PlacesOk (g : Int → Int → Int) (level : Int) (P : List (Int × Int)) : Prop where
  nodup : P.Nodup
  sorted : P.Pairwise fun x y => leC x y = true
  abv : ∀ x ∈ P, abv g x.1 x.2 level = true
  all : ∀ x y, W64 x → W64 y → Proofs.YtjimdnmdnjhnjaaGreatDoor.abv g x y level = true → (x, y) ∈ P
theorem PlP.start {g : Int → Int → Int} {level : Int} : PlP g level (fun x y => decide (0 ≤ g x y)) [] :=
  ⟨by simp, by simp, fun x y _ _ ha hl => by
    have h1 := ((abv_iff _ _ _ _).1 ha).1
    simp at hl; omega⟩
theorem PlP.places {g : Int → Int → Int} {level : Int} {left : Int → Int → Bool} {P : List (Int × Int)} (h : PlP g level left P) (hl : ∀ x y, W64 x → W64 y → left x y = false) : PlacesOk g level (sortC P) :=
  ⟨(sortC_perm P).nodup_iff.2 h.nodup, sortC_sorted P, fun x hx => (h.mem x ((sortC_perm P).mem_iff.1 hx)).2.2.1, fun x y hx hy ha => (sortC_perm P).mem_iff.2 (h.all x y hx hy ha (hl x y hx hy))⟩

set_option maxHeartbeats 400000 in
theorem areas_ok (l : List Sc) (A : Option Addr) (cap B : Nat) (level : Int) (corners : Bool) (w : World) (hl : ScOk l A B w) (hB : B ≤ w.heap.size) (he : scanAskE l level = 0) (hgood : Hid (∀ s ∈ l, ScGood s)) :
    Calls Tryz.prog 10 #[.slice A l.length cap, .agg #[.int .i64 level, .bool corners]] w fun e w' => ∃ v P Bs, e = .returned (.tuple #[v, .int .i64 0]) ∧ PlacesOk (atV l) level P ∧ ArS (atV l) level corners P P.length Bs ∧
      w'.ownsRow w.heap.size 64 4 v Bs.length (cellsA (atV l) (Bs.map (·.2))) ∧ (∀ q ∈ Bs, w'.ownsRow w.heap.size 62 2 q.2.1 q.2.2.length (cellsC q.2.2)) ∧ Below w.heap.size w w' := by
  have hB0 : Below w.heap.size w (w.alloc (.cells #[.int .i64 level, .bool corners] 41)) := (by repeat (first | (with_reducible exact Below.refl _ _) | (with_reducible assumption) | ((with_reducible refine Below.setCell ?_ ?_ _); rotate_left; · (first | exact Nat.le_refl _ | (simp; done) | (simp; omega) | omega)) | ((with_reducible refine Below.alloc ?_ ?_ _); rotate_left; · (first | exact Nat.le_refl _ | (simp; done) | (simp; omega) | omega)) | (with_reducible apply Below.drew) | (with_reducible apply below_drewN') | (refine Below.trans ?_ (Below.mono (by assumption) (by first | exact Nat.le_refl _ | (simp; done) | (simp; omega) | omega))) | exact Below.refl _ _ | assumption))
  have b3 := Blk.new w 41 #[.int .i64 level, .bool corners]
  obtain ⟨c30, c31, _⟩ := blk2c b3
  have HE := Lib.hid he; clear he
  go_enter Tryz.func10, Tryz.ntmps10
  go_wp2_with (go_at_call 32; refine (openAsk_ok l A cap B level corners _ (hl.below hB0 hB) (by simp; omega) HE.out).mono ?_; rintro e w1 ⟨b, n, rfl, hb, hn, hM, hB1⟩; obtain ⟨w2, cnt, hrun, hr0, hg2, hs2⟩ := hM.range Tryz.underlying90)
  have hBB1 : Below w.heap.size w w1 := hB0.trans (hB1.mono (by simp))
  have hBB2 := hBB1.grown hg2 (Below.size hBB1) (fun k e => by cases e)
  have b32 := (b3.gr hB1).grown hg2 (by simp)
  have hI0 : PlM w b w1.heap.size n (atV l) level corners (fun x y => decide (0 ≤ atV l x y)) cnt 0 [] (.slice none 0 0) w2 := ⟨b32, hr0, World.ownsRow_nil _ _ _ _, hBB2, Below.size hBB1⟩
  have hl1 := places_loop b w1.heap.size n (atV l) level corners w hn
  unfold bodyOf at hl1
  conv at hl1 in (Option.getD _ Code.skip) => whnf
  refine hl1 _ ?_ _ cnt [] _ _ hI0 PlP.start
  clear hl1 hI0 b32 hBB2 hBB1 hg2 hs2 hr0 hrun hM hB1 b3 c30 c31 hB0 hl
  intro t0 t1 t2 t4 t5 t7 t9 t10 t11 t12 t13 t14 t15 t16 t17 t18 t19 t20 t21 t22 t23 t24 t25 t26 t28 t29 t30 t31 t32 t33 t34 t35 t36 t37 t38 t39 t40 t41 t42 t43 t44 t45 t46 t47 t48 t49 t50 t51 t52 t53 t54 t55 t56 t57 t58 t59 t60 t61 t62 t63 t64 t65 t66 t67 t68 t69 t70 t71 t72 P0 v left cnt' wr hI hP hleft
  have hPO := Lib.hid (hP.places hleft)
  have hPn := hP.count hI.rg.fmap
  have HI := Lib.hid hI
  clear hleft hP
  obtain ⟨pP, cap', rfl⟩ : ∃ pP cap', v = .slice pP P0.length cap' := by
    rcases hI.row.2 with ⟨rfl, h0⟩ | ⟨G, cap', cur, rfl, _⟩
    · have h2 := cellsC_len P0
      rw [h0] at h2
      have h3 : P0.length = 0 := by simp at h2; omega
      exact ⟨none, 0, by rw [h3]⟩
    · exact ⟨_, cap', rfl⟩
  clear hI
  have HS : Hid (Calls Tryz.prog 34 #[.slice pP P0.length cap', .func (.func 35) #[] #[]] wr fun e w' => e = .returned (.tuple #[]) ∧
      w'.ownsRow w.heap.size 62 2 (.slice pP P0.length cap') P0.length (cellsC (sortC P0)) ∧ wr.grownBy w' (Value.slice pP P0.length cap').ownBlock) := Lib.hid (by
    rcases Nat.eq_zero_or_pos P0.length with h0 | h0
    · obtain rfl := List.length_eq_zero_iff.1 h0
      refine (Tryz.slices_SortFunc_none_f88 (α := Nat) pP cap' _ wr).mono ?_
      rintro e w' ⟨rfl, rfl⟩
      have e0 : sortC ([] : List (Int × Int)) = [] := List.perm_nil.1 (sortC_perm [])
      exact ⟨rfl, by rw [e0]; exact HI.out.row, World.grownBy.refl _ _⟩
    · obtain ⟨G, cap2, hv, _, _⟩ := HI.out.row.form h0
      obtain ⟨rfl, rfl⟩ : pP = some ⟨G, 0, none⟩ ∧ cap' = cap2 := by injection hv with h1 h2 h3; exact ⟨h1, h3⟩
      exact sortC_any w.heap.size G cap' P0 wr HI.out.row (by omega))
  go_wp2_with (go_at_call 34; refine HS.out.mono ?_; rintro e w3 ⟨rfl, hrow3, hg3⟩; have hmk := @run_makeMap Tryz.prog)
  have hr0 := HI.out.row
  have n3 : some w.heap.size ≠ (Value.slice pP P0.length cap').ownBlock := fun e => own_blk_ne hr0 HI.out.b3 (by decide) e.symm
  have nb : some b ≠ (Value.slice pP P0.length cap').ownBlock := fun e => by
    obtain ⟨_, o, ho, hc, _⟩ := own_iscells hr0 e.symm
    obtain ⟨o', ho', hc', _⟩ := HI.out.rg.fmap.ncells
    exact ne_of_cells ho hc ho' hc' rfl
  have hb3 := (HI.out.b3.grown hg3 n3).alloc (.map #[] 0)
  have hM4 := (HI.out.rg.fmap.kept hg3 nb).alloc (.map #[] 0)
  have hblt := (HI.out.rg.fmap.kept hg3 nb).lt
  have hbel := HI.out.below.grown hg3 (Below.size HI.out.below) (fun r e => (own_iscells hr0 e).1)
  have hsz := Below.size hbel
  have hS4 := BMap.made w3
  have hrow4 := hrow3.alloc (.map #[] 0)
  have hls := sortC_length P0
  obtain ⟨P, hP⟩ : ∃ P, sortC P0 = P := ⟨_, rfl⟩
  rw [hP] at hPO hls hrow4
  rw [← hls] at hrow4
  rw [← hls]
  have hI4 : AoM w b n w3.heap.size (atV l) level corners P (.slice pP P.length cap') [] (.slice none 0 0) 0 (fun _ _ => false) (w3.alloc (.map #[] 0)) :=
    ⟨hb3, hM4, hS4, hrow4, World.ownsRow_nil _ _ _ _, by simp, hbel.alloc hsz _, ⟨hsz, by omega⟩⟩
  have hg := hgood
  have hl2 := areas_loop b n w3.heap.size cap' pP (atV l) level corners P w hn (Lib.hid (fun x y h => by have := atV_known hg.out h; omega)) (Lib.hid (fun x y => (atV_bd hg.out x y).2)) (Lib.hid hPO.out.abv) (by omega)
  unfold bodyOf at hl2
  conv at hl2 in (Option.getD _ Code.skip) => whnf
  refine hl2 _ ?_ _ hI4
  clear hl2 hI4 hb3 hM4 hS4 hrow4 hrow3 hg3 HI HS hr0 n3 nb hblt hbel hsz hmk hls hPn
  intro t0 t1 t2 t4 t5 t7 t8 t9 t12 t13 t14 t15 t16 t17 t18 t19 t20 t21 t22 t23 t24 t25 t26 t27 t28 t29 t30 t31 t32 t33 t34 t35 t36 t37 t38 t39 t40 t41 t42 t43 t47 t48 t49 t50 t51 t52 t53 t54 t55 t56 t57 t58 t59 t60 t61 t62 t63 t64 t65 t66 t67 t68 t69 t70 t71 t72 Bs vo kk w5 hBl hI5 hS5
  have HI5 := Lib.hid hI5; have HS5 := Lib.hid hS5
  clear hI5 hS5
  go_wp2
  go_ret2
  exact ⟨_, P, Bs, rfl, hPO.out, HS5.out, by have := HI5.out.rowO; rw [List.length_map] at this; exact this, fun q hq => HI5.out.rows q.2 (List.mem_map.2 ⟨q, hq, rfl⟩), HI5.out.below⟩
end Go.Proofs.YtjimdnmdnjhnjaaGreatDoor

namespace Go.Proofs.YtjimdnmdnjhnjaaGreatDoor
open Go.RowKit Go.Shelf

end Go.Proofs.YtjimdnmdnjhnjaaGreatDoor
