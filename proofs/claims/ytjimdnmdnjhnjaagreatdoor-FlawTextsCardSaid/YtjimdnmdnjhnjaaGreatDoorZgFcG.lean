/- Contracts of the package flaw: whether marks interact; their hull. Contracts of the package flaw: the first group that interacts with a mark's. Contract: a group is struck out of a slice of groups. -/
import Derived.ArgAppend
import Derived.Test.YtjimdnmdnjhnjaaGreatDoorZgFcD
namespace Go.Proofs.YtjimdnmdnjhnjaaGreatDoor
open Go.RowKit

/-- Whether two ranges are near. -/
def nearV (x0 x1 y0 y1 most num den : Int) : Bool := decide (gapV x0 x1 y0 y1 * den ≤ most * den + num * min (x1 - x0) (y1 - y0))
def interactV (a b : Mk) (r : Ru) : Bool := nearV a.al a.ah b.al b.ah r.along r.num r.den && nearV a.dl a.dh b.dl b.dh r.down r.num r.den
def hullV (a b : Mk) : Mk := ⟨a.nm, min a.al b.al, max a.ah b.ah, min a.dl b.dl, max a.dh b.dh, max a.lv b.lv⟩
/-- A number of a mark's size; the numbers of a mark, and of a rule. -/
def Sm (n : Int) : Prop := -1000000 ≤ n ∧ n ≤ 1000000
structure MkS (m : Mk) : Prop where
  al : Sm m.al
  ah : Sm m.ah
  dl : Sm m.dl
  dh : Sm m.dh
structure RuS (r : Ru) : Prop where
  along : 0 ≤ r.along ∧ r.along ≤ 100000
  down : 0 ≤ r.down ∧ r.down ≤ 100000
  num : 0 ≤ r.num ∧ r.num ≤ 400
  den : 1 ≤ r.den ∧ r.den ≤ 100
theorem MkS.hull {a b : Mk} (ha : MkS a) (hb : MkS b) : MkS (hullV a b) := by
  obtain ⟨a1, a2, a3, a4⟩ := ha
  obtain ⟨b1, b2, b3, b4⟩ := hb
  unfold Sm at *
  constructor <;> (unfold hullV Sm; dsimp only; omega)
theorem wr64 (n : Int) (h : -9223372036854775808 ≤ n ∧ n ≤ 9223372036854775807) : wrap64 n = n := by unfold wrap64; omega
theorem mul_sm {a b A B : Int} (ha : -A ≤ a ∧ a ≤ A) (hb : 0 ≤ b ∧ b ≤ B) (hA : 0 ≤ A) : -(A * B) ≤ a * b ∧ a * b ≤ A * B := by
  have h1 : a * b ≤ A * B := Int.le_trans (Int.mul_le_mul_of_nonneg_right ha.2 hb.1) (Int.mul_le_mul_of_nonneg_left hb.2 hA)
  have h2 : -(A * B) ≤ a * b := by
    have := Int.le_trans (Int.mul_le_mul_of_nonneg_right (show -a ≤ A by omega) hb.1) (Int.mul_le_mul_of_nonneg_left hb.2 hA)
    rw [Int.neg_mul] at this; omega
  exact ⟨h2, h1⟩

set_option maxRecDepth 100000 in
set_option maxHeartbeats 1000000 in
theorem near_any (x0 x1 y0 y1 most : Int) (r : Ru) (b : Nat) (h0 : Sm x0) (h1 : Sm x1) (h2 : Sm y0) (h3 : Sm y1) (hm : 0 ≤ most ∧ most ≤ 100000) (hr : RuS r) (w : World) (hb : Blk w b 55 (ruC r)) :
    Calls Tryz.prog 76 #[.agg (rgC x0 x1), .agg (rgC y0 y1), .int .i64 most, .pointer (some ⟨b, 0, none⟩)] w fun e w' => e = .returned (.bool (nearV x0 x1 y0 y1 most r.num r.den)) ∧ Below w.heap.size w w' := by
  have HN : Hid (decide (gapV x0 x1 y0 y1 * r.den ≤ most * r.den + r.num * min (x1 - x0) (y1 - y0)) = nearV x0 x1 y0 y1 most r.num r.den) := Lib.hid rfl
  unfold Sm at h0 h1 h2 h3
  have hg : 0 ≤ gapV x0 x1 y0 y1 ∧ gapV x0 x1 y0 y1 ≤ 2000000 := by unfold gapV; omega
  obtain ⟨_, _, n1, n2⟩ := hr
  have m1 := mul_sm (A := 2000000) (B := 100) (by omega) (show 0 ≤ r.den ∧ r.den ≤ 100 by omega) (by omega) (a := gapV x0 x1 y0 y1)
  have m2 := mul_sm (A := 100000) (B := 100) (by omega) (show 0 ≤ r.den ∧ r.den ≤ 100 by omega) (by omega) (a := most)
  have m3 : ∀ z, -2000000 ≤ z ∧ z ≤ 2000000 → -(2000000 * 400) ≤ r.num * z ∧ r.num * z ≤ 2000000 * 400 := fun z hz => by have := mul_sm (A := 2000000) (B := 400) hz n1 (by omega); rw [Int.mul_comm z] at this; exact this
  have m4 := m3 (x1 - x0) (by omega)
  have m5 := m3 (y1 - y0) (by omega)
  clear m3
  have hG : Hid (∀ w, Calls Tryz.prog 77 #[.agg (rgC x0 x1), .agg (rgC y0 y1)] w fun e w' => e = .returned (.int .i64 (gapV x0 x1 y0 y1)) ∧ Below w.heap.size w w') := Lib.hid (fun w => gap_any x0 x1 y0 y1 (by omega) (by omega) (by omega) (by omega) w)
  obtain ⟨G, hGV⟩ : ∃ G, gapV x0 x1 y0 y1 = G := ⟨_, rfl⟩
  rw [hGV] at HN hg m1 hG
  clear hGV
  unfold rgC at *
  go_enter Tryz.func76, Tryz.ntmps76
  go_wp2_with fail
  have b4 := (Blk.new w 23 #[.int .i64 x0, .int .i64 x1]).alloc (.cells #[.int .i64 y0, .int .i64 y1] 23)
  have b5 := Blk.new (w.alloc (.cells #[.int .i64 x0, .int .i64 x1] 23)) 23 #[.int .i64 y0, .int .i64 y1]
  have b3 := (hb.alloc (.cells #[.int .i64 x0, .int .i64 x1] 23)).alloc (.cells #[.int .i64 y0, .int .i64 y1] 23)
  have hBB : Below w.heap.size w ((w.alloc (.cells #[.int .i64 x0, .int .i64 x1] 23)).alloc (.cells #[.int .i64 y0, .int .i64 y1] 23)) := (by repeat (first | (with_reducible exact Below.refl _ _) | (with_reducible assumption) | ((with_reducible refine Below.setCell ?_ ?_ _); rotate_left; · (first | exact Nat.le_refl _ | (simp; done) | (simp; omega) | omega)) | ((with_reducible refine Below.alloc ?_ ?_ _); rotate_left; · (first | exact Nat.le_refl _ | (simp; done) | (simp; omega) | omega)) | (with_reducible apply Below.drew) | (with_reducible apply below_drewN') | (refine Below.trans ?_ (Below.mono (by assumption) (by first | exact Nat.le_refl _ | (simp; done) | (simp; omega) | omega))) | exact Below.refl _ _ | assumption))
  simp only [World.size_alloc] at b5
  obtain ⟨W, hW⟩ : ∃ W, (w.alloc (.cells #[.int .i64 x0, .int .i64 x1] 23)).alloc (.cells #[.int .i64 y0, .int .i64 y1] 23) = W := ⟨_, rfl⟩
  rw [hW] at b3 b4 b5 hBB ⊢
  clear hW
  have l_b4 := b4.lt
  obtain ⟨e0, e1, f4⟩ := blk2c b4
  have l_b5 := b5.lt
  obtain ⟨e2, e3, f5⟩ := blk2c b5
  have l_b3 := b3.lt
  obtain ⟨c0, c1, c2, c3, f3⟩ := blk4 b3
  refine wp_region_b 29 (by kernel_rfl) (by kernel_rfl) ?_; simp only [List.take, List.drop]
  repeat (first
    | (apply StepsD.run
       · go_simp
         done
       · intro w' hS K hK
         have hc := (bcell hS).1
         have hf := (bcell hS).2
         have hz := hS.size
         try simp at hz
         go_simp
         try go_bits
         first
           | exact hK _ hS
           | (go_at_call 77; (with_reducible refine (hG.out _).mono ?_); rintro e w1 ⟨rfl, hB1⟩; obtain ⟨hc1, hf1⟩ := bcell hB1; have hz1 := hB1.size; (try simp at hz1); exact hK _ (Below.trans hS (Below.mono hB1 (by first | exact Nat.le_refl _ | (simp; done) | (simp; omega) | omega))))
           | exact hK _ (by repeat (first | (with_reducible exact Below.refl _ _) | (with_reducible assumption) | ((with_reducible refine Below.setCell ?_ ?_ _); rotate_left; · (first | exact Nat.le_refl _ | (simp; done) | (simp; omega) | omega)) | ((with_reducible refine Below.alloc ?_ ?_ _); rotate_left; · (first | exact Nat.le_refl _ | (simp; done) | (simp; omega) | omega)) | (with_reducible apply Below.drew) | (with_reducible apply below_drewN') | (refine Below.trans ?_ (Below.mono (by assumption) (by first | exact Nat.le_refl _ | (simp; done) | (simp; omega) | omega))) | exact Below.refl _ _ | assumption))
       · simp [Act.put]
         done)
    | (apply StepsD.pass
       · go_simp
         done
       · simp only [Act.put, List.setIfInBounds_toArray, List.set_cons_succ, List.set_cons_zero]
         rfl))
  refine StepsD.done ?_
  intro w1 hS
  replace b4 := b4.gr hS
  replace b5 := b5.gr hS
  replace b3 := b3.gr hS
  replace hBB := hBB.trans (Below.mono hS (Below.size hBB))
  clear hS
  clear l_b4 e0 e1 f4 l_b5 e2 e3 f5 l_b3 c0 c1 c2 c3 f3
  have l_b4 := b4.lt
  have l_b5 := b5.lt
  have l_b3 := b3.lt
  obtain ⟨e0, e1, f4⟩ := blk2c b4
  obtain ⟨e2, e3, f5⟩ := blk2c b5
  obtain ⟨c0, c1, c2, c3, f3⟩ := blk4 b3
  go_wp2
  all_goals
    go_ret
    refine ⟨?_, hBB⟩
    rw [← HN.out]
    (show Ending.returned (Value.bool _) = _)
    rw [wr64 (r.num * _) (by omega), wr64 (most * r.den + _) (by omega)]
    first
      | (rw [show min (x1 - x0) (y1 - y0) = x1 - x0 by omega])
      | (rw [show min (x1 - x0) (y1 - y0) = y1 - y0 by omega])

theorem Blk.set6 {g : Nat} {b : World} {t : TypeId} {v0 v1 v2 v3 v4 v5 : Value} (h : Blk b g t #[v0, v1, v2, v3, v4, v5]) (u0 u1 u2 u3 u4 u5 : Value) :
    Blk ((((((b.setCell ⟨g, 0, none⟩ u0).setCell ⟨g, 1, none⟩ u1).setCell ⟨g, 2, none⟩ u2).setCell ⟨g, 3, none⟩ u3).setCell ⟨g, 4, none⟩ u4).setCell ⟨g, 5, none⟩ u5) g t #[u0, u1, u2, u3, u4, u5] :=
  (((((h.set_ 0 u0).set_ 1 u1).set_ 2 u2).set_ 3 u3).set_ 4 u4).set_ 5 u5
theorem Below.set6 {n g : Nat} {a b : World} {u0 u1 u2 u3 u4 u5 : Value} (h : Below n a b) (hg : n ≤ g) :
    Below n a ((((((b.setCell ⟨g, 0, none⟩ u0).setCell ⟨g, 1, none⟩ u1).setCell ⟨g, 2, none⟩ u2).setCell ⟨g, 3, none⟩ u3).setCell ⟨g, 4, none⟩ u4).setCell ⟨g, 5, none⟩ u5) :=
  (((((h.setCell hg _).setCell hg _).setCell hg _).setCell hg _).setCell hg _).setCell hg _

set_option maxHeartbeats 1000000 in
theorem hull_any (a b : Mk) (w : World) : Calls Tryz.prog 47 #[.agg (mkC a), .agg (mkC b)] w fun e w' => e = .returned (.agg (mkC (hullV a b))) ∧ Below w.heap.size w w' := by
  go_enter Tryz.func47, Tryz.ntmps47
  go_wp2_with fail
  have b2 := ((Blk.new w 25 (mkC a)).alloc (.cells (mkC b) 25)).alloc (.cells #[.string ⟨#[]⟩, .int .i64 0, .int .i64 0, .int .i64 0, .int .i64 0, .int .i64 0] 25)
  have b3 := (Blk.new (w.alloc (.cells (mkC a) 25)) 25 (mkC b)).alloc (.cells #[.string ⟨#[]⟩, .int .i64 0, .int .i64 0, .int .i64 0, .int .i64 0, .int .i64 0] 25)
  have b4 := Blk.new ((w.alloc (.cells (mkC a) 25)).alloc (.cells (mkC b) 25)) 25 #[.string ⟨#[]⟩, .int .i64 0, .int .i64 0, .int .i64 0, .int .i64 0, .int .i64 0]
  have hBB : Below w.heap.size w (((w.alloc (.cells (mkC a) 25)).alloc (.cells (mkC b) 25)).alloc (.cells #[.string ⟨#[]⟩, .int .i64 0, .int .i64 0, .int .i64 0, .int .i64 0, .int .i64 0] 25)) := (by repeat (first | (with_reducible exact Below.refl _ _) | (with_reducible assumption) | ((with_reducible refine Below.setCell ?_ ?_ _); rotate_left; · (first | exact Nat.le_refl _ | (simp; done) | (simp; omega) | omega)) | ((with_reducible refine Below.alloc ?_ ?_ _); rotate_left; · (first | exact Nat.le_refl _ | (simp; done) | (simp; omega) | omega)) | (with_reducible apply Below.drew) | (with_reducible apply below_drewN') | (refine Below.trans ?_ (Below.mono (by assumption) (by first | exact Nat.le_refl _ | (simp; done) | (simp; omega) | omega))) | exact Below.refl _ _ | assumption))
  simp only [World.size_alloc] at b3 b4
  obtain ⟨W, hW⟩ : ∃ W, ((w.alloc (.cells (mkC a) 25)).alloc (.cells (mkC b) 25)).alloc (.cells #[.string ⟨#[]⟩, .int .i64 0, .int .i64 0, .int .i64 0, .int .i64 0, .int .i64 0] 25) = W := ⟨_, rfl⟩
  rw [hW] at b2 b3 b4 hBB ⊢
  clear hW
  have l_b2 := b2.lt
  obtain ⟨n0, c1, c2, c3, c4, c5, f2⟩ := blk6 b2
  have l_b3 := b3.lt
  obtain ⟨n1, e1, e2, e3, e4, e5, f3⟩ := blk6 b3
  have l_b4 := b4.lt
  obtain ⟨g0, g1, g2, g3, g4, g5, f4⟩ := blk6 b4
  have n24 : w.heap.size ≠ w.heap.size + 1 + 1 := by omega
  have n34 : w.heap.size + 1 ≠ w.heap.size + 1 + 1 := by omega
  refine wp_region_b 18 (by kernel_rfl) (by kernel_rfl) ?_; simp only [List.take, List.drop]
  repeat (first
    | (apply StepsD.run
       · go_simp
         done
       · intro w' hS K hK
         have hc := (bcell hS).1
         have hf := (bcell hS).2
         have hz := hS.size
         try simp at hz
         go_simp
         try go_bits
         first
           | exact hK _ hS
           | (go_at_call 78; (with_reducible refine (over_any _ _ _ _ _).mono ?_); rintro e w1 ⟨rfl, hB1⟩; obtain ⟨hc1, hf1⟩ := bcell hB1; have hz1 := hB1.size; (try simp at hz1); exact hK _ (Below.trans hS (Below.mono hB1 (by first | exact Nat.le_refl _ | (simp; done) | (simp; omega) | omega))))
           | exact hK _ (by repeat (first | (with_reducible exact Below.refl _ _) | (with_reducible assumption) | ((with_reducible refine Below.setCell ?_ ?_ _); rotate_left; · (first | exact Nat.le_refl _ | (simp; done) | (simp; omega) | omega)) | ((with_reducible refine Below.alloc ?_ ?_ _); rotate_left; · (first | exact Nat.le_refl _ | (simp; done) | (simp; omega) | omega)) | (with_reducible apply Below.drew) | (with_reducible apply below_drewN') | (refine Below.trans ?_ (Below.mono (by assumption) (by first | exact Nat.le_refl _ | (simp; done) | (simp; omega) | omega))) | exact Below.refl _ _ | assumption))
       · simp [Act.put]
         done)
    | (apply StepsD.pass
       · go_simp
         done
       · simp only [Act.put, List.setIfInBounds_toArray, List.set_cons_succ, List.set_cons_zero]
         rfl))
  refine StepsD.done ?_
  intro w1 hS
  replace b2 := b2.gr hS
  replace b3 := b3.gr hS
  replace b4 := b4.gr hS
  replace hBB := hBB.trans (Below.mono hS (Below.size hBB))
  clear hS
  clear l_b2 n0 c1 c2 c3 c4 c5 f2 l_b3 n1 e1 e2 e3 e4 e5 f3 l_b4 g0 g1 g2 g3 g4 g5 f4
  have l_b2 := b2.lt
  have l_b3 := b3.lt
  have l_b4 := b4.lt
  obtain ⟨n0, c1, c2, c3, c4, c5, f2⟩ := blk6 b2
  obtain ⟨n1, e1, e2, e3, e4, e5, f3⟩ := blk6 b3
  obtain ⟨g0, g1, g2, g3, g4, g5, f4⟩ := blk6 b4
  go_wp2
  all_goals first
    | (have e0 : max a.lv b.lv = a.lv := (by omega); have b7 := b4.set6 (.string a.nm) (.int .i64 (min a.al b.al)) (.int .i64 (max a.ah b.ah)) (.int .i64 (min a.dl b.dl)) (.int .i64 (max a.dh b.dh)) (.int .i64 (a.lv)); obtain ⟨u0, u1, u2, u3, u4, u5, _⟩ := blk6 b7; refine bodyPost_ret (v := .agg #[.string a.nm, .int .i64 (min a.al b.al), .int .i64 (max a.ah b.ah), .int .i64 (min a.dl b.dl), .int .i64 (max a.dh b.dh), .int .i64 (a.lv)]) (by simp [results, Tryz.results47, go_sem, u0, u1, u2, u3, u4, u5]) rfl ⟨?_, Below.set6 hBB (by omega)⟩; (show _ = Ending.returned (.agg #[.string a.nm, .int .i64 (min a.al b.al), .int .i64 (max a.ah b.ah), .int .i64 (min a.dl b.dl), .int .i64 (max a.dh b.dh), .int .i64 (max a.lv b.lv)])); rw [e0])
    | (have e0 : max a.lv b.lv = b.lv := (by omega); have b7 := b4.set6 (.string a.nm) (.int .i64 (min a.al b.al)) (.int .i64 (max a.ah b.ah)) (.int .i64 (min a.dl b.dl)) (.int .i64 (max a.dh b.dh)) (.int .i64 (b.lv)); obtain ⟨u0, u1, u2, u3, u4, u5, _⟩ := blk6 b7; refine bodyPost_ret (v := .agg #[.string a.nm, .int .i64 (min a.al b.al), .int .i64 (max a.ah b.ah), .int .i64 (min a.dl b.dl), .int .i64 (max a.dh b.dh), .int .i64 (b.lv)]) (by simp [results, Tryz.results47, go_sem, u0, u1, u2, u3, u4, u5]) rfl ⟨?_, Below.set6 hBB (by omega)⟩; (show _ = Ending.returned (.agg #[.string a.nm, .int .i64 (min a.al b.al), .int .i64 (max a.ah b.ah), .int .i64 (min a.dl b.dl), .int .i64 (max a.dh b.dh), .int .i64 (max a.lv b.lv)])); rw [e0])

set_option maxHeartbeats 1000000 in
theorem interact_any (a b : Mk) (r : Ru) (ha : MkS a) (hb : MkS b) (hr : RuS r) (w : World) :
    Calls Tryz.prog 46 #[.agg (mkC a), .agg (mkC b), .agg (ruC r)] w fun e w' => e = .returned (.bool (interactV a b r)) ∧ Below w.heap.size w w' := by
  go_enter Tryz.func46, Tryz.ntmps46
  have b3 := ((Blk.new w 25 (mkC a)).alloc (.cells (mkC b) 25)).alloc (.cells (ruC r) 55)
  have b4 := (Blk.new (w.alloc (.cells (mkC a) 25)) 25 (mkC b)).alloc (.cells (ruC r) 55)
  have b5 := Blk.new ((w.alloc (.cells (mkC a) 25)).alloc (.cells (mkC b) 25)) 55 (ruC r)
  have hBB : Below w.heap.size w (((w.alloc (.cells (mkC a) 25)).alloc (.cells (mkC b) 25)).alloc (.cells (ruC r) 55)) := (by repeat (first | (with_reducible exact Below.refl _ _) | (with_reducible assumption) | ((with_reducible refine Below.setCell ?_ ?_ _); rotate_left; · (first | exact Nat.le_refl _ | (simp; done) | (simp; omega) | omega)) | ((with_reducible refine Below.alloc ?_ ?_ _); rotate_left; · (first | exact Nat.le_refl _ | (simp; done) | (simp; omega) | omega)) | (with_reducible apply Below.drew) | (with_reducible apply below_drewN') | (refine Below.trans ?_ (Below.mono (by assumption) (by first | exact Nat.le_refl _ | (simp; done) | (simp; omega) | omega))) | exact Below.refl _ _ | assumption))
  simp only [World.size_alloc] at b4 b5
  have H1 : Hid (interactV a b r = (nearV a.al a.ah b.al b.ah r.along r.num r.den && nearV a.dl a.dh b.dl b.dh r.down r.num r.den)) := Lib.hid rfl
  obtain ⟨N1, h1⟩ : ∃ N, nearV a.al a.ah b.al b.ah r.along r.num r.den = N := ⟨_, rfl⟩
  rw [h1] at H1
  have HN1 := Lib.hid h1; clear h1
  go_wp2_with fail
  refine (near_any a.al a.ah b.al b.ah r.along r _ ha.al ha.ah hb.al hb.ah hr.along hr _ b5).mono ?_
  rw [HN1.out]
  rintro e w1 ⟨rfl, hB1⟩
  replace b3 := b3.below hB1 (by simp only [World.size_alloc]; omega)
  replace b4 := b4.below hB1 (by simp only [World.size_alloc]; omega)
  replace b5 := b5.below hB1 (by simp only [World.size_alloc]; omega)
  replace hBB := hBB.trans (hB1.mono (by simp only [World.size_alloc]; omega))
  clear hB1
  have l_b3 := b3.lt
  obtain ⟨n0, c1, c2, c3, c4, c5, f3⟩ := blk6 b3
  have l_b4 := b4.lt
  obtain ⟨n1, e1, e2, e3, e4, e5, f4⟩ := blk6 b4
  have l_b5 := b5.lt
  obtain ⟨g0, g1, g2, g3, f5⟩ := blk4 b5
  cases N1
  · go_wp2
    go_ret
    exact ⟨by rw [H1.out]; rfl, hBB⟩
  · go_wp2_with fail
    refine (near_any a.dl a.dh b.dl b.dh r.down r _ ha.dl ha.dh hb.dl hb.dh hr.down hr _ b5).mono ?_
    rintro e w2 ⟨rfl, hB2⟩
    replace hBB := hBB.trans (hB2.mono (Below.size hBB))
    go_wp2
    all_goals
      go_ret
      exact ⟨by rw [H1.out]; simp [*], hBB⟩
end Go.Proofs.YtjimdnmdnjhnjaaGreatDoor

namespace Go.Proofs.YtjimdnmdnjhnjaaGreatDoor
open Go.RowKit

/-- A group: where its numbers lie, they themselves, its hull. -/
structure Gp where
  v : Value
  ns : List Int
  m : Mk
abbrev gpL (g : Gp) : List Value := [g.v, .string g.m.nm, .int .i64 g.m.al, .int .i64 g.m.ah, .int .i64 g.m.dl, .int .i64 g.m.dh, .int .i64 g.m.lv]
def gpsC (l : List Gp) : List Value := l.flatMap gpL
theorem gpsC_length (l : List Gp) : (gpsC l).length = l.length * 7 := by
  induction l with
  | nil => rfl
  | cons p l ih => simp only [gpsC, List.flatMap_cons, List.length_append] at ih ⊢; rw [ih]; simp; omega
theorem gpsC_append (a b : List Gp) : gpsC (a ++ b) = gpsC a ++ gpsC b := by simp [gpsC]
theorem gpsC_get : ∀ (l : List Gp) (k : Nat) (g : Gp), l[k]? = some g → ∀ j, j < 7 → (gpsC l)[k * 7 + j]? = (gpL g)[j]?
  | [], k, p, h, _, _ => by simp at h
  | q :: l, 0, p, h, j, hj => by
    obtain rfl : q = p := by simpa using h
    simp only [gpsC, List.flatMap_cons]
    rw [List.getElem?_append_left (by simp; omega)]; simp
  | q :: l, k + 1, p, h, j, hj => by
    rw [← gpsC_get l k p (by simpa using h) j hj]
    simp only [gpsC, List.flatMap_cons]
    rw [List.getElem?_append_right (by simp; omega)]
    congr 1
    simp; omega
theorem gpCells {w : World} {B : Nat} {A : Option Addr} {l : List Gp} (h : Row w B 7 A l.length (gpsC l)) {k : Nat} (hk : k < l.length) :
    ∃ g o, A = some ⟨g, o, none⟩ ∧ g < B ∧ w.cell? ⟨g, o + k * 7, none⟩ = some l[k].v ∧ w.cell? ⟨g, o + k * 7 + 1, none⟩ = some (.string l[k].m.nm) ∧ w.cell? ⟨g, o + k * 7 + 2, none⟩ = some (.int .i64 l[k].m.al) ∧ w.cell? ⟨g, o + k * 7 + 3, none⟩ = some (.int .i64 l[k].m.ah) ∧
      w.cell? ⟨g, o + k * 7 + 4, none⟩ = some (.int .i64 l[k].m.dl) ∧ w.cell? ⟨g, o + k * 7 + 5, none⟩ = some (.int .i64 l[k].m.dh) ∧ w.cell? ⟨g, o + k * 7 + 6, none⟩ = some (.int .i64 l[k].m.lv) := by
  obtain ⟨g, o, hA, hb, hc⟩ := h.2 (by omega)
  have hg := gpsC_get l k l[k] (List.getElem?_eq_getElem hk)
  exact ⟨g, o, hA, hb, hc _ _ (hg 0 (by omega)), hc _ _ (hg 1 (by omega)), hc _ _ (hg 2 (by omega)), hc _ _ (hg 3 (by omega)), hc _ _ (hg 4 (by omega)), hc _ _ (hg 5 (by omega)), hc _ _ (hg 6 (by omega))⟩
theorem blk7 {w : World} {g t : Nat} {v0 v1 v2 v3 v4 v5 v6 : Value} (h : Blk w g t #[v0, v1, v2, v3, v4, v5, v6]) :
    w.cell? ⟨g, 0, none⟩ = some v0 ∧ w.cell? ⟨g, 1, none⟩ = some v1 ∧ w.cell? ⟨g, 2, none⟩ = some v2 ∧ w.cell? ⟨g, 3, none⟩ = some v3 ∧ w.cell? ⟨g, 4, none⟩ = some v4 ∧ w.cell? ⟨g, 5, none⟩ = some v5 ∧ w.cell? ⟨g, 6, none⟩ = some v6 ∧ ∀ i, w.frozen? ⟨g, i, none⟩ = false :=
  ⟨h.cell 0, h.cell 1, h.cell 2, h.cell 3, h.cell 4, h.cell 5, h.cell 6, h.frozen⟩

abbrev gpA (v : Value) (m : Mk) : Array Value := #[v, .string m.nm, .int .i64 m.al, .int .i64 m.ah, .int .i64 m.dl, .int .i64 m.dh, .int .i64 m.lv]
/-- The two boxes of the closure: the mark's own group, the rule. -/
structure GpB (b10 b3 : Nat) (vo : Value) (own : Mk) (r : Ru) (W : World) : Prop where
  own : Blk W b10 106 (gpA vo own)
  rule : Blk W b3 55 (ruC r)
theorem GpB.gr {b10 b3 : Nat} {vo : Value} {own : Mk} {r : Ru} {W W' : World} (h : GpB b10 b3 vo own r W) (hg : Gr W W') : GpB b10 b3 vo own r W' := ⟨h.own.gr hg, h.rule.gr hg⟩

set_option maxRecDepth 100000 in
set_option maxHeartbeats 1000000 in
theorem meets_any (v vo : Value) (m own : Mk) (r : Ru) (b10 b3 : Nat) (hm : MkS m) (ho : MkS own) (hr : RuS r) (w : World) (hb : GpB b10 b3 vo own r w) :
    Calls Tryz.prog 45 #[.agg (gpA v m), .pointer (some ⟨b10, 0, none⟩), .pointer (some ⟨b3, 0, none⟩)] w fun e w' => e = .returned (.bool (interactV m own r)) ∧ Below w.heap.size w w' := by
  have d0 := Blk.new w 106 (gpA v m)
  have d1 := hb.own.alloc (.cells (gpA v m) 106)
  have d2 := hb.rule.alloc (.cells (gpA v m) 106)
  have hBB : Below w.heap.size w (w.alloc (.cells (gpA v m) 106)) := (by repeat (first | (with_reducible exact Below.refl _ _) | (with_reducible assumption) | ((with_reducible refine Below.setCell ?_ ?_ _); rotate_left; · (first | exact Nat.le_refl _ | (simp; done) | (simp; omega) | omega)) | ((with_reducible refine Below.alloc ?_ ?_ _); rotate_left; · (first | exact Nat.le_refl _ | (simp; done) | (simp; omega) | omega)) | (with_reducible apply Below.drew) | (with_reducible apply below_drewN') | (refine Below.trans ?_ (Below.mono (by assumption) (by first | exact Nat.le_refl _ | (simp; done) | (simp; omega) | omega))) | exact Below.refl _ _ | assumption))
  have l1 := hb.own.lt; have l2 := hb.rule.lt
  go_enter Tryz.func45, Tryz.ntmps45
  obtain ⟨a0, a1, a2, a3, a4, a5, a6, _⟩ := blk7 hb.own
  obtain ⟨c0, c1, c2, c3, _⟩ := blk4 hb.rule
  go_wp2_with fail
  refine (interact_any m own r hm ho hr _).mono ?_
  rintro e w1 ⟨rfl, hB1⟩
  replace hBB := hBB.trans (hB1.mono (by simp))
  go_wp2
  go_ret
  exact ⟨rfl, hBB⟩

set_option maxHeartbeats 1000000 in
theorem indexGp_any (l : List Gp) (A : Option Addr) (c : Nat) (vo : Value) (own : Mk) (r : Ru) (b10 b3 B : Nat) (w : World) (hn : l.length ≤ 1000000) (hR : Row w B 7 A l.length (gpsC l)) (hB : B ≤ w.heap.size) (hm : Hid (∀ g ∈ l, MkS g.m)) (ho : MkS own) (hr : RuS r) (hb : GpB b10 b3 vo own r w) :
    Calls Tryz.prog 44 #[.slice A l.length c, .func (.func 45) #[] #[.pointer (some ⟨b10, 0, none⟩), .pointer (some ⟨b3, 0, none⟩)]] w fun e w' => ∃ i : Int, e = .returned (.int .i64 i) ∧
      Hid ((i = -1 ∧ l.any (fun g => interactV g.m own r) = false) ∨ ∃ k, ∃ h : k < l.length, i = (k : Int) ∧ interactV l[k].m own r = true ∧ (l.take k).any (fun g => interactV g.m own r) = false) ∧ Below w.heap.size w w' := by
  have HO := Lib.hid ho; have HR := Lib.hid hr
  clear ho hr
  go_enter Tryz.func44, Tryz.ntmps44
  go_wp2
  go_loopw [8] (fun i wr => ∃ k : Nat, k ≤ l.length ∧ i = .int .i64 k ∧ Hid ((l.take k).any (fun g => interactV g.m own r) = false) ∧ Below w.heap.size w wr) (fun i _ => l.length - (intOf i).toNat)
  case atStart => exact ⟨0, Nat.zero_le _, rfl, rfl, Below.refl _ _⟩
  case round =>
    obtain ⟨k, hk, rfl, HI, hB'⟩ := hrel
    by_cases hlt : k < l.length
    · obtain ⟨g, o, hA, hg, c0, c1, c2, c3, c4, c5, c6⟩ := gpCells (hR.below hB' hB) hlt
      subst hA
      have hbk := Lib.hid (GpB.gr hb hB')
      have hMS := Lib.hid (hm.out l[k] (List.getElem_mem hlt))
      cases hs : interactV l[k].m own r
      · have HS := Lib.hid hs; clear hs
        have HX : Hid ((l.take (k + 1)).any (fun g => interactV g.m own r) = false) := Lib.hid (by rw [any_take_snoc _ _ hlt, HI.out, HS.out]; rfl)
        go_wp2_with fail
        refine (meets_any _ vo l[k].m own r b10 b3 hMS.out HO.out HR.out _ hbk.out).mono ?_
        rw [HS.out]
        rintro e w1 ⟨rfl, hB1⟩; obtain ⟨hc1, hf1⟩ := bcell hB1; have hz1 := hB1.size; (try simp at hz1)
        go_wp2
        refine ⟨⟨k + 1, by omega, by go_num, HX, Below.trans hB' (hB1.mono (Below.size hB'))⟩, by simp [intOf]; omega⟩
      · have HS := Lib.hid hs; clear hs
        go_wp2_with fail
        refine (meets_any _ vo l[k].m own r b10 b3 hMS.out HO.out HR.out _ hbk.out).mono ?_
        rw [HS.out]
        rintro e w1 ⟨rfl, hB1⟩; obtain ⟨hc1, hf1⟩ := bcell hB1; have hz1 := hB1.size; (try simp at hz1)
        go_wp2
        go_ret
        exact ⟨_, rfl, Lib.hid (.inr ⟨k, hlt, rfl, HS.out, HI.out⟩), Below.trans hB' (hB1.mono (Below.size hB'))⟩
    · obtain rfl : k = l.length := by omega
      go_wp2
      go_ret
      exact ⟨_, rfl, Lib.hid (.inl ⟨rfl, by have := HI.out; rwa [List.take_length] at this⟩), hB'⟩
end Go.Proofs.YtjimdnmdnjhnjaaGreatDoor

namespace Go.Proofs.YtjimdnmdnjhnjaaGreatDoor
open Go.RowKit

theorem Blk.setCells {g : Nat} {t : TypeId} : ∀ (vs : List Value) (o : Nat) {w : World} {cs : Array Value}, Blk w g t cs → o + vs.length ≤ cs.size →
    ∃ cs', Blk (w.setCells g o vs) g t cs' ∧ cs'.size = cs.size ∧ ∀ j, cs'[j]? = if o ≤ j ∧ j < o + vs.length then vs[j - o]? else cs[j]?
  | [], o, w, cs, h, _ => ⟨cs, h, rfl, fun j => by rw [if_neg (by simp only [List.length_nil]; omega)]⟩
  | v :: r, o, w, cs, h, hl => by
    simp only [List.length_cons] at hl
    obtain ⟨cs', h1, h2, h3⟩ := Blk.setCells r (o + 1) (h.set_ o v) (by rw [Array.size_setIfInBounds]; omega)
    refine ⟨cs', h1, by rw [h2, Array.size_setIfInBounds], fun j => ?_⟩
    rw [h3 j, Array.getElem?_setIfInBounds]
    simp only [List.length_cons]
    by_cases e : j = o
    · subst e
      rw [if_neg (by omega), if_pos rfl, if_pos (by omega), if_pos (by omega)]; simp
    · by_cases h4 : o + 1 ≤ j ∧ j < o + 1 + r.length
      · rw [if_pos h4, if_pos (by omega), show j - o = (j - (o + 1)) + 1 by omega]; simp
      · rw [if_neg h4, if_neg (by omega), if_neg (by omega)]
theorem only_setCells {a : World} {g : Nat} : ∀ (vs : List Value) (o : Nat) {w : World}, a.grownBy w (some g) → a.grownBy (w.setCells g o vs) (some g)
  | [], _, _, h => h
  | v :: r, o, _, h => only_setCells r (o + 1) (only_setCell (p := ⟨g, o, none⟩) h (.inl rfl) v)

section
variable {P : Program} {ops : Array Oper} {rest : List Oper} {o : Oper} {a : Act} {w : World} {Q : Exit → Act → World → Prop}
theorem wpList_append_room (hg : o.guard = none) (s x : Operand) (t : TypeId) (hop : o.op = Op.call { callee := Callee.builtin Builtin.append, args := #[s, x], argTypes := #[t, t] })
    (e : TypeId) (i : TypeInfo) (size : Nat) (h1 : P.underlying t = some (.slice e)) (h2 : P.info? e = some i) (h4 : i.size = size)
    (b off n cap : Nat) (hs : a.eval s = .slice (some ⟨b, off, none⟩) n cap)
    (ad : Addr) (m c : Nat) (news : List Value) (hx : a.eval x = .slice (some ad) m c) (hn : news.length = m * size) (hc : ∀ j u, news[j]? = some u → w.cell? (ad.add j) = some u) (h1c : ∀ u ∈ news, u.oneCell' = true)
    (hroom : n + m ≤ cap) (hspare : ∀ j, j < news.length → (w.cell? ⟨b, off + n * size + j, none⟩).isSome = true ∧ w.frozen? ⟨b, off + n * size + j, none⟩ = false)
    (hK : wpList P ops Q rest (a.put o.dst (.slice (some ⟨b, off, none⟩) (n + m) cap)) (w.setCells b (off + n * size) news)) : wpList P ops Q (o :: rest) a w :=
  wpList_plain hg fun K hk => by
    subst h4
    have hrun := run_append_room_cells (P := P) w t o.type e i h1 h2 b off n cap ad m c news hn hc h1c hroom (fun j hj => (hspare j hj).1) (fun j hj => (hspare j hj).2)
    unfold Oper.wp
    simp [execOp, hop, resolve, invoke, builtin, hs, hx, hrun, Result.andThen]
    exact hk _ _ hK
end
/-- 'clear' of one element of several cells. -/
theorem run_clear_one {P : Program} (w : World) (t e ty : TypeId) (z : Value) (h1 : P.underlying t = some (.slice e)) (hv : ∀ w, (zeroValue e).run P w = .ok z w)
    (b off c : Nat) (zs : List Value) (hz : (Builtin.zeroCells z.cells 1).toList = zs) (h1c : ∀ u ∈ zs, u.oneCell' = true)
    (hspare : ∀ j, j < zs.length → (w.cell? ⟨b, off + j, none⟩).isSome = true ∧ w.frozen? ⟨b, off + j, none⟩ = false) :
    (Builtin.clear_ #[t] ty #[.slice (some ⟨b, off, none⟩) 1 c]).run P w = .ok (.tuple #[]) (w.setCells b off zs) := by
  have hst := run_storeCells_cells (P := P) b off zs 0 w (by simpa using fun j hj => (hspare j hj).1) (by simpa using fun j hj => (hspare j hj).2) h1c
  simp only [Nat.add_zero] at hst
  simp [Builtin.clear_, run_underlying h1, hv, hz, hst]

theorem infoGroup : (Tryz.prog.info? 106).map (fun i => (i.zero, i.size, i.bytes)) = some (some (.agg #[.slice none 0 0, .string ⟨#[]⟩, .int .i64 0, .int .i64 0, .int .i64 0, .int .i64 0, .int .i64 0]), 7, 80) := by kernel_rfl

set_option maxRecDepth 100000 in
set_option maxHeartbeats 1000000 in
theorem delete_any (l : List Gp) (k : Nat) (hk : k < l.length) (hn : l.length ≤ 1000000) (base : Nat) (v : Value) (h1 : Hid (∀ u ∈ gpsC l, u.oneCell' = true)) (w : World) (hown : w.ownsRow base 106 7 v l.length (gpsC l)) :
    Calls Tryz.prog 48 #[v, .int .i64 k, .int .i64 (k + 1)] w fun e w' => ∃ v', e = .returned v' ∧ w'.ownsRow base 106 7 v' (l.eraseIdx k).length (gpsC (l.eraseIdx k)) ∧ w.grownBy w' v.ownBlock ∧ v'.ownBlock = v.ownBlock := by
  rcases hown.2 with ⟨rfl, h0⟩ | ⟨g, cap, cur, rfl, hb, hh, hnc, hcm, hsz, htk⟩
  · omega
  · have b0 : Blk w g 106 cur := hh
    have hcm' : cap ≤ 9223372036854775807 := by unfold maxLen at hcm; omega
    go_enter Tryz.func48, Tryz.ntmps48
    have i1 : (k : Int) ≤ (cap : Int) := by omega
    have i2 : (k : Int) + 1 ≤ (l.length : Int) := by omega
    have i3 : (l.length : Int) ≤ (cap : Int) := by omega
    have i4 : k ≤ cap := by omega
    have i5 : k + 1 ≤ l.length := by omega
    have e16 : ((k : Int) == (k : Int) + 1) = false := by simp; omega
    go_wp2_with fail
    refine wp_region_b 6 (by kernel_rfl) (by kernel_rfl) ?_; simp only [List.take, List.drop]
    repeat (first
      | (apply StepsD.run
         · go_simp
           done
         · intro w' hS K hK
           have hc := (bcell hS).1
           have hf := (bcell hS).2
           have hz := hS.size
           try simp at hz
           go_simp
           try go_bits
           first
             | exact hK _ hS
             | exact hK _ (by repeat (first | (with_reducible exact Below.refl _ _) | (with_reducible assumption) | ((with_reducible refine Below.setCell ?_ ?_ _); rotate_left; · (first | exact Nat.le_refl _ | (simp; done) | (simp; omega) | omega)) | ((with_reducible refine Below.alloc ?_ ?_ _); rotate_left; · (first | exact Nat.le_refl _ | (simp; done) | (simp; omega) | omega)) | (with_reducible apply Below.drew) | (with_reducible apply below_drewN') | (refine Below.trans ?_ (Below.mono (by assumption) (by first | exact Nat.le_refl _ | (simp; done) | (simp; omega) | omega))) | exact Below.refl _ _ | assumption))
         · simp [Act.put]
           done)
      | (apply StepsD.pass
         · go_simp
           done
         · simp only [Act.put, List.setIfInBounds_toArray, List.set_cons_succ, List.set_cons_zero]
           rfl))
    refine StepsD.done ?_
    intro W hS
    have b1 := b0.gr hS
    have hgw : w.grownBy W (some g) := only_of_below hS _
    obtain ⟨N, hN⟩ : ∃ N, l.length = N + 1 := ⟨l.length - 1, by omega⟩
    have hcells : ∀ j, j < l.length * 7 → W.cell? ⟨g, j, none⟩ = (gpsC l)[j]? := fun j hj => by
      rw [b1.cell j, ← htk, List.getElem?_take_of_lt hj, Array.getElem?_toList]
    obtain ⟨news, hnews⟩ : ∃ news, gpsC (l.drop (k + 1)) = news := ⟨_, rfl⟩
    have hlen : news.length = (l.length - (k + 1)) * 7 := by rw [← hnews, gpsC_length, List.length_drop]
    have hsplit : gpsC l = gpsC (l.take (k + 1)) ++ news := by rw [← hnews, ← gpsC_append, List.take_append_drop]
    have hl1 : (gpsC (l.take (k + 1))).length = (k + 1) * 7 := by rw [gpsC_length, List.length_take, Nat.min_eq_left (by omega)]
    have hget : ∀ j, (gpsC l)[(k + 1) * 7 + j]? = news[j]? := fun j => by
      rw [hsplit, List.getElem?_append_right (by omega), hl1]; congr 1; omega
    obtain ⟨A, hA, hsrc⟩ : ∃ A : Addr, (if cap = k + 1 then some (⟨g, 0, none⟩ : Addr) else some ⟨g, (k + 1) * 7, none⟩) = some A ∧ Hid (∀ j u, news[j]? = some u → W.cell? (A.add j) = some u) := by
      by_cases h : cap = k + 1
      · refine ⟨⟨g, 0, none⟩, by simp [h], Lib.hid (fun j u hu => ?_)⟩
        have h0 : news.length = 0 := by rw [hlen]; omega
        rw [List.length_eq_zero_iff.1 h0] at hu
        simp at hu
      · refine ⟨⟨g, (k + 1) * 7, none⟩, by simp [h], Lib.hid (fun j u hu => ?_)⟩
        have hj : j < news.length := (List.getElem?_eq_some_iff.1 hu).1
        rw [Addr.add_lit, hcells _ (by omega), hget, hu]
    have hone : Hid (∀ u ∈ news, u.oneCell' = true) := Lib.hid (fun u hu => h1.out u (by rw [hsplit]; exact List.mem_append_right _ hu))
    have hsp : Hid (∀ j, j < news.length → (W.cell? ⟨g, 0 + k * 7 + j, none⟩).isSome = true ∧ W.frozen? ⟨g, 0 + k * 7 + j, none⟩ = false) := Lib.hid (fun j hj => by
      rw [b1.cell]
      refine ⟨?_, b1.frozen _⟩
      rw [Array.getElem?_eq_getElem (by omega)]
      rfl)
    rw [hA]
    simp only [Act.put, List.setIfInBounds_toArray, List.set_cons_succ, List.set_cons_zero]
    obtain ⟨i0, hi, hz0, hz1, hz2⟩ := info_parts infoGroup
    obtain ⟨cur1, d1, dsz1, dget1⟩ := Blk.setCells news (0 + k * 7) b1 (by omega)
    have hgw1 := only_setCells news (0 + k * 7) hgw
    refine wpList_append_room rfl (.tmp 22) (.tmp 25) 104 rfl 106 i0 7 Tryz.underlying104 hi hz1 g 0 k cap rfl A (l.length - (k + 1)) _ news rfl hlen hsrc.out hone.out (by omega) hsp.out ?_
    obtain ⟨W1, hW1⟩ : ∃ W1, W.setCells g (0 + k * 7) news = W1 := ⟨_, rfl⟩
    rw [hW1] at d1 hgw1 ⊢
    rw [show k + (l.length - (k + 1)) = N by omega, hN]
    have hzc : Hid (∀ j, j < 7 → (W1.cell? ⟨g, N * 7 + j, none⟩).isSome = true ∧ W1.frozen? ⟨g, N * 7 + j, none⟩ = false) := Lib.hid (fun j hj => by
      rw [d1.cell]
      refine ⟨?_, d1.frozen _⟩
      rw [Array.getElem?_eq_getElem (by omega)]
      rfl)
    have j1 : (N : Int) + 1 ≤ (cap : Int) := by omega
    have j2 : N + 1 ≤ cap := by omega
    have j3 : ((N + 1 : Nat) : Int) = (N : Int) + 1 := by omega
    have j4 : N ≤ cap := by omega
    have j5 : (N : Int) ≤ (cap : Int) := by omega
    rw [j3]
    obtain ⟨cur2, d2, dsz2, dget2⟩ := Blk.setCells [.slice none 0 0, .string ⟨#[]⟩, .int .i64 0, .int .i64 0, .int .i64 0, .int .i64 0, .int .i64 0] (N * 7) d1 (by simp only [List.length_cons, List.length_nil]; omega)
    have hgw2 := only_setCells [.slice none 0 0, .string ⟨#[]⟩, .int .i64 0, .int .i64 0, .int .i64 0, .int .i64 0, .int .i64 0] (N * 7) hgw1
    have D2 := Lib.hid d2
    have G1 := Lib.hid dget1; have G2 := Lib.hid dget2; have HGET := Lib.hid hget; have HTK := Lib.hid htk
    clear hsrc hone hsp hcells hA hh hown b0 b1 hS hgw hW1 d2 dget1 dget2 hget htk d1 i2 i3 i5
    have hclr := run_clear_one (P := Tryz.prog) W1 104 106 0 _ Tryz.underlying104 Tryz.zeroValue106 g (N * 7) (cap - N) [.slice none 0 0, .string ⟨#[]⟩, .int .i64 0, .int .i64 0, .int .i64 0, .int .i64 0, .int .i64 0] (by kernel_rfl) (by simp [Value.oneCell']) hzc.out
    obtain ⟨W2, hW2⟩ : ∃ W2, W1.setCells g (N * 7) [.slice none 0 0, .string ⟨#[]⟩, .int .i64 0, .int .i64 0, .int .i64 0, .int .i64 0, .int .i64 0] = W2 := ⟨_, rfl⟩
    rw [hW2] at hclr hgw2 D2
    clear hW2 hzc
    go_wp2
    go_ret
    refine ⟨_, rfl, ?_, hgw2, rfl⟩
    have he : (l.eraseIdx k).length = N := by rw [List.length_eraseIdx_of_lt hk]; omega
    rw [he]
    have hes : gpsC (l.eraseIdx k) = gpsC (l.take k) ++ news := by rw [List.eraseIdx_eq_take_drop_succ, gpsC_append, hnews]
    refine ⟨by rw [gpsC_length, he], .inr ⟨g, cap, cur2, rfl, hb, D2.out, j4, hcm, by omega, ?_⟩⟩
    apply List.ext_getElem?
    intro j
    have htl : (gpsC (l.take k)).length = k * 7 := by rw [gpsC_length, List.length_take, Nat.min_eq_left (by omega)]
    have hsp2 : gpsC l = gpsC (l.take k) ++ gpsC (l.drop k) := by rw [← gpsC_append, List.take_append_drop]
    by_cases hj : j < N * 7
    · rw [List.getElem?_take_of_lt hj, Array.getElem?_toList, G2.out j, if_neg (by omega), G1.out j, hes]
      by_cases hjk : j < k * 7
      · rw [if_neg (by omega), List.getElem?_append_left (by omega), ← Array.getElem?_toList, ← List.getElem?_take_of_lt (show j < l.length * 7 by omega), HTK.out, hsp2, List.getElem?_append_left (by omega)]
      · rw [if_pos (by omega), List.getElem?_append_right (by omega), htl, Nat.zero_add]
    · rw [List.getElem?_eq_none (by rw [List.length_take]; omega), List.getElem?_eq_none (by rw [gpsC_length, he]; omega)]
end Go.Proofs.YtjimdnmdnjhnjaaGreatDoor
