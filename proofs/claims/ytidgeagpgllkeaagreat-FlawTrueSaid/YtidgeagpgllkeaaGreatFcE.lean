/- Contracts of the package flaw: whether marks interact; their hull. -/
import Derived.Test.YtidgeagpgllkeaaGreatFcD
namespace Go.Proofs.YtidgeagpgllkeaaGreat
open Go.RowKit

/-- Whether two ranges are near. -/
def nearV (x0 x1 y0 y1 most num den : Int) : Bool := decide (gapV x0 x1 y0 y1 * den ≤ most * den + num * min (x1 - x0) (y1 - y0))
def interactV (a b : Mk) (r : Ru) : Bool := nearV a.al a.ah b.al b.ah r.along r.num r.den && nearV a.dl a.dh b.dl b.dh r.down r.num r.den
def hullV (a b : Mk) : Mk := ⟨a.nm, min a.al b.al, max a.ah b.ah, min a.dl b.dl, max a.dh b.dh, max a.lv b.lv⟩
/-- A number of a mark's size; the numbers of a mark, and of a rule. -/
def Sm (n : Int) : Prop := -1000000 ≤ n ∧ n ≤ 1000000
structure MkS (m : Mk) : Prop where
  al : Sm m.al
  ah : Sm m.ah
  dl : Sm m.dl
  dh : Sm m.dh
structure RuS (r : Ru) : Prop where
  along : 0 ≤ r.along ∧ r.along ≤ 100000
  down : 0 ≤ r.down ∧ r.down ≤ 100000
  num : 0 ≤ r.num ∧ r.num ≤ 400
  den : 1 ≤ r.den ∧ r.den ≤ 100
theorem MkS.hull {a b : Mk} (ha : MkS a) (hb : MkS b) : MkS (hullV a b) := by
  obtain ⟨a1, a2, a3, a4⟩ := ha
  obtain ⟨b1, b2, b3, b4⟩ := hb
  unfold Sm at *
  constructor <;> (unfold hullV Sm; dsimp only; omega)
theorem wr64 (n : Int) (h : -9223372036854775808 ≤ n ∧ n ≤ 9223372036854775807) : wrap64 n = n := by unfold wrap64; omega
theorem mul_sm {a b A B : Int} (ha : -A ≤ a ∧ a ≤ A) (hb : 0 ≤ b ∧ b ≤ B) (hA : 0 ≤ A) : -(A * B) ≤ a * b ∧ a * b ≤ A * B := by
  have h1 : a * b ≤ A * B := Int.le_trans (Int.mul_le_mul_of_nonneg_right ha.2 hb.1) (Int.mul_le_mul_of_nonneg_left hb.2 hA)
  have h2 : -(A * B) ≤ a * b := by
    have := Int.le_trans (Int.mul_le_mul_of_nonneg_right (show -a ≤ A by omega) hb.1) (Int.mul_le_mul_of_nonneg_left hb.2 hA)
    rw [Int.neg_mul] at this; omega
  exact ⟨h2, h1⟩

set_option maxRecDepth 100000 in
set_option maxHeartbeats 1000000 in
theorem near_any (x0 x1 y0 y1 most : Int) (r : Ru) (b : Nat) (h0 : Sm x0) (h1 : Sm x1) (h2 : Sm y0) (h3 : Sm y1) (hm : 0 ≤ most ∧ most ≤ 100000) (hr : RuS r) (w : World) (hb : Blk w b 62 (ruC r)) :
    Calls Tryz.prog 148 #[.agg (rgC x0 x1), .agg (rgC y0 y1), .int .i64 most, .pointer (some ⟨b, 0, none⟩)] w fun e w' => e = .returned (.bool (nearV x0 x1 y0 y1 most r.num r.den)) ∧ Below w.heap.size w w' := by
  have HN : Hid (decide (gapV x0 x1 y0 y1 * r.den ≤ most * r.den + r.num * min (x1 - x0) (y1 - y0)) = nearV x0 x1 y0 y1 most r.num r.den) := Lib.hid rfl
  unfold Sm at h0 h1 h2 h3
  have hg : 0 ≤ gapV x0 x1 y0 y1 ∧ gapV x0 x1 y0 y1 ≤ 2000000 := by unfold gapV; omega
  obtain ⟨_, _, n1, n2⟩ := hr
  have m1 := mul_sm (A := 2000000) (B := 100) (by omega) (show 0 ≤ r.den ∧ r.den ≤ 100 by omega) (by omega) (a := gapV x0 x1 y0 y1)
  have m2 := mul_sm (A := 100000) (B := 100) (by omega) (show 0 ≤ r.den ∧ r.den ≤ 100 by omega) (by omega) (a := most)
  have m3 : ∀ z, -2000000 ≤ z ∧ z ≤ 2000000 → -(2000000 * 400) ≤ r.num * z ∧ r.num * z ≤ 2000000 * 400 := fun z hz => by have := mul_sm (A := 2000000) (B := 400) hz n1 (by omega); rw [Int.mul_comm z] at this; exact this
  have m4 := m3 (x1 - x0) (by omega)
  have m5 := m3 (y1 - y0) (by omega)
  clear m3
  have hG : Hid (∀ w, Calls Tryz.prog 149 #[.agg (rgC x0 x1), .agg (rgC y0 y1)] w fun e w' => e = .returned (.int .i64 (gapV x0 x1 y0 y1)) ∧ Below w.heap.size w w') := Lib.hid (fun w => gap_any x0 x1 y0 y1 (by omega) (by omega) (by omega) (by omega) w)
  obtain ⟨G, hGV⟩ : ∃ G, gapV x0 x1 y0 y1 = G := ⟨_, rfl⟩
  rw [hGV] at HN hg m1 hG
  clear hGV
  unfold rgC at *
  go_enter Tryz.func148, Tryz.ntmps148
  go_wp2_with fail
  have b4 := (Blk.new w 48 #[.int .i64 x0, .int .i64 x1]).alloc (.cells #[.int .i64 y0, .int .i64 y1] 48)
  have b5 := Blk.new (w.alloc (.cells #[.int .i64 x0, .int .i64 x1] 48)) 48 #[.int .i64 y0, .int .i64 y1]
  have b3 := (hb.alloc (.cells #[.int .i64 x0, .int .i64 x1] 48)).alloc (.cells #[.int .i64 y0, .int .i64 y1] 48)
  have hBB : Below w.heap.size w ((w.alloc (.cells #[.int .i64 x0, .int .i64 x1] 48)).alloc (.cells #[.int .i64 y0, .int .i64 y1] 48)) := (by repeat (first | (with_reducible exact Below.refl _ _) | (with_reducible assumption) | ((with_reducible refine Below.setCell ?_ ?_ _); rotate_left; · (first | exact Nat.le_refl _ | (simp; done) | (simp; omega) | omega)) | ((with_reducible refine Below.alloc ?_ ?_ _); rotate_left; · (first | exact Nat.le_refl _ | (simp; done) | (simp; omega) | omega)) | (with_reducible apply Below.drew) | (with_reducible apply below_drewN') | (refine Below.trans ?_ (Below.mono (by assumption) (by first | exact Nat.le_refl _ | (simp; done) | (simp; omega) | omega))) | exact Below.refl _ _ | assumption))
  simp only [World.size_alloc] at b5
  obtain ⟨W, hW⟩ : ∃ W, (w.alloc (.cells #[.int .i64 x0, .int .i64 x1] 48)).alloc (.cells #[.int .i64 y0, .int .i64 y1] 48) = W := ⟨_, rfl⟩
  rw [hW] at b3 b4 b5 hBB ⊢
  clear hW
  have l_b4 := b4.lt
  obtain ⟨e0, e1, f4⟩ := blk2c b4
  have l_b5 := b5.lt
  obtain ⟨e2, e3, f5⟩ := blk2c b5
  have l_b3 := b3.lt
  obtain ⟨c0, c1, c2, c3, f3⟩ := blk4 b3
  refine wp_region_b 29 (by kernel_rfl) (by kernel_rfl) ?_; simp only [List.take, List.drop]
  repeat (first
    | (apply StepsD.run
       · go_simp
         done
       · intro w' hS K hK
         have hc := (bcell hS).1
         have hf := (bcell hS).2
         have hz := hS.size
         try simp at hz
         go_simp
         try go_bits
         first
           | exact hK _ hS
           | (go_at_call 149; (with_reducible refine (hG.out _).mono ?_); rintro e w1 ⟨rfl, hB1⟩; obtain ⟨hc1, hf1⟩ := bcell hB1; have hz1 := hB1.size; (try simp at hz1); exact hK _ (Below.trans hS (Below.mono hB1 (by first | exact Nat.le_refl _ | (simp; done) | (simp; omega) | omega))))
           | exact hK _ (by repeat (first | (with_reducible exact Below.refl _ _) | (with_reducible assumption) | ((with_reducible refine Below.setCell ?_ ?_ _); rotate_left; · (first | exact Nat.le_refl _ | (simp; done) | (simp; omega) | omega)) | ((with_reducible refine Below.alloc ?_ ?_ _); rotate_left; · (first | exact Nat.le_refl _ | (simp; done) | (simp; omega) | omega)) | (with_reducible apply Below.drew) | (with_reducible apply below_drewN') | (refine Below.trans ?_ (Below.mono (by assumption) (by first | exact Nat.le_refl _ | (simp; done) | (simp; omega) | omega))) | exact Below.refl _ _ | assumption))
       · simp [Act.put]
         done)
    | (apply StepsD.pass
       · go_simp
         done
       · simp only [Act.put, List.setIfInBounds_toArray, List.set_cons_succ, List.set_cons_zero]
         rfl))
  refine StepsD.done ?_
  intro w1 hS
  replace b4 := b4.gr hS
  replace b5 := b5.gr hS
  replace b3 := b3.gr hS
  replace hBB := hBB.trans (Below.mono hS (Below.size hBB))
  clear hS
  clear l_b4 e0 e1 f4 l_b5 e2 e3 f5 l_b3 c0 c1 c2 c3 f3
  have l_b4 := b4.lt
  have l_b5 := b5.lt
  have l_b3 := b3.lt
  obtain ⟨e0, e1, f4⟩ := blk2c b4
  obtain ⟨e2, e3, f5⟩ := blk2c b5
  obtain ⟨c0, c1, c2, c3, f3⟩ := blk4 b3
  go_wp2
  all_goals
    go_ret
    refine ⟨?_, hBB⟩
    rw [← HN.out]
    (show Ending.returned (Value.bool _) = _)
    rw [wr64 (r.num * _) (by omega), wr64 (most * r.den + _) (by omega)]
    first
      | (rw [show min (x1 - x0) (y1 - y0) = x1 - x0 by omega])
      | (rw [show min (x1 - x0) (y1 - y0) = y1 - y0 by omega])

theorem Blk.set6 {g : Nat} {b : World} {t : TypeId} {v0 v1 v2 v3 v4 v5 : Value} (h : Blk b g t #[v0, v1, v2, v3, v4, v5]) (u0 u1 u2 u3 u4 u5 : Value) :
    Blk ((((((b.setCell ⟨g, 0, none⟩ u0).setCell ⟨g, 1, none⟩ u1).setCell ⟨g, 2, none⟩ u2).setCell ⟨g, 3, none⟩ u3).setCell ⟨g, 4, none⟩ u4).setCell ⟨g, 5, none⟩ u5) g t #[u0, u1, u2, u3, u4, u5] :=
  (((((h.set_ 0 u0).set_ 1 u1).set_ 2 u2).set_ 3 u3).set_ 4 u4).set_ 5 u5
theorem Below.set6 {n g : Nat} {a b : World} {u0 u1 u2 u3 u4 u5 : Value} (h : Below n a b) (hg : n ≤ g) :
    Below n a ((((((b.setCell ⟨g, 0, none⟩ u0).setCell ⟨g, 1, none⟩ u1).setCell ⟨g, 2, none⟩ u2).setCell ⟨g, 3, none⟩ u3).setCell ⟨g, 4, none⟩ u4).setCell ⟨g, 5, none⟩ u5) :=
  (((((h.setCell hg _).setCell hg _).setCell hg _).setCell hg _).setCell hg _).setCell hg _

set_option maxHeartbeats 1000000 in
theorem hull_any (a b : Mk) (w : World) : Calls Tryz.prog 103 #[.agg (mkC a), .agg (mkC b)] w fun e w' => e = .returned (.agg (mkC (hullV a b))) ∧ Below w.heap.size w w' := by
  go_enter Tryz.func103, Tryz.ntmps103
  go_wp2_with fail
  have b2 := ((Blk.new w 79 (mkC a)).alloc (.cells (mkC b) 79)).alloc (.cells #[.string ⟨#[]⟩, .int .i64 0, .int .i64 0, .int .i64 0, .int .i64 0, .int .i64 0] 79)
  have b3 := (Blk.new (w.alloc (.cells (mkC a) 79)) 79 (mkC b)).alloc (.cells #[.string ⟨#[]⟩, .int .i64 0, .int .i64 0, .int .i64 0, .int .i64 0, .int .i64 0] 79)
  have b4 := Blk.new ((w.alloc (.cells (mkC a) 79)).alloc (.cells (mkC b) 79)) 79 #[.string ⟨#[]⟩, .int .i64 0, .int .i64 0, .int .i64 0, .int .i64 0, .int .i64 0]
  have hBB : Below w.heap.size w (((w.alloc (.cells (mkC a) 79)).alloc (.cells (mkC b) 79)).alloc (.cells #[.string ⟨#[]⟩, .int .i64 0, .int .i64 0, .int .i64 0, .int .i64 0, .int .i64 0] 79)) := (by repeat (first | (with_reducible exact Below.refl _ _) | (with_reducible assumption) | ((with_reducible refine Below.setCell ?_ ?_ _); rotate_left; · (first | exact Nat.le_refl _ | (simp; done) | (simp; omega) | omega)) | ((with_reducible refine Below.alloc ?_ ?_ _); rotate_left; · (first | exact Nat.le_refl _ | (simp; done) | (simp; omega) | omega)) | (with_reducible apply Below.drew) | (with_reducible apply below_drewN') | (refine Below.trans ?_ (Below.mono (by assumption) (by first | exact Nat.le_refl _ | (simp; done) | (simp; omega) | omega))) | exact Below.refl _ _ | assumption))
  simp only [World.size_alloc] at b3 b4
  obtain ⟨W, hW⟩ : ∃ W, ((w.alloc (.cells (mkC a) 79)).alloc (.cells (mkC b) 79)).alloc (.cells #[.string ⟨#[]⟩, .int .i64 0, .int .i64 0, .int .i64 0, .int .i64 0, .int .i64 0] 79) = W := ⟨_, rfl⟩
  rw [hW] at b2 b3 b4 hBB ⊢
  clear hW
  have l_b2 := b2.lt
  obtain ⟨n0, c1, c2, c3, c4, c5, f2⟩ := blk6 b2
  have l_b3 := b3.lt
  obtain ⟨n1, e1, e2, e3, e4, e5, f3⟩ := blk6 b3
  have l_b4 := b4.lt
  obtain ⟨g0, g1, g2, g3, g4, g5, f4⟩ := blk6 b4
  have n24 : w.heap.size ≠ w.heap.size + 1 + 1 := by omega
  have n34 : w.heap.size + 1 ≠ w.heap.size + 1 + 1 := by omega
  refine wp_region_b 18 (by kernel_rfl) (by kernel_rfl) ?_; simp only [List.take, List.drop]
  repeat (first
    | (apply StepsD.run
       · go_simp
         done
       · intro w' hS K hK
         have hc := (bcell hS).1
         have hf := (bcell hS).2
         have hz := hS.size
         try simp at hz
         go_simp
         try go_bits
         first
           | exact hK _ hS
           | (go_at_call 118; (with_reducible refine (over_any _ _ _ _ _).mono ?_); rintro e w1 ⟨rfl, hB1⟩; obtain ⟨hc1, hf1⟩ := bcell hB1; have hz1 := hB1.size; (try simp at hz1); exact hK _ (Below.trans hS (Below.mono hB1 (by first | exact Nat.le_refl _ | (simp; done) | (simp; omega) | omega))))
           | exact hK _ (by repeat (first | (with_reducible exact Below.refl _ _) | (with_reducible assumption) | ((with_reducible refine Below.setCell ?_ ?_ _); rotate_left; · (first | exact Nat.le_refl _ | (simp; done) | (simp; omega) | omega)) | ((with_reducible refine Below.alloc ?_ ?_ _); rotate_left; · (first | exact Nat.le_refl _ | (simp; done) | (simp; omega) | omega)) | (with_reducible apply Below.drew) | (with_reducible apply below_drewN') | (refine Below.trans ?_ (Below.mono (by assumption) (by first | exact Nat.le_refl _ | (simp; done) | (simp; omega) | omega))) | exact Below.refl _ _ | assumption))
       · simp [Act.put]
         done)
    | (apply StepsD.pass
       · go_simp
         done
       · simp only [Act.put, List.setIfInBounds_toArray, List.set_cons_succ, List.set_cons_zero]
         rfl))
  refine StepsD.done ?_
  intro w1 hS
  replace b2 := b2.gr hS
  replace b3 := b3.gr hS
  replace b4 := b4.gr hS
  replace hBB := hBB.trans (Below.mono hS (Below.size hBB))
  clear hS
  clear l_b2 n0 c1 c2 c3 c4 c5 f2 l_b3 n1 e1 e2 e3 e4 e5 f3 l_b4 g0 g1 g2 g3 g4 g5 f4
  have l_b2 := b2.lt
  have l_b3 := b3.lt
  have l_b4 := b4.lt
  obtain ⟨n0, c1, c2, c3, c4, c5, f2⟩ := blk6 b2
  obtain ⟨n1, e1, e2, e3, e4, e5, f3⟩ := blk6 b3
  obtain ⟨g0, g1, g2, g3, g4, g5, f4⟩ := blk6 b4
  go_wp2
  all_goals first
    | (have e0 : max a.lv b.lv = a.lv := (by omega); have b7 := b4.set6 (.string a.nm) (.int .i64 (min a.al b.al)) (.int .i64 (max a.ah b.ah)) (.int .i64 (min a.dl b.dl)) (.int .i64 (max a.dh b.dh)) (.int .i64 (a.lv)); obtain ⟨u0, u1, u2, u3, u4, u5, _⟩ := blk6 b7; refine bodyPost_ret (v := .agg #[.string a.nm, .int .i64 (min a.al b.al), .int .i64 (max a.ah b.ah), .int .i64 (min a.dl b.dl), .int .i64 (max a.dh b.dh), .int .i64 (a.lv)]) (by simp [results, Tryz.results103, go_sem, u0, u1, u2, u3, u4, u5]) rfl ⟨?_, Below.set6 hBB (by omega)⟩; (show _ = Ending.returned (.agg #[.string a.nm, .int .i64 (min a.al b.al), .int .i64 (max a.ah b.ah), .int .i64 (min a.dl b.dl), .int .i64 (max a.dh b.dh), .int .i64 (max a.lv b.lv)])); rw [e0])
    | (have e0 : max a.lv b.lv = b.lv := (by omega); have b7 := b4.set6 (.string a.nm) (.int .i64 (min a.al b.al)) (.int .i64 (max a.ah b.ah)) (.int .i64 (min a.dl b.dl)) (.int .i64 (max a.dh b.dh)) (.int .i64 (b.lv)); obtain ⟨u0, u1, u2, u3, u4, u5, _⟩ := blk6 b7; refine bodyPost_ret (v := .agg #[.string a.nm, .int .i64 (min a.al b.al), .int .i64 (max a.ah b.ah), .int .i64 (min a.dl b.dl), .int .i64 (max a.dh b.dh), .int .i64 (b.lv)]) (by simp [results, Tryz.results103, go_sem, u0, u1, u2, u3, u4, u5]) rfl ⟨?_, Below.set6 hBB (by omega)⟩; (show _ = Ending.returned (.agg #[.string a.nm, .int .i64 (min a.al b.al), .int .i64 (max a.ah b.ah), .int .i64 (min a.dl b.dl), .int .i64 (max a.dh b.dh), .int .i64 (max a.lv b.lv)])); rw [e0])

set_option maxHeartbeats 1000000 in
theorem interact_any (a b : Mk) (r : Ru) (ha : MkS a) (hb : MkS b) (hr : RuS r) (w : World) :
    Calls Tryz.prog 102 #[.agg (mkC a), .agg (mkC b), .agg (ruC r)] w fun e w' => e = .returned (.bool (interactV a b r)) ∧ Below w.heap.size w w' := by
  go_enter Tryz.func102, Tryz.ntmps102
  have b3 := ((Blk.new w 79 (mkC a)).alloc (.cells (mkC b) 79)).alloc (.cells (ruC r) 62)
  have b4 := (Blk.new (w.alloc (.cells (mkC a) 79)) 79 (mkC b)).alloc (.cells (ruC r) 62)
  have b5 := Blk.new ((w.alloc (.cells (mkC a) 79)).alloc (.cells (mkC b) 79)) 62 (ruC r)
  have hBB : Below w.heap.size w (((w.alloc (.cells (mkC a) 79)).alloc (.cells (mkC b) 79)).alloc (.cells (ruC r) 62)) := (by repeat (first | (with_reducible exact Below.refl _ _) | (with_reducible assumption) | ((with_reducible refine Below.setCell ?_ ?_ _); rotate_left; · (first | exact Nat.le_refl _ | (simp; done) | (simp; omega) | omega)) | ((with_reducible refine Below.alloc ?_ ?_ _); rotate_left; · (first | exact Nat.le_refl _ | (simp; done) | (simp; omega) | omega)) | (with_reducible apply Below.drew) | (with_reducible apply below_drewN') | (refine Below.trans ?_ (Below.mono (by assumption) (by first | exact Nat.le_refl _ | (simp; done) | (simp; omega) | omega))) | exact Below.refl _ _ | assumption))
  simp only [World.size_alloc] at b4 b5
  have H1 : Hid (interactV a b r = (nearV a.al a.ah b.al b.ah r.along r.num r.den && nearV a.dl a.dh b.dl b.dh r.down r.num r.den)) := Lib.hid rfl
  obtain ⟨N1, h1⟩ : ∃ N, nearV a.al a.ah b.al b.ah r.along r.num r.den = N := ⟨_, rfl⟩
  rw [h1] at H1
  have HN1 := Lib.hid h1; clear h1
  go_wp2_with fail
  refine (near_any a.al a.ah b.al b.ah r.along r _ ha.al ha.ah hb.al hb.ah hr.along hr _ b5).mono ?_
  rw [HN1.out]
  rintro e w1 ⟨rfl, hB1⟩
  replace b3 := b3.below hB1 (by simp only [World.size_alloc]; omega)
  replace b4 := b4.below hB1 (by simp only [World.size_alloc]; omega)
  replace b5 := b5.below hB1 (by simp only [World.size_alloc]; omega)
  replace hBB := hBB.trans (hB1.mono (by simp only [World.size_alloc]; omega))
  clear hB1
  have l_b3 := b3.lt
  obtain ⟨n0, c1, c2, c3, c4, c5, f3⟩ := blk6 b3
  have l_b4 := b4.lt
  obtain ⟨n1, e1, e2, e3, e4, e5, f4⟩ := blk6 b4
  have l_b5 := b5.lt
  obtain ⟨g0, g1, g2, g3, f5⟩ := blk4 b5
  cases N1
  · go_wp2
    go_ret
    exact ⟨by rw [H1.out]; rfl, hBB⟩
  · go_wp2_with fail
    refine (near_any a.dl a.dh b.dl b.dh r.down r _ ha.dl ha.dh hb.dl hb.dh hr.down hr _ b5).mono ?_
    rintro e w2 ⟨rfl, hB2⟩
    replace hBB := hBB.trans (hB2.mono (Below.size hBB))
    go_wp2
    all_goals
      go_ret
      exact ⟨by rw [H1.out]; simp [*], hBB⟩
end Go.Proofs.YtidgeagpgllkeaaGreat
