/- Contract: the time between two places, of places that are right. -/
import Derived.Test.YtidgeagpgllkeaaFbC
import Derived.Test.YtidgeagpgllkeaaFaD
namespace Go.Proofs.Ytidgeagpgllkeaa
open Go.RowKit

theorem sq_small {x m : Int} (h : -m ≤ x ∧ x ≤ m) : 0 ≤ x * x ∧ x * x ≤ m * m := by
  have e : x * x = (x.natAbs : Int) * x.natAbs := by rw [← Int.natAbs_mul_self (a := x)]; rfl
  rw [e]
  exact ⟨Int.mul_nonneg (by omega) (by omega), Int.mul_le_mul (by omega) (by omega) (by omega) (by omega)⟩
theorem wayN_sym (x z : Int) : wayN (-x) (-z) = wayN x z := by unfold wayN; rw [Int.neg_mul_neg, Int.neg_mul_neg]

set_option maxHeartbeats 1000000 in
theorem rLength_any (x z : Int) (hx : -200000 ≤ x ∧ x ≤ 200000) (hz : -200000 ≤ z ∧ z ≤ 200000) (w : World) :
    Calls Try.prog 15 #[.int .i64 x, .int .i64 z] w fun e w' => e = .returned (.agg (rgC (isq (wayN x z)) (isqUp (wayN x z)))) ∧ Below w.heap.size w w' := by
  have s1 := sq_small hx
  have s2 := sq_small hz
  have hN : Hid (1000000 * (x * x + z * z) = wayN x z) := Lib.hid rfl
  have hb : 0 ≤ wayN x z ∧ wayN x z ≤ 80000000000000000 := by rw [← hN.out]; omega
  obtain ⟨n, hn⟩ : ∃ n, wayN x z = n := ⟨_, rfl⟩
  rw [hn] at hb hN ⊢
  clear hn
  have i1 := isq_nonneg n
  have i2 : isq n ≤ 300000000 := isq_le_of (by omega) (by omega)
  have s4 := mul_bd0 i1 i2 i1 i2
  unfold rgC
  go_enter Try.func15, Try.ntmps15
  have b4 := Blk.new w 27 #[.int .i64 0, .int .i64 0]
  have hBB : Below w.heap.size w (w.alloc (.cells #[.int .i64 0, .int .i64 0] 27)) := (by repeat (first | (with_reducible exact Below.refl _ _) | (with_reducible assumption) | ((with_reducible refine Below.setCell ?_ ?_ _); rotate_left; · (first | exact Nat.le_refl _ | (simp; done) | (simp; omega) | omega)) | ((with_reducible refine Below.alloc ?_ ?_ _); rotate_left; · (first | exact Nat.le_refl _ | (simp; done) | (simp; omega) | omega)) | (with_reducible apply Below.drew) | (with_reducible apply below_drewN') | (refine Below.trans ?_ (Below.mono (by assumption) (by first | exact Nat.le_refl _ | (simp; done) | (simp; omega) | omega))) | exact Below.refl _ _ | assumption))
  go_wp2_with fail
  rw [hN.out]
  refine (rRoot_any n (by omega) (by omega) _).mono ?_
  rintro e w1 ⟨rfl, hB1⟩
  replace b4 := b4.gr hB1
  replace hBB := hBB.trans (hB1.mono (by simp))
  have hz1 := Below.size hBB
  obtain ⟨r, hr⟩ : ∃ r, isq n = r := ⟨_, rfl⟩
  rw [hr] at i1 i2 s4 ⊢
  have HR := Lib.hid hr; clear hr
  have b6 := Blk.new w1 27 #[.int .i64 r, .int .i64 0]
  have b4' := b4.alloc (.cells #[.int .i64 r, .int .i64 0] 27)
  have l4 := b4.lt
  obtain ⟨e0, e1, f4⟩ := blk2c b4
  have n46 : w.heap.size ≠ w1.heap.size := by omega
  by_cases hlt : r * r < n
  · have HU : Hid (isqUp n = r + 1) := Lib.hid (by unfold isqUp; rw [HR.out, if_pos hlt])
    go_wp2
    rw [HR.out, HU.out]
    have d4 := (b4.set2 (.int .i64 r) (.int .i64 (r + 1))).alloc (.cells #[.int .i64 r, .int .i64 (r + 1)] 27)
    obtain ⟨g0, g1, _⟩ := blk2c d4
    exact bodyPost_ret (v := .agg #[.int .i64 r, .int .i64 (r + 1)]) (by simp [results, Try.results15, go_sem, g0, g1]) rfl ⟨rfl, ((hBB.setCell (by simp) _).setCell (by simp) _).alloc (by simp; omega) _⟩
  · have HU : Hid (isqUp n = r) := Lib.hid (by unfold isqUp; rw [HR.out, if_neg hlt])
    go_wp2
    rw [HR.out, HU.out]
    have d4 := (b4.set2 (.int .i64 r) (.int .i64 (r))).alloc (.cells #[.int .i64 r, .int .i64 (r)] 27)
    obtain ⟨g0, g1, _⟩ := blk2c d4
    exact bodyPost_ret (v := .agg #[.int .i64 r, .int .i64 (r)]) (by simp [results, Try.results15, go_sem, g0, g1]) rfl ⟨rfl, ((hBB.setCell (by simp) _).setCell (by simp) _).alloc (by simp; omega) _⟩

set_option maxHeartbeats 1000000 in
theorem rTime_any (a b sp : Int) (ha : 0 ≤ a ∧ a ≤ 1000000000) (hb : 0 ≤ b ∧ b ≤ 1000000000) (hs : 500 ≤ sp ∧ sp ≤ 10000) (w : World) :
    Calls Try.prog 14 #[.agg (rgC a b), .int .i64 sp] w fun e w' => e = .returned (.agg (rgC (a * 10000 / sp) (-(-(b * 10000) / sp)))) ∧ Below w.heap.size w w' := by
  unfold rgC
  have q1 := ediv_bd (a * 10000) sp (by omega)
  have q2 := ediv_bd (-(b * 10000)) sp (by omega)
  go_enter Try.func14, Try.ntmps14
  go_wp2_with fail
  have b2 := (Blk.new w 27 #[.int .i64 a, .int .i64 b]).alloc (.cells #[.int .i64 0, .int .i64 0] 27)
  have b4 := Blk.new (w.alloc (.cells #[.int .i64 a, .int .i64 b] 27)) 27 #[.int .i64 0, .int .i64 0]
  have hBB : Below w.heap.size w ((w.alloc (.cells #[.int .i64 a, .int .i64 b] 27)).alloc (.cells #[.int .i64 0, .int .i64 0] 27)) := (by repeat (first | (with_reducible exact Below.refl _ _) | (with_reducible assumption) | ((with_reducible refine Below.setCell ?_ ?_ _); rotate_left; · (first | exact Nat.le_refl _ | (simp; done) | (simp; omega) | omega)) | ((with_reducible refine Below.alloc ?_ ?_ _); rotate_left; · (first | exact Nat.le_refl _ | (simp; done) | (simp; omega) | omega)) | (with_reducible apply Below.drew) | (with_reducible apply below_drewN') | (refine Below.trans ?_ (Below.mono (by assumption) (by first | exact Nat.le_refl _ | (simp; done) | (simp; omega) | omega))) | exact Below.refl _ _ | assumption))
  simp only [World.size_alloc] at b4
  obtain ⟨W, hW⟩ : ∃ W, (w.alloc (.cells #[.int .i64 a, .int .i64 b] 27)).alloc (.cells #[.int .i64 0, .int .i64 0] 27) = W := ⟨_, rfl⟩
  rw [hW] at b2 b4 hBB ⊢
  clear hW
  have l_b2 := b2.lt
  obtain ⟨e0, e0', f0⟩ := blk2c b2
  have l_b4 := b4.lt
  obtain ⟨e2, e2', f2⟩ := blk2c b4
  have n02 : w.heap.size ≠ w.heap.size + 1 := by omega
  refine wp_region_b 11 (by kernel_rfl) (by kernel_rfl) ?_; simp only [List.take, List.drop]
  repeat (first
    | (apply StepsD.run
       · go_simp
         done
       · intro w' hS K hK
         have hc := (bcell hS).1
         have hf := (bcell hS).2
         have hz := hS.size
         try simp at hz
         go_simp
         try go_bits
         first
           | exact hK _ hS
           | (go_at_call 29; refine (rDown_any _ _ (by omega) (by omega) _).mono ?_; rintro e w1 ⟨rfl, rfl⟩; exact hK _ hS)
           | (go_at_call 30; refine (rUp_any _ _ (by omega) (by omega) _).mono ?_; rintro e w1 ⟨rfl, rfl⟩; exact hK _ hS)
           | exact hK _ (by repeat (first | (with_reducible exact Below.refl _ _) | (with_reducible assumption) | ((with_reducible refine Below.setCell ?_ ?_ _); rotate_left; · (first | exact Nat.le_refl _ | (simp; done) | (simp; omega) | omega)) | ((with_reducible refine Below.alloc ?_ ?_ _); rotate_left; · (first | exact Nat.le_refl _ | (simp; done) | (simp; omega) | omega)) | (with_reducible apply Below.drew) | (with_reducible apply below_drewN') | (refine Below.trans ?_ (Below.mono (by assumption) (by first | exact Nat.le_refl _ | (simp; done) | (simp; omega) | omega))) | exact Below.refl _ _ | assumption))
       · simp [Act.put]
         done)
    | (apply StepsD.pass
       · go_simp
         done
       · simp only [Act.put, List.setIfInBounds_toArray, List.set_cons_succ, List.set_cons_zero]
         rfl))
  refine StepsD.done ?_
  intro w1 hS
  replace b2 := b2.gr hS
  replace b4 := b4.gr hS
  replace hBB := hBB.trans (Below.mono hS (Below.size hBB))
  clear hS
  clear l_b2 e0 e0' f0 l_b4 e2 e2' f2
  have l_b2 := b2.lt
  have l_b4 := b4.lt
  obtain ⟨e0, e0', f0⟩ := blk2c b2
  obtain ⟨e2, e2', f2⟩ := blk2c b4
  go_wp2
  have b5 := b4.set2 (.int .i64 (a * 10000 / sp)) (.int .i64 (-(-(b * 10000) / sp)))
  obtain ⟨u0, u1, _⟩ := blk2c b5
  exact bodyPost_ret (v := .agg #[.int .i64 (a * 10000 / sp), .int .i64 (-(-(b * 10000) / sp))]) (by simp [results, Try.results14, go_sem, u0, u1]) rfl ⟨rfl, (hBB.setCell (by simp) _).setCell (by simp) _⟩

set_option maxHeartbeats 1000000 in
theorem timeOf_ok (x z sp : Int) (hx : 0 ≤ x ∧ x ≤ 20000) (hz : 0 ≤ z ∧ z ≤ 20000) (hs : 500 ≤ sp ∧ sp ≤ 10000) (w : World) :
    Calls Try.prog 6 #[.agg #[.int .i64 0, .int .i64 0], .agg #[.int .i64 x, .int .i64 z], .int .i64 sp] w fun e w' => e = .returned (.tuple #[.agg (rgC (tLo x z sp) (tHi x z sp)), .int .i64 0]) ∧ Below w.heap.size w w' := by
  unfold rgC
  have hN := wayN_bd hx hz
  have HL : Hid (wayN (-x) (-z) = wayN x z) := Lib.hid (wayN_sym x z)
  have l0 := isq_nonneg (wayN x z)
  have u0 := isqUp_nonneg (wayN x z)
  have u1 : isqUp (wayN x z) ≤ 30000000 := isqUp_le_of (by omega) (by omega)
  have l1 : isq (wayN x z) ≤ 30000000 := isq_le_of (by omega) (by omega)
  have HT : Hid (isq (wayN x z) * 10000 / sp = tLo x z sp) := Lib.hid rfl
  have HU : Hid (-(-(isqUp (wayN x z) * 10000) / sp) = tHi x z sp) := Lib.hid rfl
  go_enter Try.func6, Try.ntmps6
  go_wp2_with fail
  have b3 := ((Blk.new w 33 #[.int .i64 0, .int .i64 0]).alloc (.cells #[.int .i64 x, .int .i64 z] 33)).alloc (.cells #[.int .i64 0, .int .i64 0] 27)
  have b4 := (Blk.new (w.alloc (.cells #[.int .i64 0, .int .i64 0] 33)) 33 #[.int .i64 x, .int .i64 z]).alloc (.cells #[.int .i64 0, .int .i64 0] 27)
  have b6 := Blk.new ((w.alloc (.cells #[.int .i64 0, .int .i64 0] 33)).alloc (.cells #[.int .i64 x, .int .i64 z] 33)) 27 #[.int .i64 0, .int .i64 0]
  have hBB : Below w.heap.size w (((w.alloc (.cells #[.int .i64 0, .int .i64 0] 33)).alloc (.cells #[.int .i64 x, .int .i64 z] 33)).alloc (.cells #[.int .i64 0, .int .i64 0] 27)) := (by repeat (first | (with_reducible exact Below.refl _ _) | (with_reducible assumption) | ((with_reducible refine Below.setCell ?_ ?_ _); rotate_left; · (first | exact Nat.le_refl _ | (simp; done) | (simp; omega) | omega)) | ((with_reducible refine Below.alloc ?_ ?_ _); rotate_left; · (first | exact Nat.le_refl _ | (simp; done) | (simp; omega) | omega)) | (with_reducible apply Below.drew) | (with_reducible apply below_drewN') | (refine Below.trans ?_ (Below.mono (by assumption) (by first | exact Nat.le_refl _ | (simp; done) | (simp; omega) | omega))) | exact Below.refl _ _ | assumption))
  simp only [World.size_alloc] at b4 b6
  obtain ⟨W, hW⟩ : ∃ W, ((w.alloc (.cells #[.int .i64 0, .int .i64 0] 33)).alloc (.cells #[.int .i64 x, .int .i64 z] 33)).alloc (.cells #[.int .i64 0, .int .i64 0] 27) = W := ⟨_, rfl⟩
  rw [hW] at b3 b4 b6 hBB ⊢
  clear hW
  have l_b3 := b3.lt
  obtain ⟨e0, e0', f0⟩ := blk2c b3
  have l_b4 := b4.lt
  obtain ⟨e1, e1', f1⟩ := blk2c b4
  have l_b6 := b6.lt
  obtain ⟨e2, e2', f2⟩ := blk2c b6
  have n06 : w.heap.size ≠ w.heap.size + 1 + 1 := by omega
  have n16 : w.heap.size + 1 ≠ w.heap.size + 1 + 1 := by omega
  refine wp_region_b 6 (by kernel_rfl) (by kernel_rfl) ?_; simp only [List.take, List.drop]
  repeat (first
    | (apply StepsD.run
       · go_simp
         done
       · intro w' hS K hK
         have hc := (bcell hS).1
         have hf := (bcell hS).2
         have hz := hS.size
         try simp at hz
         go_simp
         try go_bits
         first
           | exact hK _ hS
           | (go_at_call 12; (with_reducible refine (rSpot_ok _ _ (by omega) (by omega) _).mono ?_); rintro e w1 ⟨rfl, hB1⟩; obtain ⟨hc1, hf1⟩ := bcell hB1; have hz1 := hB1.size; (try simp at hz1); exact hK _ (Below.trans hS (Below.mono hB1 (by first | exact Nat.le_refl _ | (simp; done) | (simp; omega) | omega))))
           | (go_at_call 13; (with_reducible refine (rSpeed_ok _ (by omega) _).mono ?_); rintro e w1 ⟨rfl, rfl⟩; exact hK _ hS)
           | exact hK _ (by repeat (first | (with_reducible exact Below.refl _ _) | (with_reducible assumption) | ((with_reducible refine Below.setCell ?_ ?_ _); rotate_left; · (first | exact Nat.le_refl _ | (simp; done) | (simp; omega) | omega)) | ((with_reducible refine Below.alloc ?_ ?_ _); rotate_left; · (first | exact Nat.le_refl _ | (simp; done) | (simp; omega) | omega)) | (with_reducible apply Below.drew) | (with_reducible apply below_drewN') | (refine Below.trans ?_ (Below.mono (by assumption) (by first | exact Nat.le_refl _ | (simp; done) | (simp; omega) | omega))) | exact Below.refl _ _ | assumption))
       · simp [Act.put]
         done)
    | (apply StepsD.pass
       · go_simp
         done
       · simp only [Act.put, List.setIfInBounds_toArray, List.set_cons_succ, List.set_cons_zero]
         rfl))
  refine StepsD.done ?_
  intro w1 hS
  replace b3 := b3.gr hS
  replace b4 := b4.gr hS
  replace b6 := b6.gr hS
  replace hBB := hBB.trans (Below.mono hS (Below.size hBB))
  clear hS
  clear l_b3 e0 e0' f0 l_b4 e1 e1' f1 l_b6 e2 e2' f2
  have l_b3 := b3.lt
  have l_b4 := b4.lt
  have l_b6 := b6.lt
  obtain ⟨e0, e0', f0⟩ := blk2c b3
  obtain ⟨e1, e1', f1⟩ := blk2c b4
  obtain ⟨e2, e2', f2⟩ := blk2c b6
  go_wp2_with fail
  refine (rFirst_zero _ _).mono ?_
  rintro e wc1 ⟨rfl, hBc1⟩
  replace b3 := b3.gr hBc1
  replace b4 := b4.gr hBc1
  replace b6 := b6.gr hBc1
  replace hBB := hBB.trans (Below.mono hBc1 (Below.size hBB))
  clear hBc1
  clear l_b3 e0 e0' f0 l_b4 e1 e1' f1 l_b6 e2 e2' f2
  have l_b3 := b3.lt
  have l_b4 := b4.lt
  have l_b6 := b6.lt
  obtain ⟨e0, e0', f0⟩ := blk2c b3
  obtain ⟨e1, e1', f1⟩ := blk2c b4
  obtain ⟨e2, e2', f2⟩ := blk2c b6
  go_wp2_with fail
  refine (rLength_any (-x) (-z) (by omega) (by omega) _).mono ?_
  rw [HL.out]
  rintro e wc2 ⟨rfl, hBc2⟩
  replace b3 := b3.gr hBc2
  replace b4 := b4.gr hBc2
  replace b6 := b6.gr hBc2
  replace hBB := hBB.trans (Below.mono hBc2 (Below.size hBB))
  clear hBc2
  clear l_b3 e0 e0' f0 l_b4 e1 e1' f1 l_b6 e2 e2' f2
  have l_b3 := b3.lt
  have l_b4 := b4.lt
  have l_b6 := b6.lt
  obtain ⟨e0, e0', f0⟩ := blk2c b3
  obtain ⟨e1, e1', f1⟩ := blk2c b4
  obtain ⟨e2, e2', f2⟩ := blk2c b6
  go_wp2_with fail
  refine (rTime_any _ _ sp ⟨l0, by omega⟩ ⟨u0, by omega⟩ hs _).mono ?_
  rw [HT.out, HU.out]
  rintro e wc3 ⟨rfl, hBc3⟩
  replace b3 := b3.gr hBc3
  replace b4 := b4.gr hBc3
  replace b6 := b6.gr hBc3
  replace hBB := hBB.trans (Below.mono hBc3 (Below.size hBB))
  clear hBc3
  clear l_b3 e0 e0' f0 l_b4 e1 e1' f1 l_b6 e2 e2' f2
  have l_b3 := b3.lt
  have l_b4 := b4.lt
  have l_b6 := b6.lt
  obtain ⟨e0, e0', f0⟩ := blk2c b3
  obtain ⟨e1, e1', f1⟩ := blk2c b4
  obtain ⟨e2, e2', f2⟩ := blk2c b6
  go_wp2
  have b7 := b6.set2 (.int .i64 (tLo x z sp)) (.int .i64 (tHi x z sp))
  obtain ⟨v0, v1, _⟩ := blk2c b7
  exact bodyPost_ret (v := .tuple #[.agg #[.int .i64 (tLo x z sp), .int .i64 (tHi x z sp)], .int .i64 0]) (by simp [results, Try.results6, go_sem, v0, v1]) rfl ⟨rfl, (hBB.setCell (by simp; omega) _).setCell (by simp; omega) _⟩
end Go.Proofs.Ytidgeagpgllkeaa
