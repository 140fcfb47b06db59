/- Contracts of the package flaw: the error of a range, the depth of a tip, the height between two tips. Contract: the depth of a tip. -/
import Derived.Test.YtjimdnmdnjhnjaaGreatDoorZgFaB
import Derived.Test.YtjimdnmdnjhnjaaGreatDoorZgFaK
namespace Go.Proofs.YtjimdnmdnjhnjaaGreatDoor
open Go.RowKit

abbrev rgC (a b : Int) : Array Value := #[.int .i64 a, .int .i64 b]

theorem first2_any (a b : Int) (t : TypeId) (w : World) :
    Calls Tryz.prog 39 #[.slice (some ⟨w.heap.size, 0, none⟩) 2 2] (w.alloc (.cells #[.int .i64 a, .int .i64 b] t)) fun e w' => e = .returned (.int .i64 (firstE [a, b])) ∧ Below w.heap.size w w' :=
  (first_any [a, b] w.heap.size 0 2 _ (by simp) (fun j hj => by
    have hb := Blk.new w t #[.int .i64 a, .int .i64 b]
    rw [Nat.zero_add]
    match j, hj with
    | 0, _ => exact hb.cell 0
    | 1, _ => exact hb.cell 1)).mono fun _ _ ⟨h1, h2⟩ => ⟨h1, by rw [← h2]; exact (Below.refl _ _).alloc (Nat.le_refl _) _⟩
theorem first3_any (a b c : Int) (t : TypeId) (w : World) :
    Calls Tryz.prog 39 #[.slice (some ⟨w.heap.size, 0, none⟩) 3 3] (w.alloc (.cells #[.int .i64 a, .int .i64 b, .int .i64 c] t)) fun e w' => e = .returned (.int .i64 (firstE [a, b, c])) ∧ Below w.heap.size w w' :=
  (first_any [a, b, c] w.heap.size 0 3 _ (by simp) (fun j hj => by
    have hb := Blk.new w t #[.int .i64 a, .int .i64 b, .int .i64 c]
    rw [Nat.zero_add]
    match j, hj with
    | 0, _ => exact hb.cell 0
    | 1, _ => exact hb.cell 1
    | 2, _ => exact hb.cell 2)).mono fun _ _ ⟨h1, h2⟩ => ⟨h1, by rw [← h2]; exact (Below.refl _ _).alloc (Nat.le_refl _) _⟩
theorem first4_any (a b c d : Int) (t : TypeId) (w : World) :
    Calls Tryz.prog 39 #[.slice (some ⟨w.heap.size, 0, none⟩) 4 4] (w.alloc (.cells #[.int .i64 a, .int .i64 b, .int .i64 c, .int .i64 d] t)) fun e w' => e = .returned (.int .i64 (firstE [a, b, c, d])) ∧ Below w.heap.size w w' :=
  (first_any [a, b, c, d] w.heap.size 0 4 _ (by simp) (fun j hj => by
    have hb := Blk.new w t #[.int .i64 a, .int .i64 b, .int .i64 c, .int .i64 d]
    rw [Nat.zero_add]
    match j, hj with
    | 0, _ => exact hb.cell 0
    | 1, _ => exact hb.cell 1
    | 2, _ => exact hb.cell 2
    | 3, _ => exact hb.cell 3)).mono fun _ _ ⟨h1, h2⟩ => ⟨h1, by rw [← h2]; exact (Below.refl _ _).alloc (Nat.le_refl _) _⟩

theorem rangeE_first (a b lo hi : Int) : firstE [unlessE (wi a lo hi && wi b lo hi) 2, unlessE (decide (a ≤ b)) 9] = rangeE a b lo hi := by
  unfold rangeE firstE firstE unlessE
  cases (wi a lo hi && wi b lo hi) <;> by_cases h : a ≤ b <;> simp [h, firstE]

set_option maxRecDepth 100000 in
set_option maxHeartbeats 1000000 in
theorem rangeErr_any (a b lo hi : Int) (w : World) :
    Calls Tryz.prog 40 #[.agg (rgC a b), .int .i64 lo, .int .i64 hi] w fun e w' => e = .returned (.int .i64 (rangeE a b lo hi)) ∧ Below w.heap.size w w' := by
  unfold rgC
  cases h : wi a lo hi
  · have H := Lib.hid h; clear h
    have HE : Hid (rangeE a b lo hi = firstE [unlessE false 2, unlessE (decide (a ≤ b)) 9]) := Lib.hid (by rw [← rangeE_first, H.out]; rfl)
    go_enter Tryz.func40, Tryz.ntmps40
    go_wp2_with fail
    have c0 := (Blk.new w 23 #[.int .i64 a, .int .i64 b]).cell 0
    have c1 := (Blk.new w 23 #[.int .i64 a, .int .i64 b]).cell 1
    refine wp_region_b 19 (by kernel_rfl) (by kernel_rfl) ?_; simp only [List.take, List.drop]
    repeat (first
      | (apply StepsD.run
         · go_simp
           done
         · intro w' hS K hK
           have hc := (bcell hS).1
           have hf := (bcell hS).2
           have hz := hS.size
           try simp at hz
           go_simp
           try go_bits
           first
             | exact hK _ hS
             | (go_at_call 38; refine (within_any _ _ _ _).mono ?_; rw [H.out]; rintro e w1 ⟨rfl, rfl⟩; exact hK _ hS)
             | (go_at_call 37; refine (unless_any _ _ _).mono ?_; rintro e w1 ⟨rfl, rfl⟩; exact hK _ hS)
             | exact hK _ (by repeat (first | (with_reducible exact Below.refl _ _) | (with_reducible assumption) | ((with_reducible refine Below.setCell ?_ ?_ _); rotate_left; · (first | exact Nat.le_refl _ | (simp; done) | (simp; omega) | omega)) | ((with_reducible refine Below.alloc ?_ ?_ _); rotate_left; · (first | exact Nat.le_refl _ | (simp; done) | (simp; omega) | omega)) | (with_reducible apply Below.drew) | (with_reducible apply below_drewN') | (refine Below.trans ?_ (Below.mono (by assumption) (by first | exact Nat.le_refl _ | (simp; done) | (simp; omega) | omega))) | exact Below.refl _ _ | assumption))
         · simp [Act.put]
           done)
      | (apply StepsD.pass
         · go_simp
           done
         · simp only [Act.put, List.setIfInBounds_toArray, List.set_cons_succ, List.set_cons_zero]
           rfl))
    refine StepsD.done ?_
    intro w' hS
    have hB1 : Below w.heap.size w w' := Below.trans ((Below.refl _ w).alloc (Nat.le_refl _) _) (Below.mono hS (by simp))
    go_wp2_with fail
    refine (first2_any _ _ _ _).mono ?_
    rintro e w2 ⟨rfl, hB2⟩
    go_wp2
    go_ret
    exact ⟨by rw [HE.out]; rfl, hB1.trans (hB2.mono (Below.size hB1))⟩
  · have H := Lib.hid h; clear h
    have HE : Hid (rangeE a b lo hi = firstE [unlessE (wi b lo hi) 2, unlessE (decide (a ≤ b)) 9]) := Lib.hid (by rw [← rangeE_first, H.out]; rfl)
    go_enter Tryz.func40, Tryz.ntmps40
    go_wp2_with fail
    have c0 := (Blk.new w 23 #[.int .i64 a, .int .i64 b]).cell 0
    have c1 := (Blk.new w 23 #[.int .i64 a, .int .i64 b]).cell 1
    obtain ⟨B, hB⟩ : ∃ B, wi b lo hi = B := ⟨_, rfl⟩
    have HB := Lib.hid hB; clear hB
    refine wp_region_b 19 (by kernel_rfl) (by kernel_rfl) ?_; simp only [List.take, List.drop]
    repeat (first
      | (apply StepsD.run
         · go_simp
           done
         · intro w' hS K hK
           have hc := (bcell hS).1
           have hf := (bcell hS).2
           have hz := hS.size
           try simp at hz
           go_simp
           try go_bits
           first
             | exact hK _ hS
             | (go_at_call 38; (with_reducible refine (within_any a _ _ _).mono ?_); rw [H.out]; rintro e w1 ⟨rfl, rfl⟩; exact hK _ hS)
             | (go_at_call 38; (with_reducible refine (within_any b _ _ _).mono ?_); rw [HB.out]; rintro e w1 ⟨rfl, rfl⟩; exact hK _ hS)
             | (go_at_call 37; refine (unless_any _ _ _).mono ?_; rintro e w1 ⟨rfl, rfl⟩; exact hK _ hS)
             | exact hK _ (by repeat (first | (with_reducible exact Below.refl _ _) | (with_reducible assumption) | ((with_reducible refine Below.setCell ?_ ?_ _); rotate_left; · (first | exact Nat.le_refl _ | (simp; done) | (simp; omega) | omega)) | ((with_reducible refine Below.alloc ?_ ?_ _); rotate_left; · (first | exact Nat.le_refl _ | (simp; done) | (simp; omega) | omega)) | (with_reducible apply Below.drew) | (with_reducible apply below_drewN') | (refine Below.trans ?_ (Below.mono (by assumption) (by first | exact Nat.le_refl _ | (simp; done) | (simp; omega) | omega))) | exact Below.refl _ _ | assumption))
         · simp [Act.put]
           done)
      | (apply StepsD.pass
         · go_simp
           done
         · simp only [Act.put, List.setIfInBounds_toArray, List.set_cons_succ, List.set_cons_zero]
           rfl))
    refine StepsD.done ?_
    intro w' hS
    have hB1 : Below w.heap.size w w' := Below.trans ((Below.refl _ w).alloc (Nat.le_refl _) _) (Below.mono hS (by simp))
    go_wp2_with fail
    refine (first2_any _ _ _ _).mono ?_
    rintro e w2 ⟨rfl, hB2⟩
    go_wp2
    go_ret
    exact ⟨by rw [HE.out, HB.out]; rfl, hB1.trans (hB2.mono (Below.size hB1))⟩

abbrev tipC (x : Tip) : Array Value := #[.int .i64 x.tl, .int .i64 x.th, .int .i64 x.ol, .int .i64 x.oh, .int .i64 x.sp]
/-- A range and an error, as a result. -/
def reC (r : RE) : Value := .tuple #[.agg #[.int .i64 r.lo, .int .i64 r.hi], .int .i64 r.e]

end Go.Proofs.YtjimdnmdnjhnjaaGreatDoor

namespace Go.Proofs.YtjimdnmdnjhnjaaGreatDoor
open Go.RowKit

theorem mul_bd0 {a b A B : Int} (ha : 0 ≤ a) (ha' : a ≤ A) (hb : 0 ≤ b) (hb' : b ≤ B) : 0 ≤ a * b ∧ a * b ≤ A * B :=
  ⟨Int.mul_nonneg ha hb, Int.mul_le_mul ha' hb' hb (by omega)⟩

set_option maxRecDepth 100000 in
set_option maxHeartbeats 1000000 in
theorem tipDepth_any (x : Tip) (w : World) :
    Calls Tryz.prog 12 #[.agg (tipC x)] w fun e w' => e = .returned (reC (tipV x)) ∧ Below w.heap.size w w' := by
  unfold reC
  go_enter Tryz.func12, Tryz.ntmps12
  go_wp2_with (first
    | (go_at_call 38; refine (within_any _ _ _ _).mono ?_; rintro e w1 ⟨rfl, rfl⟩)
    | (go_at_call 37; refine (unless_any _ _ _).mono ?_; rintro e w1 ⟨rfl, rfl⟩))
  have b0 := (Blk.new w 45 (tipC x)).alloc (.cells #[.int .i64 0, .int .i64 0] 23)
  have b2 := Blk.new (w.alloc (.cells (tipC x) 45)) 23 #[.int .i64 0, .int .i64 0]
  have hBB : Below w.heap.size w ((w.alloc (.cells (tipC x) 45)).alloc (.cells #[.int .i64 0, .int .i64 0] 23)) := (by repeat (first | (with_reducible exact Below.refl _ _) | (with_reducible assumption) | ((with_reducible refine Below.setCell ?_ ?_ _); rotate_left; · (first | exact Nat.le_refl _ | (simp; done) | (simp; omega) | omega)) | ((with_reducible refine Below.alloc ?_ ?_ _); rotate_left; · (first | exact Nat.le_refl _ | (simp; done) | (simp; omega) | omega)) | (with_reducible apply Below.drew) | (with_reducible apply below_drewN') | (refine Below.trans ?_ (Below.mono (by assumption) (by first | exact Nat.le_refl _ | (simp; done) | (simp; omega) | omega))) | exact Below.refl _ _ | assumption))
  rw [World.size_alloc] at b2
  obtain ⟨W, hW⟩ : ∃ W, (w.alloc (.cells (tipC x) 45)).alloc (.cells #[.int .i64 0, .int .i64 0] 23) = W := ⟨_, rfl⟩
  rw [hW] at b0 b2 hBB ⊢
  clear hW
  have n02 : w.heap.size ≠ w.heap.size + 1 := by omega
  have l_b0 := b0.lt
  obtain ⟨e0, e1, e2, e3, e4, f0⟩ := blk5c b0
  have l_b2 := b2.lt
  obtain ⟨g0, g1, f2⟩ := blk2c b2
  refine wp_region_b 7 (by kernel_rfl) (by kernel_rfl) ?_; simp only [List.take, List.drop]
  repeat (first
    | (apply StepsD.run
       · go_simp
         done
       · intro w' hS K hK
         have hc := (bcell hS).1
         have hf := (bcell hS).2
         have hz := hS.size
         try simp at hz
         go_simp
         try go_bits
         first
           | exact hK _ hS
           | (go_at_call 40; (with_reducible refine (rangeErr_any _ _ _ _ _).mono ?_); rintro e w1 ⟨rfl, hB1⟩; obtain ⟨hc1, hf1⟩ := bcell hB1; have hz1 := hB1.size; (try simp at hz1); exact hK _ (Below.trans hS (Below.mono hB1 (by first | exact Nat.le_refl _ | (simp; done) | (simp; omega) | omega))))
           | exact hK _ (by repeat (first | (with_reducible exact Below.refl _ _) | (with_reducible assumption) | ((with_reducible refine Below.setCell ?_ ?_ _); rotate_left; · (first | exact Nat.le_refl _ | (simp; done) | (simp; omega) | omega)) | ((with_reducible refine Below.alloc ?_ ?_ _); rotate_left; · (first | exact Nat.le_refl _ | (simp; done) | (simp; omega) | omega)) | (with_reducible apply Below.drew) | (with_reducible apply below_drewN') | (refine Below.trans ?_ (Below.mono (by assumption) (by first | exact Nat.le_refl _ | (simp; done) | (simp; omega) | omega))) | exact Below.refl _ _ | assumption))
       · simp [Act.put]
         done)
    | (apply StepsD.pass
       · go_simp
         done
       · simp only [Act.put, List.setIfInBounds_toArray, List.set_cons_succ, List.set_cons_zero]
         rfl))
  refine StepsD.done ?_
  intro w1 hS
  replace b0 := b0.gr hS
  replace b2 := b2.gr hS
  replace hBB := hBB.trans (Below.mono hS (Below.size hBB))
  clear hS
  clear l_b0 e0 e1 e2 e3 e4 f0 l_b2 g0 g1 f2
  have l_b0 := b0.lt
  have l_b2 := b2.lt
  obtain ⟨e0, e1, e2, e3, e4, f0⟩ := blk5c b0
  obtain ⟨g0, g1, f2⟩ := blk2c b2
  have HEE : Hid (firstE [rangeE x.tl x.th 0 1000000000000, rangeE x.ol x.oh 0 100000, unlessE (wi x.sp 500 10000) 2] = tipE x) := Lib.hid rfl
  obtain ⟨E, hE⟩ : ∃ E, tipE x = E := ⟨_, rfl⟩
  have HE := Lib.hid hE; clear hE
  go_wp2_with fail
  refine (first3_any _ _ _ _ _).mono ?_
  rw [HEE.out, HE.out]
  rintro e wc2 ⟨rfl, hBc2⟩
  replace b0 := b0.gr hBc2
  replace b2 := b2.gr hBc2
  replace hBB := hBB.trans (Below.mono hBc2 (Below.size hBB))
  clear hBc2
  clear l_b0 e0 e1 e2 e3 e4 f0 l_b2 g0 g1 f2
  have l_b0 := b0.lt
  have l_b2 := b2.lt
  obtain ⟨e0, e1, e2, e3, e4, f0⟩ := blk5c b0
  obtain ⟨g0, g1, f2⟩ := blk2c b2
  by_cases h0 : E = 0
  · have HV : Hid (tipV x = if tipHi x < 0 then ⟨0, 0, 12⟩ else ⟨isq (tipLo x), isqUp (tipHi x), 0⟩) := Lib.hid (by unfold tipV; rw [HE.out, if_pos h0])
    obtain ⟨k1, k2, k3, k4, k5, k6, k7, k8⟩ := tipE_zero (HE.out.trans h0)
    subst h0
    have m1 := mul_bd0 k1 (show x.tl ≤ 1000000000000 by omega) (show 0 ≤ x.sp by omega) k8
    have m2 := mul_bd0 (show 0 ≤ x.th by omega) k3 (show 0 ≤ x.sp by omega) k8
    go_wp2_with fail
    refine wp_region_b 18 (by kernel_rfl) (by kernel_rfl) ?_; simp only [List.take, List.drop]
    repeat (first
      | (apply StepsD.run
         · go_simp
           done
         · intro w' hS K hK
           have hc := (bcell hS).1
           have hf := (bcell hS).2
           have hz := hS.size
           try simp at hz
           go_simp
           try go_bits
           first
             | exact hK _ hS
             | exact hK _ (by repeat (first | (with_reducible exact Below.refl _ _) | (with_reducible assumption) | ((with_reducible refine Below.setCell ?_ ?_ _); rotate_left; · (first | exact Nat.le_refl _ | (simp; done) | (simp; omega) | omega)) | ((with_reducible refine Below.alloc ?_ ?_ _); rotate_left; · (first | exact Nat.le_refl _ | (simp; done) | (simp; omega) | omega)) | (with_reducible apply Below.drew) | (with_reducible apply below_drewN') | (refine Below.trans ?_ (Below.mono (by assumption) (by first | exact Nat.le_refl _ | (simp; done) | (simp; omega) | omega))) | exact Below.refl _ _ | assumption))
         · simp [Act.put]
           done)
      | (apply StepsD.pass
         · go_simp
           done
         · simp only [Act.put, List.setIfInBounds_toArray, List.set_cons_succ, List.set_cons_zero]
           rfl))
    refine StepsD.done ?_
    intro w2 hS
    replace b0 := b0.gr hS
    replace b2 := b2.gr hS
    replace hBB := hBB.trans (Below.mono hS (Below.size hBB))
    clear hS
    clear l_b0 e0 e1 e2 e3 e4 f0 l_b2 g0 g1 f2
    have l_b0 := b0.lt
    have l_b2 := b2.lt
    obtain ⟨e0, e1, e2, e3, e4, f0⟩ := blk5c b0
    obtain ⟨g0, g1, f2⟩ := blk2c b2
    have q1 : 0 ≤ x.tl * x.sp / 20000000 ∧ x.tl * x.sp / 20000000 ≤ 500000000 := by omega
    have q2 : 0 ≤ (x.th * x.sp + 20000000 - 1) / 20000000 ∧ (x.th * x.sp + 20000000 - 1) / 20000000 ≤ 500000000 := by omega
    have HLo : Hid (tipLo x = max 0 ((x.tl * x.sp / 20000000) * (x.tl * x.sp / 20000000) - x.oh * x.oh)) := Lib.hid rfl
    have HHi : Hid (tipHi x = ((x.th * x.sp + 20000000 - 1) / 20000000) * ((x.th * x.sp + 20000000 - 1) / 20000000) - x.ol * x.ol) := Lib.hid rfl
    have r1 := mul_bd0 q1.1 q1.2 q1.1 q1.2
    have r2 := mul_bd0 q2.1 q2.2 q2.1 q2.2
    have r3 := mul_bd0 (show 0 ≤ x.oh by omega) k6 (show 0 ≤ x.oh by omega) k6
    have r4 := mul_bd0 k4 (show x.ol ≤ 100000 by omega) k4 (show x.ol ≤ 100000 by omega)
    go_wp2_with fail
    refine wp_region_b 25 (by kernel_rfl) (by kernel_rfl) ?_; simp only [List.take, List.drop]
    repeat (first
      | (apply StepsD.run
         · go_simp
           done
         · intro w' hS K hK
           have hc := (bcell hS).1
           have hf := (bcell hS).2
           have hz := hS.size
           try simp at hz
           go_simp
           try go_bits
           first
             | exact hK _ hS
             | exact hK _ (by repeat (first | (with_reducible exact Below.refl _ _) | (with_reducible assumption) | ((with_reducible refine Below.setCell ?_ ?_ _); rotate_left; · (first | exact Nat.le_refl _ | (simp; done) | (simp; omega) | omega)) | ((with_reducible refine Below.alloc ?_ ?_ _); rotate_left; · (first | exact Nat.le_refl _ | (simp; done) | (simp; omega) | omega)) | (with_reducible apply Below.drew) | (with_reducible apply below_drewN') | (refine Below.trans ?_ (Below.mono (by assumption) (by first | exact Nat.le_refl _ | (simp; done) | (simp; omega) | omega))) | exact Below.refl _ _ | assumption))
         · simp [Act.put]
           done)
      | (apply StepsD.pass
         · go_simp
           done
         · simp only [Act.put, List.setIfInBounds_toArray, List.set_cons_succ, List.set_cons_zero]
           rfl))
    refine StepsD.done ?_
    intro w3 hS
    replace b0 := b0.gr hS
    replace b2 := b2.gr hS
    replace hBB := hBB.trans (Below.mono hS (Below.size hBB))
    clear hS
    clear l_b0 e0 e1 e2 e3 e4 f0 l_b2 g0 g1 f2
    have l_b0 := b0.lt
    have l_b2 := b2.lt
    obtain ⟨e0, e1, e2, e3, e4, f0⟩ := blk5c b0
    obtain ⟨g0, g1, f2⟩ := blk2c b2
    obtain ⟨A, hA⟩ : ∃ A, (if x.oh * x.oh < x.tl * x.sp / 20000000 * (x.tl * x.sp / 20000000) then x.tl * x.sp / 20000000 * (x.tl * x.sp / 20000000) - x.oh * x.oh else 0) = A := ⟨_, rfl⟩
    obtain ⟨B, hB⟩ : ∃ B, (x.th * x.sp + 20000000 - 1) / 20000000 * ((x.th * x.sp + 20000000 - 1) / 20000000) - x.ol * x.ol = B := ⟨_, rfl⟩
    rw [hA, hB]
    have HA : Hid (tipLo x = A) := Lib.hid (by rw [HLo.out, ← hA]; split <;> omega)
    have HB : Hid (tipHi x = B) := Lib.hid (by rw [HHi.out, ← hB])
    have a1 : 0 ≤ A ∧ A < 288230376151711744 := by rw [← hA]; split <;> omega
    have a2 : -10000000000 ≤ B ∧ B < 288230376151711744 := by omega
    clear hA hB HLo HHi r1 r2 r3 r4 q1 q2 m1 m2
    by_cases hneg : B < 0
    · have HV2 : Hid (tipV x = ⟨0, 0, 12⟩) := Lib.hid (by rw [HV.out, HB.out, if_pos hneg])
      go_wp2
      have b3 := b2.set2 (.int .i64 0) (.int .i64 0)
      obtain ⟨u0, u1, _⟩ := blk2c b3
      rw [HV2.out]
      exact bodyPost_ret (v := .tuple #[.agg #[.int .i64 0, .int .i64 0], .int .i64 12]) (by simp [results, Tryz.results12, go_sem, u0, u1]) rfl ⟨rfl, (hBB.setCell (by simp) _).setCell (by simp) _⟩
    · have hz := Below.size hBB
      have i1 := isq_nonneg A
      have i2 := isq_nonneg B
      have i3 : isq A < 536870913 := by
        have := isq_le a1.1
        by_cases h : isq A < 536870913
        · exact h
        · have h2 := sq_mono (by omega) (show 536870913 ≤ isq A by omega); omega
      have i4 : isq B < 536870913 := by
        have := isq_le (show 0 ≤ B by omega)
        by_cases h : isq B < 536870913
        · exact h
        · have h2 := sq_mono (by omega) (show 536870913 ≤ isq B by omega); omega
      have s4 := mul_bd0 i2 (show isq B ≤ 536870912 by omega) i2 (show isq B ≤ 536870912 by omega)
      have HA1 : Hid (0 ≤ A ∧ A < 288230376151711744) := Lib.hid a1
      have HB1 : Hid (0 ≤ B ∧ B < 288230376151711744) := Lib.hid (by omega)
      have a2' : 0 ≤ B := by omega
      clear a1 a2
      go_wp2_with fail
      refine (root_any _ HA1.out.1 HA1.out.2 _).mono ?_
      rintro e w1 ⟨rfl, rfl⟩
      go_wp2_with fail
      refine (root_any _ HB1.out.1 HB1.out.2 _).mono ?_
      rintro e w1 ⟨rfl, rfl⟩
      obtain ⟨RA, hRA⟩ : ∃ R, isq A = R := ⟨_, rfl⟩
      obtain ⟨RB, hRB⟩ : ∃ R, isq B = R := ⟨_, rfl⟩
      rw [hRA] at i1 i3 ⊢
      rw [hRB] at i2 i4 s4 ⊢
      have HRA := Lib.hid hRA; have HRB := Lib.hid hRB
      clear hRA hRB
      have hwl := Blk.new w3 23 #[.int .i64 RA, .int .i64 RB]
      by_cases hlt : RB * RB < B
      · have HV2 : Hid (tipV x = ⟨RA, RB + 1, 0⟩) := Lib.hid (by rw [HV.out, HB.out, HA.out, if_neg (by omega), HRA.out]; unfold isqUp; rw [HRB.out, if_pos hlt])
        go_wp2
        have b3 := (b2.set2 (.int .i64 RA) (.int .i64 (RB + 1))).alloc (.cells #[.int .i64 RA, .int .i64 (RB + 1)] 23)
        obtain ⟨u0, u1, _⟩ := blk2c b3
        rw [HV2.out]
        exact bodyPost_ret (v := .tuple #[.agg #[.int .i64 RA, .int .i64 (RB + 1)], .int .i64 0]) (by simp [results, Tryz.results12, go_sem, u0, u1]) rfl ⟨rfl, ((hBB.setCell (by simp) _).setCell (by simp) _).alloc (by simp; omega) _⟩
      · have HV2 : Hid (tipV x = ⟨RA, RB, 0⟩) := Lib.hid (by rw [HV.out, HB.out, HA.out, if_neg (by omega), HRA.out]; unfold isqUp; rw [HRB.out, if_neg hlt])
        go_wp2
        have b3 := (b2.set2 (.int .i64 RA) (.int .i64 RB)).alloc (.cells #[.int .i64 RA, .int .i64 RB] 23)
        obtain ⟨u0, u1, _⟩ := blk2c b3
        rw [HV2.out]
        exact bodyPost_ret (v := .tuple #[.agg #[.int .i64 RA, .int .i64 RB], .int .i64 0]) (by simp [results, Tryz.results12, go_sem, u0, u1]) rfl ⟨rfl, ((hBB.setCell (by simp) _).setCell (by simp) _).alloc (by simp; omega) _⟩
  · have HV : Hid (tipV x = ⟨0, 0, E⟩) := Lib.hid (by unfold tipV; rw [HE.out, if_neg h0])
    have h0' : (E != 0) = true := by simpa using h0
    go_wp2
    have b3 := b2.set2 (.int .i64 0) (.int .i64 0)
    obtain ⟨u0, u1, _⟩ := blk2c b3
    rw [HV.out]
    exact bodyPost_ret (v := .tuple #[.agg #[.int .i64 0, .int .i64 0], .int .i64 E]) (by simp [results, Tryz.results12, go_sem, u0, u1]) rfl ⟨rfl, (hBB.setCell (by simp) _).setCell (by simp) _⟩
end Go.Proofs.YtjimdnmdnjhnjaaGreatDoor
