/- Contracts of the package flaw: the error of a range, the depth of a tip, the height between two tips. -/
import Derived.Test.YtidgeagpgllkeaaGreatFaT
import Derived.Test.YtidgeagpgllkeaaGreatFaK
namespace Go.Proofs.YtidgeagpgllkeaaGreat
open Go.RowKit

abbrev rgC (a b : Int) : Array Value := #[.int .i64 a, .int .i64 b]

theorem first2_any (a b : Int) (t : TypeId) (w : World) :
    Calls Tryz.prog 96 #[.slice (some ⟨w.heap.size, 0, none⟩) 2 2] (w.alloc (.cells #[.int .i64 a, .int .i64 b] t)) fun e w' => e = .returned (.int .i64 (firstE [a, b])) ∧ Below w.heap.size w w' :=
  (first_any [a, b] w.heap.size 0 2 _ (by simp) (fun j hj => by
    have hb := Blk.new w t #[.int .i64 a, .int .i64 b]
    rw [Nat.zero_add]
    match j, hj with
    | 0, _ => exact hb.cell 0
    | 1, _ => exact hb.cell 1)).mono fun _ _ ⟨h1, h2⟩ => ⟨h1, by rw [← h2]; exact (Below.refl _ _).alloc (Nat.le_refl _) _⟩
theorem first3_any (a b c : Int) (t : TypeId) (w : World) :
    Calls Tryz.prog 96 #[.slice (some ⟨w.heap.size, 0, none⟩) 3 3] (w.alloc (.cells #[.int .i64 a, .int .i64 b, .int .i64 c] t)) fun e w' => e = .returned (.int .i64 (firstE [a, b, c])) ∧ Below w.heap.size w w' :=
  (first_any [a, b, c] w.heap.size 0 3 _ (by simp) (fun j hj => by
    have hb := Blk.new w t #[.int .i64 a, .int .i64 b, .int .i64 c]
    rw [Nat.zero_add]
    match j, hj with
    | 0, _ => exact hb.cell 0
    | 1, _ => exact hb.cell 1
    | 2, _ => exact hb.cell 2)).mono fun _ _ ⟨h1, h2⟩ => ⟨h1, by rw [← h2]; exact (Below.refl _ _).alloc (Nat.le_refl _) _⟩
theorem first4_any (a b c d : Int) (t : TypeId) (w : World) :
    Calls Tryz.prog 96 #[.slice (some ⟨w.heap.size, 0, none⟩) 4 4] (w.alloc (.cells #[.int .i64 a, .int .i64 b, .int .i64 c, .int .i64 d] t)) fun e w' => e = .returned (.int .i64 (firstE [a, b, c, d])) ∧ Below w.heap.size w w' :=
  (first_any [a, b, c, d] w.heap.size 0 4 _ (by simp) (fun j hj => by
    have hb := Blk.new w t #[.int .i64 a, .int .i64 b, .int .i64 c, .int .i64 d]
    rw [Nat.zero_add]
    match j, hj with
    | 0, _ => exact hb.cell 0
    | 1, _ => exact hb.cell 1
    | 2, _ => exact hb.cell 2
    | 3, _ => exact hb.cell 3)).mono fun _ _ ⟨h1, h2⟩ => ⟨h1, by rw [← h2]; exact (Below.refl _ _).alloc (Nat.le_refl _) _⟩


theorem rangeE_first (a b lo hi : Int) : firstE [unlessE (wi a lo hi && wi b lo hi) 2, unlessE (decide (a ≤ b)) 9] = rangeE a b lo hi := by
  unfold rangeE firstE firstE unlessE
  cases (wi a lo hi && wi b lo hi) <;> by_cases h : a ≤ b <;> simp [h, firstE]

set_option maxRecDepth 100000 in
set_option maxHeartbeats 1000000 in
theorem rangeErr_any (a b lo hi : Int) (w : World) :
    Calls Tryz.prog 97 #[.agg (rgC a b), .int .i64 lo, .int .i64 hi] w fun e w' => e = .returned (.int .i64 (rangeE a b lo hi)) ∧ Below w.heap.size w w' := by
  unfold rgC
  cases h : wi a lo hi
  · have H := Lib.hid h; clear h
    have HE : Hid (rangeE a b lo hi = firstE [unlessE false 2, unlessE (decide (a ≤ b)) 9]) := Lib.hid (by rw [← rangeE_first, H.out]; rfl)
    go_enter Tryz.func97, Tryz.ntmps97
    go_wp2_with fail
    have c0 := (Blk.new w 48 #[.int .i64 a, .int .i64 b]).cell 0
    have c1 := (Blk.new w 48 #[.int .i64 a, .int .i64 b]).cell 1
    refine wp_region_b 19 (by kernel_rfl) (by kernel_rfl) ?_; simp only [List.take, List.drop]
    repeat (first
      | (apply StepsD.run
         · go_simp
           done
         · intro w' hS K hK
           have hc := (bcell hS).1
           have hf := (bcell hS).2
           have hz := hS.size
           try simp at hz
           go_simp
           try go_bits
           first
             | exact hK _ hS
             | (go_at_call 92; refine (within_any _ _ _ _).mono ?_; rw [H.out]; rintro e w1 ⟨rfl, rfl⟩; exact hK _ hS)
             | (go_at_call 95; refine (unless_any _ _ _).mono ?_; rintro e w1 ⟨rfl, rfl⟩; exact hK _ hS)
             | exact hK _ (by repeat (first | (with_reducible exact Below.refl _ _) | (with_reducible assumption) | ((with_reducible refine Below.setCell ?_ ?_ _); rotate_left; · (first | exact Nat.le_refl _ | (simp; done) | (simp; omega) | omega)) | ((with_reducible refine Below.alloc ?_ ?_ _); rotate_left; · (first | exact Nat.le_refl _ | (simp; done) | (simp; omega) | omega)) | (with_reducible apply Below.drew) | (with_reducible apply below_drewN') | (refine Below.trans ?_ (Below.mono (by assumption) (by first | exact Nat.le_refl _ | (simp; done) | (simp; omega) | omega))) | exact Below.refl _ _ | assumption))
         · simp [Act.put]
           done)
      | (apply StepsD.pass
         · go_simp
           done
         · simp only [Act.put, List.setIfInBounds_toArray, List.set_cons_succ, List.set_cons_zero]
           rfl))
    refine StepsD.done ?_
    intro w' hS
    have hB1 : Below w.heap.size w w' := Below.trans ((Below.refl _ w).alloc (Nat.le_refl _) _) (Below.mono hS (by simp))
    go_wp2_with fail
    refine (first2_any _ _ _ _).mono ?_
    rintro e w2 ⟨rfl, hB2⟩
    go_wp2
    go_ret
    exact ⟨by rw [HE.out]; rfl, hB1.trans (hB2.mono (Below.size hB1))⟩
  · have H := Lib.hid h; clear h
    have HE : Hid (rangeE a b lo hi = firstE [unlessE (wi b lo hi) 2, unlessE (decide (a ≤ b)) 9]) := Lib.hid (by rw [← rangeE_first, H.out]; rfl)
    go_enter Tryz.func97, Tryz.ntmps97
    go_wp2_with fail
    have c0 := (Blk.new w 48 #[.int .i64 a, .int .i64 b]).cell 0
    have c1 := (Blk.new w 48 #[.int .i64 a, .int .i64 b]).cell 1
    obtain ⟨B, hB⟩ : ∃ B, wi b lo hi = B := ⟨_, rfl⟩
    have HB := Lib.hid hB; clear hB
    refine wp_region_b 19 (by kernel_rfl) (by kernel_rfl) ?_; simp only [List.take, List.drop]
    repeat (first
      | (apply StepsD.run
         · go_simp
           done
         · intro w' hS K hK
           have hc := (bcell hS).1
           have hf := (bcell hS).2
           have hz := hS.size
           try simp at hz
           go_simp
           try go_bits
           first
             | exact hK _ hS
             | (go_at_call 92; (with_reducible refine (within_any a _ _ _).mono ?_); rw [H.out]; rintro e w1 ⟨rfl, rfl⟩; exact hK _ hS)
             | (go_at_call 92; (with_reducible refine (within_any b _ _ _).mono ?_); rw [HB.out]; rintro e w1 ⟨rfl, rfl⟩; exact hK _ hS)
             | (go_at_call 95; refine (unless_any _ _ _).mono ?_; rintro e w1 ⟨rfl, rfl⟩; exact hK _ hS)
             | exact hK _ (by repeat (first | (with_reducible exact Below.refl _ _) | (with_reducible assumption) | ((with_reducible refine Below.setCell ?_ ?_ _); rotate_left; · (first | exact Nat.le_refl _ | (simp; done) | (simp; omega) | omega)) | ((with_reducible refine Below.alloc ?_ ?_ _); rotate_left; · (first | exact Nat.le_refl _ | (simp; done) | (simp; omega) | omega)) | (with_reducible apply Below.drew) | (with_reducible apply below_drewN') | (refine Below.trans ?_ (Below.mono (by assumption) (by first | exact Nat.le_refl _ | (simp; done) | (simp; omega) | omega))) | exact Below.refl _ _ | assumption))
         · simp [Act.put]
           done)
      | (apply StepsD.pass
         · go_simp
           done
         · simp only [Act.put, List.setIfInBounds_toArray, List.set_cons_succ, List.set_cons_zero]
           rfl))
    refine StepsD.done ?_
    intro w' hS
    have hB1 : Below w.heap.size w w' := Below.trans ((Below.refl _ w).alloc (Nat.le_refl _) _) (Below.mono hS (by simp))
    go_wp2_with fail
    refine (first2_any _ _ _ _).mono ?_
    rintro e w2 ⟨rfl, hB2⟩
    go_wp2
    go_ret
    exact ⟨by rw [HE.out, HB.out]; rfl, hB1.trans (hB2.mono (Below.size hB1))⟩

abbrev tipC (x : Tip) : Array Value := #[.int .i64 x.tl, .int .i64 x.th, .int .i64 x.ol, .int .i64 x.oh, .int .i64 x.sp]
/-- A range and an error, as a result. -/
def reC (r : RE) : Value := .tuple #[.agg #[.int .i64 r.lo, .int .i64 r.hi], .int .i64 r.e]

set_option maxRecDepth 100000 in
set_option maxHeartbeats 1000000 in
theorem heightOf_any (ul uh ll lh : Int) (w : World) :
    Calls Tryz.prog 42 #[.agg (rgC ul uh), .agg (rgC ll lh)] w fun e w' => e = .returned (reC (heightV ul uh ll lh)) ∧ Below w.heap.size w w' := by
  unfold rgC reC
  go_enter Tryz.func42, Tryz.ntmps42
  go_wp2_with fail
  have b0 := ((Blk.new w 48 #[.int .i64 ul, .int .i64 uh]).alloc (.cells #[.int .i64 ll, .int .i64 lh] 48)).alloc (.cells #[.int .i64 0, .int .i64 0] 48)
  have b1 := (Blk.new (w.alloc (.cells #[.int .i64 ul, .int .i64 uh] 48)) 48 #[.int .i64 ll, .int .i64 lh]).alloc (.cells #[.int .i64 0, .int .i64 0] 48)
  have b2 := Blk.new ((w.alloc (.cells #[.int .i64 ul, .int .i64 uh] 48)).alloc (.cells #[.int .i64 ll, .int .i64 lh] 48)) 48 #[.int .i64 0, .int .i64 0]
  have hBB : Below w.heap.size w (((w.alloc (.cells #[.int .i64 ul, .int .i64 uh] 48)).alloc (.cells #[.int .i64 ll, .int .i64 lh] 48)).alloc (.cells #[.int .i64 0, .int .i64 0] 48)) := (by repeat (first | (with_reducible exact Below.refl _ _) | (with_reducible assumption) | ((with_reducible refine Below.setCell ?_ ?_ _); rotate_left; · (first | exact Nat.le_refl _ | (simp; done) | (simp; omega) | omega)) | ((with_reducible refine Below.alloc ?_ ?_ _); rotate_left; · (first | exact Nat.le_refl _ | (simp; done) | (simp; omega) | omega)) | (with_reducible apply Below.drew) | (with_reducible apply below_drewN') | (refine Below.trans ?_ (Below.mono (by assumption) (by first | exact Nat.le_refl _ | (simp; done) | (simp; omega) | omega))) | exact Below.refl _ _ | assumption))
  rw [World.size_alloc] at b1
  simp only [World.size_alloc] at b2
  obtain ⟨W, hW⟩ : ∃ W, ((w.alloc (.cells #[.int .i64 ul, .int .i64 uh] 48)).alloc (.cells #[.int .i64 ll, .int .i64 lh] 48)).alloc (.cells #[.int .i64 0, .int .i64 0] 48) = W := ⟨_, rfl⟩
  rw [hW] at b0 b1 b2 hBB ⊢
  clear hW
  have l_b0 := b0.lt
  obtain ⟨e0, e0', f0⟩ := blk2c b0
  have l_b1 := b1.lt
  obtain ⟨e1, e1', f1⟩ := blk2c b1
  have l_b2 := b2.lt
  obtain ⟨e2, e2', f2⟩ := blk2c b2
  have n02 : w.heap.size ≠ w.heap.size + 1 + 1 := by omega
  have n12 : w.heap.size + 1 ≠ w.heap.size + 1 + 1 := by omega
  refine wp_region_b 10 (by kernel_rfl) (by kernel_rfl) ?_; simp only [List.take, List.drop]
  repeat (first
    | (apply StepsD.run
       · go_simp
         done
       · intro w' hS K hK
         have hc := (bcell hS).1
         have hf := (bcell hS).2
         have hz := hS.size
         try simp at hz
         go_simp
         try go_bits
         first
           | exact hK _ hS
           | (go_at_call 97; (with_reducible refine (rangeErr_any _ _ _ _ _).mono ?_); rintro e w1 ⟨rfl, hB1⟩; obtain ⟨hc1, hf1⟩ := bcell hB1; have hz1 := hB1.size; (try simp at hz1); exact hK _ (Below.trans hS (Below.mono hB1 (by first | exact Nat.le_refl _ | (simp; done) | (simp; omega) | omega))))
           | (go_at_call 95; refine (unless_any _ _ _).mono ?_; rintro e w1 ⟨rfl, rfl⟩; exact hK _ hS)
           | exact hK _ (by repeat (first | (with_reducible exact Below.refl _ _) | (with_reducible assumption) | ((with_reducible refine Below.setCell ?_ ?_ _); rotate_left; · (first | exact Nat.le_refl _ | (simp; done) | (simp; omega) | omega)) | ((with_reducible refine Below.alloc ?_ ?_ _); rotate_left; · (first | exact Nat.le_refl _ | (simp; done) | (simp; omega) | omega)) | (with_reducible apply Below.drew) | (with_reducible apply below_drewN') | (refine Below.trans ?_ (Below.mono (by assumption) (by first | exact Nat.le_refl _ | (simp; done) | (simp; omega) | omega))) | exact Below.refl _ _ | assumption))
       · simp [Act.put]
         done)
    | (apply StepsD.pass
       · go_simp
         done
       · simp only [Act.put, List.setIfInBounds_toArray, List.set_cons_succ, List.set_cons_zero]
         rfl))
  refine StepsD.done ?_
  intro w1 hS
  replace b0 := b0.gr hS
  replace b1 := b1.gr hS
  replace b2 := b2.gr hS
  replace hBB := hBB.trans (Below.mono hS (Below.size hBB))
  clear hS
  clear l_b0 e0 e0' f0 l_b1 e1 e1' f1 l_b2 e2 e2' f2
  have l_b0 := b0.lt
  have l_b1 := b1.lt
  have l_b2 := b2.lt
  obtain ⟨e0, e0', f0⟩ := blk2c b0
  obtain ⟨e1, e1', f1⟩ := blk2c b1
  obtain ⟨e2, e2', f2⟩ := blk2c b2
  have HEE : Hid (firstE [rangeE ul uh (-1000000000) 1000000000, rangeE ll lh (-1000000000) 1000000000, unlessE (decide (ul ≤ lh)) 22] = heightE ul uh ll lh) := Lib.hid rfl
  obtain ⟨E, hE⟩ : ∃ E, heightE ul uh ll lh = E := ⟨_, rfl⟩
  have HE := Lib.hid hE; clear hE
  go_wp2_with fail
  refine (first3_any _ _ _ _ _).mono ?_
  rw [HEE.out, HE.out]
  rintro e wc1 ⟨rfl, hBc1⟩
  replace b0 := b0.gr hBc1
  replace b1 := b1.gr hBc1
  replace b2 := b2.gr hBc1
  replace hBB := hBB.trans (Below.mono hBc1 (Below.size hBB))
  clear hBc1
  clear l_b0 e0 e0' f0 l_b1 e1 e1' f1 l_b2 e2 e2' f2
  have l_b0 := b0.lt
  have l_b1 := b1.lt
  have l_b2 := b2.lt
  obtain ⟨e0, e0', f0⟩ := blk2c b0
  obtain ⟨e1, e1', f1⟩ := blk2c b1
  obtain ⟨e2, e2', f2⟩ := blk2c b2
  by_cases h0 : E = 0
  · have HV : Hid (heightV ul uh ll lh = ⟨max 0 (ll - uh), lh - ul, 0⟩) := Lib.hid (by unfold heightV; rw [HE.out, if_pos h0])
    have hz := rangeE_zero ((firstE_zero _).1 (by rw [HEE.out, HE.out, h0]) (rangeE ul uh (-1000000000) 1000000000) (by simp))
    have hz' := rangeE_zero ((firstE_zero _).1 (by rw [HEE.out, HE.out, h0]) (rangeE ll lh (-1000000000) 1000000000) (by simp))
    subst h0
    go_wp2
    · have b3 := b2.set2 (.int .i64 (ll - uh)) (.int .i64 (lh - ul))
      obtain ⟨g0, g1, _⟩ := blk2c b3
      rw [HV.out, show max 0 (ll - uh) = ll - uh by omega]
      exact bodyPost_ret (v := .tuple #[.agg #[.int .i64 (ll - uh), .int .i64 (lh - ul)], .int .i64 0]) (by simp [results, Tryz.results42, go_sem, g0, g1]) rfl ⟨rfl, (hBB.setCell (by simp; omega) _).setCell (by simp; omega) _⟩
    · have b3 := b2.set2 (.int .i64 0) (.int .i64 (lh - ul))
      obtain ⟨g0, g1, _⟩ := blk2c b3
      rw [HV.out, show max 0 (ll - uh) = 0 by omega]
      exact bodyPost_ret (v := .tuple #[.agg #[.int .i64 0, .int .i64 (lh - ul)], .int .i64 0]) (by simp [results, Tryz.results42, go_sem, g0, g1]) rfl ⟨rfl, (hBB.setCell (by simp; omega) _).setCell (by simp; omega) _⟩
  · have HV : Hid (heightV ul uh ll lh = ⟨0, 0, E⟩) := Lib.hid (by unfold heightV; rw [HE.out, if_neg h0])
    have h0' : (E != 0) = true := by simpa using h0
    go_wp2
    have b3 := b2.set2 (.int .i64 0) (.int .i64 0)
    obtain ⟨g0, g1, _⟩ := blk2c b3
    rw [HV.out]
    exact bodyPost_ret (v := .tuple #[.agg #[.int .i64 0, .int .i64 0], .int .i64 E]) (by simp [results, Tryz.results42, go_sem, g0, g1]) rfl ⟨rfl, (hBB.setCell (by simp; omega) _).setCell (by simp; omega) _⟩
end Go.Proofs.YtidgeagpgllkeaaGreat
