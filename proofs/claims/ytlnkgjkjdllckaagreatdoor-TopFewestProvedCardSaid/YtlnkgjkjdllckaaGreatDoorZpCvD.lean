/- Contracts of the methods of parts. -/
import Derived.Deep.RegionHeld3
import Derived.Deep.RegionWith
import Derived.RegionTactic
import Derived.Test.YtlnkgjkjdllckaaGreatDoorZpCvC
import Derived.Test.YtlnkgjkjdllckaaGreatDoorZpCvW
import Derived.Test.YtlnkgjkjdllckaaGreatDoorZpRgW
namespace Go.Proofs.YtlnkgjkjdllckaaGreatDoor
open Go.RowKit

/-- The cells of a part. -/
def ptC (a b c d : Int) (none up : Bool) : Array Value := #[.int .i64 a, .int .i64 b, .int .i64 c, .int .i64 d, .bool none, .bool up]

theorem blk6 {w : World} {g t : Nat} {v0 v1 v2 v3 v4 v5 : Value} (h : Blk w g t #[v0, v1, v2, v3, v4, v5]) :
    w.cell? ⟨g, 0, none⟩ = some v0 ∧ w.cell? ⟨g, 1, none⟩ = some v1 ∧ w.cell? ⟨g, 2, none⟩ = some v2 ∧ w.cell? ⟨g, 3, none⟩ = some v3 ∧ w.cell? ⟨g, 4, none⟩ = some v4 ∧ w.cell? ⟨g, 5, none⟩ = some v5 ∧
    ∀ i, w.frozen? ⟨g, i, none⟩ = false :=
  ⟨h.cell 0, h.cell 1, h.cell 2, h.cell 3, h.cell 4, h.cell 5, h.frozen⟩

set_option maxHeartbeats 400000 in
theorem empty_any (g : Nat) (a b c d : Int) (none up : Bool) (ha : 0 ≤ a ∧ a ≤ 9223372036854775807) (hb : 0 ≤ b ∧ b ≤ 9223372036854775807) (hc' : 0 ≤ c ∧ c ≤ 9223372036854775807) (hd : 0 ≤ d ∧ d ≤ 9223372036854775807)
    (w : World) (h : Blk w g 89 (ptC a b c d none up)) :
    Calls Tryz.prog 114 #[.pointer (some ⟨g, 0, Option.none⟩)] w fun e w' => e = .returned (.tuple #[]) ∧ Blk w' g 89 (ptC a b c d (none || decide (0 < cmpI (a * d) (c * b))) up) ∧ w.grownBy w' (some g) := by
  obtain ⟨c0, c1, c2, c3, c4, c5, hfz⟩ := blk6 h
  have f4 := hfz 4
  have hlt := h.lt
  have hr := Below.refl w.heap.size w
  cases none with
  | true =>
    go_enter Tryz.func114, Tryz.ntmps114
    go_wp2_with fail
    refine wp_region_text 21 (Below w.heap.size w) (by kernel_rfl) (by kernel_rfl) hr.drew ?_
    simp only [List.take, List.drop]
    repeat (first
      | (apply StepsD.run
         · go_simp
           done
         · intro w' hS K hK
           have hc := (bcell hS).1
           have hf := (bcell hS).2
           have hz := hS.size
           try simp at hz
           go_simp
           try go_bits
           first
             | exact hK _ hS
             | exact hK _ (by repeat (first | (with_reducible exact Below.refl _ _) | (with_reducible assumption) | ((with_reducible refine Below.setCell ?_ ?_ _); rotate_left; · (first | exact Nat.le_refl _ | (simp; done) | (simp; omega) | omega)) | ((with_reducible refine Below.alloc ?_ ?_ _); rotate_left; · (first | exact Nat.le_refl _ | (simp; done) | (simp; omega) | omega)) | (with_reducible apply Below.drew) | (with_reducible apply below_drewN') | (refine Below.trans ?_ (Below.mono (by assumption) (by first | exact Nat.le_refl _ | (simp; done) | (simp; omega) | omega))) | exact Below.refl _ _ | assumption))
         · simp [Act.put]
           done)
      | (apply StepsD.pass
         · first | (go_simp; done) | rfl
         · simp only [Act.put, List.setIfInBounds_toArray, List.set_cons_succ, List.set_cons_zero]
           rfl))
    refine StepsD.done ?_
    intro w' hS
    have hc := (bcell hS).1
    have hf := (bcell hS).2
    go_wp2
    go_end0
    exact ⟨rfl, (h.below hS hlt).set_ 4 (.bool true), only_setCell (only_of_below hS _) (.inl rfl) _⟩
  | false =>
    go_enter Tryz.func114, Tryz.ntmps114
    go_wp2_with fail
    refine wp_region_text 21 (Below w.heap.size w) (by kernel_rfl) (by kernel_rfl) hr.drew ?_
    simp only [List.take, List.drop]
    repeat (first
      | (apply StepsD.run
         · go_simp
           done
         · intro w' hS K hK
           have hc := (bcell hS).1
           have hf := (bcell hS).2
           have hz := hS.size
           try simp at hz
           go_simp
           try go_bits
           first
             | exact hK _ hS
             | (refine (compare_any _ _ _ _ ha hb hc' hd _).mono ?_; rintro e w1 ⟨rfl, hB1⟩; obtain ⟨hc1, hf1⟩ := bcell hB1; have hz1 := hB1.size; (try simp at hz1); exact hK _ (Below.trans hS (Below.mono hB1 (by first | exact Nat.le_refl _ | (simp; done) | (simp; omega) | omega))))
             | exact hK _ (by repeat (first | (with_reducible exact Below.refl _ _) | (with_reducible assumption) | ((with_reducible refine Below.setCell ?_ ?_ _); rotate_left; · (first | exact Nat.le_refl _ | (simp; done) | (simp; omega) | omega)) | ((with_reducible refine Below.alloc ?_ ?_ _); rotate_left; · (first | exact Nat.le_refl _ | (simp; done) | (simp; omega) | omega)) | (with_reducible apply Below.drew) | (with_reducible apply below_drewN') | (refine Below.trans ?_ (Below.mono (by assumption) (by first | exact Nat.le_refl _ | (simp; done) | (simp; omega) | omega))) | exact Below.refl _ _ | assumption))
         · simp [Act.put]
           done)
      | (apply StepsD.pass
         · first | (go_simp; done) | rfl
         · simp only [Act.put, List.setIfInBounds_toArray, List.set_cons_succ, List.set_cons_zero]
           rfl))
    refine StepsD.done ?_
    intro w' hS
    have hc := (bcell hS).1
    have hf := (bcell hS).2
    go_wp2
    go_end0
    exact ⟨rfl, (h.below hS hlt).set_ 4 _, only_setCell (only_of_below hS _) (.inl rfl) _⟩

abbrev NN (x : Int) : Prop := 0 ≤ x ∧ x ≤ 9223372036854775807

set_option maxRecDepth 100000 in
set_option maxHeartbeats 400000 in
theorem from_part (g : Nat) (n m a b c d : Int) (none up : Bool) (hn : NN n) (hm : NN m) (ha : NN a) (hb : NN b) (hc' : NN c) (hd : NN d)
    (w : World) (h : Blk w g 89 (ptC a b c d none up)) (big : Bool) (hbig : decide (0 < cmpI (n * b) (a * m)) = big) :
    Calls Tryz.prog 93 #[.pointer (some ⟨g, 0, Option.none⟩), .agg #[.int .i64 n, .int .i64 m]] w fun e w' => e = .returned (.tuple #[]) ∧
      Blk w' g 89 (ptC (if big then n else a) (if big then m else b) c d (none || decide (0 < cmpI ((if big then n else a) * d) (c * (if big then m else b)))) up) ∧ w.grownBy w' (some g) := by
  obtain ⟨c0, c1, c2, c3, c4, c5, hfz⟩ := blk6 h
  have f0 := hfz 0
  have f1 := hfz 1
  have hlt := h.lt
  have hne : g ≠ w.heap.size := by omega
  have HBIG := Lib.hid hbig; clear hbig
  go_enter Tryz.func93, Tryz.ntmps93
  go_wp2_with fail
  refine wp_region_b 8 (by kernel_rfl) (by kernel_rfl) ?_; simp only [List.take, List.drop]
  repeat (first
    | (apply StepsD.run
       · go_simp
         done
       · intro w' hS K hK
         have hc := (bcell hS).1
         have hf := (bcell hS).2
         have hz := hS.size
         try simp at hz
         go_simp
         try go_bits
         first
           | exact hK _ hS
           | (refine (compare_any _ _ _ _ hn hm ha hb _).mono ?_; rintro e w1 ⟨rfl, hB1⟩; obtain ⟨hc1, hf1⟩ := bcell hB1; have hz1 := hB1.size; (try simp at hz1); exact hK _ (Below.trans hS (Below.mono hB1 (by first | exact Nat.le_refl _ | (simp; done) | (simp; omega) | omega))))
           | exact hK _ (by repeat (first | (with_reducible exact Below.refl _ _) | (with_reducible assumption) | ((with_reducible refine Below.setCell ?_ ?_ _); rotate_left; · (first | exact Nat.le_refl _ | (simp; done) | (simp; omega) | omega)) | ((with_reducible refine Below.alloc ?_ ?_ _); rotate_left; · (first | exact Nat.le_refl _ | (simp; done) | (simp; omega) | omega)) | (with_reducible apply Below.drew) | (with_reducible apply below_drewN') | (refine Below.trans ?_ (Below.mono (by assumption) (by first | exact Nat.le_refl _ | (simp; done) | (simp; omega) | omega))) | exact Below.refl _ _ | assumption))
       · simp [Act.put]
         done)
    | (apply StepsD.pass
       · first | (go_simp; done) | rfl
       · simp only [Act.put, List.setIfInBounds_toArray, List.set_cons_succ, List.set_cons_zero]
         rfl))
  refine StepsD.done ?_
  intro w' hS; have hc := (bcell hS).1; have hf := (bcell hS).2; have hz := hS.size; (try simp at hz)
  have hblk : Blk w' g 89 (ptC a b c d none up) := (h.alloc _).below hS (by simp; omega)
  have hog : w.grownBy w' (some g) := only_of_below ((Below.refl _ _).alloc (Nat.le_refl _) _ |>.trans (hS.mono (by simp))) _
  cases big with
  | true =>
    have hq : 0 < cmpI (n * b) (a * m) := of_decide_eq_true HBIG.out
    go_wp2_with fail
    refine (empty_any g n m c d none up hn hm hc' hd _ ((hblk.set_ 0 (.int .i64 n)).set_ 1 (.int .i64 m))).mono ?_
    rintro e w2 ⟨rfl, hb2, hg2⟩
    go_wp2
    go_end0
    exact ⟨rfl, hb2, only_trans (only_setCell (only_setCell hog (.inl rfl) _) (.inl rfl) _) hg2⟩
  | false =>
    have hq : cmpI (n * b) (a * m) ≤ 0 := by have := of_decide_eq_false HBIG.out; omega
    go_wp2_with fail
    refine (empty_any g a b c d none up ha hb hc' hd _ hblk).mono ?_
    rintro e w2 ⟨rfl, hb2, hg2⟩
    go_wp2
    go_end0
    exact ⟨rfl, hb2, only_trans hog hg2⟩

set_option maxRecDepth 100000 in
set_option maxHeartbeats 400000 in
theorem to_part (g : Nat) (n m a b c d : Int) (none up : Bool) (hn : NN n) (hm : NN m) (ha : NN a) (hb : NN b) (hc' : NN c) (hd : NN d)
    (w : World) (h : Blk w g 89 (ptC a b c d none up)) (big : Bool) (hbig : decide (cmpI (n * d) (c * m) < 0) = big) :
    Calls Tryz.prog 94 #[.pointer (some ⟨g, 0, Option.none⟩), .agg #[.int .i64 n, .int .i64 m]] w fun e w' => e = .returned (.tuple #[]) ∧
      Blk w' g 89 (ptC a b (if big then n else c) (if big then m else d) (none || decide (0 < cmpI (a * (if big then m else d)) ((if big then n else c) * b))) up) ∧ w.grownBy w' (some g) := by
  obtain ⟨c0, c1, c2, c3, c4, c5, hfz⟩ := blk6 h
  have f2 := hfz 2
  have f3 := hfz 3
  have hlt := h.lt
  have hne : g ≠ w.heap.size := by omega
  have HBIG := Lib.hid hbig; clear hbig
  go_enter Tryz.func94, Tryz.ntmps94
  go_wp2_with fail
  refine wp_region_b 8 (by kernel_rfl) (by kernel_rfl) ?_; simp only [List.take, List.drop]
  repeat (first
    | (apply StepsD.run
       · go_simp
         done
       · intro w' hS K hK
         have hc := (bcell hS).1
         have hf := (bcell hS).2
         have hz := hS.size
         try simp at hz
         go_simp
         try go_bits
         first
           | exact hK _ hS
           | (refine (compare_any _ _ _ _ hn hm hc' hd _).mono ?_; rintro e w1 ⟨rfl, hB1⟩; obtain ⟨hc1, hf1⟩ := bcell hB1; have hz1 := hB1.size; (try simp at hz1); exact hK _ (Below.trans hS (Below.mono hB1 (by first | exact Nat.le_refl _ | (simp; done) | (simp; omega) | omega))))
           | exact hK _ (by repeat (first | (with_reducible exact Below.refl _ _) | (with_reducible assumption) | ((with_reducible refine Below.setCell ?_ ?_ _); rotate_left; · (first | exact Nat.le_refl _ | (simp; done) | (simp; omega) | omega)) | ((with_reducible refine Below.alloc ?_ ?_ _); rotate_left; · (first | exact Nat.le_refl _ | (simp; done) | (simp; omega) | omega)) | (with_reducible apply Below.drew) | (with_reducible apply below_drewN') | (refine Below.trans ?_ (Below.mono (by assumption) (by first | exact Nat.le_refl _ | (simp; done) | (simp; omega) | omega))) | exact Below.refl _ _ | assumption))
       · simp [Act.put]
         done)
    | (apply StepsD.pass
       · first | (go_simp; done) | rfl
       · simp only [Act.put, List.setIfInBounds_toArray, List.set_cons_succ, List.set_cons_zero]
         rfl))
  refine StepsD.done ?_
  intro w' hS; have hc := (bcell hS).1; have hf := (bcell hS).2; have hz := hS.size; (try simp at hz)
  have hblk : Blk w' g 89 (ptC a b c d none up) := (h.alloc _).below hS (by simp; omega)
  have hog : w.grownBy w' (some g) := only_of_below ((Below.refl _ _).alloc (Nat.le_refl _) _ |>.trans (hS.mono (by simp))) _
  cases big with
  | true =>
    have hq : cmpI (n * d) (c * m) < 0 := of_decide_eq_true HBIG.out
    go_wp2_with fail
    refine (empty_any g a b n m none up ha hb hn hm _ ((hblk.set_ 2 (.int .i64 n)).set_ 3 (.int .i64 m))).mono ?_
    rintro e w2 ⟨rfl, hb2, hg2⟩
    go_wp2
    go_end0
    exact ⟨rfl, hb2, only_trans (only_setCell (only_setCell hog (.inl rfl) _) (.inl rfl) _) hg2⟩
  | false =>
    have hq : 0 ≤ cmpI (n * d) (c * m) := by have := of_decide_eq_false HBIG.out; omega
    go_wp2_with fail
    refine (empty_any g a b c d none up ha hb hc' hd _ hblk).mono ?_
    rintro e w2 ⟨rfl, hb2, hg2⟩
    go_wp2
    go_end0
    exact ⟨rfl, hb2, only_trans hog hg2⟩
end Go.Proofs.YtlnkgjkjdllckaaGreatDoor
