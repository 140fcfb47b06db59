/- Contract of the law of joints: true. -/
import Derived.Test.YtfbnpfhnffahdaaGreatDoorCwL
import Derived.Test.YtfbnpfhnffahdaaGreatDoorCwI
namespace Go.Proofs.YtfbnpfhnffahdaaGreatDoor
open Go.RowKit

theorem fewB_ok {j : Jo} (h : fewB j = true) : j.fs.length ≤ 14 ∧ j.nm.size ≤ 20 ∧ ∀ p ∈ j.fs, p.1.size ≤ 20 := by
  unfold fewB at h
  simp only [Bool.and_eq_true, Bool.not_eq_true', Bool.or_eq_false_iff, List.all_eq_true, decide_eq_true_eq, decide_eq_false_iff_not] at h
  exact ⟨by omega, by omega, h.2⟩

set_option maxRecDepth 100000 in
set_option maxHeartbeats 8000000 in
theorem coverJoints_any (j : Jo) (A : Option Addr) (c B : Nat) (nm : ByteArray) (b : Bv) (w : World) (hn : j.fs.length ≤ c) (hc : c ≤ 9223372036854775807) (hR : Row w B 5 A j.fs.length (fcsC j.fs)) (hB : B ≤ w.heap.size) (hA : A = none → c = 0) (hw : b.wf) (hE : Ends w) :
    Calls Tryz.prog 3 #[.agg (joC j A c), .agg (bvC nm b)] w fun e w' => e = .returned (.bool true) ∧ Below w.heap.size w w' := by
  have hE1 : Hid (Ends ((w.alloc (.cells (joC j A c) 24)).alloc (.cells (bvC nm b) 28))) := Lib.hid (hE.below (((Below.refl _ _).alloc (Nat.le_refl _) _).alloc (by simp) _))
  clear hE
  have HA := Lib.hid hA; clear hA
  have b0 := (Blk.new w 24 (joC j A c)).alloc (.cells (bvC nm b) 28 (0, 0))
  have y0 := Blk.new' (w.alloc (.cells (joC j A c) 24)) 28 (bvC nm b) (g := w.heap.size + 1) (by simp)
  have hB0 : Below w.heap.size w ((w.alloc (.cells (joC j A c) 24)).alloc (.cells (bvC nm b) 28)) := ((Below.refl _ _).alloc (Nat.le_refl _) _).alloc (by simp) _
  unfold joC bvC at *
  go_enter Tryz.func3, Tryz.ntmps3
  go_wp2_with fail
  refine (awake_any _ hE1.out).mono ?_
  rintro e w1 ⟨rfl, hB1⟩
  have b1 := b0.below hB1 b0.lt
  have y1 := y0.below hB1 y0.lt
  have hBB := hB0.trans (hB1.mono (Below.size hB0))
  clear hB1 b0 y0 hB0 hE1
  have lb := b1.lt
  have ly := y1.lt
  obtain ⟨t0, t1, t2, t3⟩ := jo_cells b1
  obtain ⟨u0, u1, u2, u3, u4, u5, u6⟩ := bv_cells y1
  go_wp2_with fail
  refine (few_any j A c B _ (hR.below hBB hB) (Nat.le_trans hB (Below.size hBB))).mono ?_
  cases hf : fewB j
  · rintro e w2 ⟨rfl, hB2⟩
    go_wp2
    go_ret
    exact ⟨rfl, hBB.trans (hB2.mono (Below.size hBB))⟩
  · rintro e w2 ⟨rfl, hB2⟩
    have b2 := b1.below hB2 lb
    have y2 := y1.below hB2 ly
    have hB2' := hBB.trans (hB2.mono (Below.size hBB))
    clear hB2 b1 y1 hBB t0 t1 t2 t3 u0 u1 u2 u3 u4 u5 u6 lb ly
    have lb := b2.lt
    have ly := y2.lt
    obtain ⟨t0, t1, t2, t3⟩ := jo_cells b2
    obtain ⟨u0, u1, u2, u3, u4, u5, u6⟩ := bv_cells y2
    by_cases q : 20 < nm.size
    · have q1 : (20 : Int) < (nm.size : Int) := by omega
      go_wp2
      go_ret
      exact ⟨rfl, hB2'⟩
    · have q1 : (nm.size : Int) ≤ 20 := by omega
      obtain ⟨f1, f2, f3⟩ := fewB_ok hf
      have HJ : Hid (∀ W, Below w.heap.size w W → JoOk j A c B W) := Lib.hid fun W h => ⟨by omega, fun p hp => by have := f3 p hp; omega, hn, hc, hR.below h hB, Nat.le_trans hB (Below.size h)⟩
      have hns : nm.size ≤ 1000000000000 := by omega
      clear f2 f3 hf
      go_wp2_with fail
      refine (copyJoint_any j A c B _ (HJ.out _ hB2') HA.out (by omega)).mono ?_
      rintro e w3 ⟨v, rfl, own3, hB3⟩
      obtain ⟨A3, c3, hv3, hn3, _⟩ := own_shape own3
      subst hv3
      have hc3 := own_cap own3
      obtain ⟨A3', c3', hv3, hR3⟩ := Row.own own3
      simp only [Value.slice.injEq, true_and] at hv3
      obtain ⟨rfl, rfl⟩ := hv3
      have hj3 : JoOk j A3 c3 w3.heap.size w3 := ⟨(HJ.out _ hB2').nm, (HJ.out _ hB2').fs, hn3, hc3.1, hR3, Nat.le_refl _⟩
      have b3 := b2.below hB3 lb
      have y3 := y2.below hB3 ly
      have hB3' := hB2'.trans (hB3.mono (Below.size hB2'))
      clear own3 hc3 hR3 hB3 b2 y2 hB2' t0 t1 t2 t3 u0 u1 u2 u3 u4 u5 u6 lb ly
      go_wp2_with fail
      refine (checkJoint_any j A3 c3 w3.heap.size _ hj3.nm hj3.fs hj3.len hj3.cap hj3.row hj3.base).mono ?_
      rintro e w4 ⟨rfl, hB4⟩
      have b4 := b3.below hB4 b3.lt
      have y4 := y3.below hB4 y3.lt
      have hB4' := hB3'.trans (hB4.mono (Below.size hB3'))
      clear hj3 hB4 b3 y3 hB3'
      have lb := b4.lt
      have ly := y4.lt
      obtain ⟨t0, t1, t2, t3⟩ := jo_cells b4
      obtain ⟨u0, u1, u2, u3, u4, u5, u6⟩ := bv_cells y4
      go_wp2_with fail
      refine (bevelled_any nm b _ hns hw).mono ?_
      rintro e w5 ⟨⟨A5, c5, rfl, hj5, hA5⟩, hB5⟩
      have b5 := b4.below hB5 lb
      have y5 := y4.below hB5 ly
      have hB5' := hB4'.trans (hB5.mono (Below.size hB4'))
      clear hB5 b4 y4 hB4' t0 t1 t2 t3 u0 u1 u2 u3 u4 u5 u6 lb ly
      have HJ0 : Hid (bvE nm b = 0 → jointE (bvA nm b) = (0, 0)) := Lib.hid fun h => by unfold bvA; rw [if_pos h]; exact bvJ_right h
      generalize hJ : bvA nm b = J at *
      have lb := b5.lt
      have ly := y5.lt
      obtain ⟨t0, t1, t2, t3⟩ := jo_cells b5
      obtain ⟨u0, u1, u2, u3, u4, u5, u6⟩ := bv_cells y5
      have z6 := Blk.new w5 24 (joC J A5 c5)
      have b6 := b5.alloc (.cells (joC J A5 c5) 24 (0, 0))
      have y6 := y5.alloc (.cells (joC J A5 c5) 24 (0, 0))
      have hB6 := hB5'.alloc (Below.size hB5') (.cells (joC J A5 c5) 24 (0, 0))
      have hj6 : JoOk J A5 c5 w5.heap.size (w5.alloc (.cells (joC J A5 c5) 24 (0, 0))) := hj5.below ((Below.refl w5.heap.size w5).alloc (Nat.le_refl _) _) (Nat.le_refl _)
      clear b5 y5 hB5' hj5
      unfold joC at z6 b6 y6 hB6 hj6 ⊢
      go_wp2_with fail
      clear t0 t1 t2 t3 u0 u1 u2 u3 u4 u5 u6 lb ly
      have hjx := HJ.out _ hB6
      unfold joC at hjx
      refine (rCheckJoint_any j A c B _ (HJ.out _ hB6)).mono ?_
      rintro e w7 ⟨rfl, hB7⟩
      have z7 := z6.below hB7 z6.lt
      have b7 := b6.below hB7 b6.lt
      have y7 := y6.below hB7 y6.lt
      have hj7 := hj6.below hB7 (by simp)
      have hB7' := hB6.trans (hB7.mono (Below.size hB6))
      clear hB7 z6 b6 y6 hj6 hB6
      generalize w5.heap.size = g7 at *
      have lb := b7.lt
      have ly := y7.lt
      obtain ⟨t0, t1, t2, t3⟩ := jo_cells b7
      obtain ⟨u0, u1, u2, u3, u4, u5, u6⟩ := bv_cells y7
      go_wp2_with fail
      refine (rBevelled_any nm b _ hns hw).mono ?_
      rw [hJ]
      rintro e w8 ⟨⟨A8, c8, rfl, hj8, hA8⟩, hB8⟩
      have z8 := z7.below hB8 z7.lt
      have hj9 := hj7.below hB8 (Nat.le_of_lt z7.lt)
      have hB8' := hB7'.trans (hB8.mono (Below.size hB7'))
      have hs8 := Below.size hB8
      have lz7 := z7.lt
      clear hB8 z7 b7 y7 hj7 hB7' t0 t1 t2 t3 u0 u1 u2 u3 u4 u5 u6 lb ly
      have x9 := Blk.new w8 24 (joC J A8 c8)
      have z9 := z8.alloc (.cells (joC J A8 c8) 24 (0, 0))
      have hB9 := hB8'.alloc (Below.size hB8') (.cells (joC J A8 c8) 24 (0, 0))
      have hj10 : JoOk J A8 c8 w8.heap.size (w8.alloc (.cells (joC J A8 c8) 24 (0, 0))) := hj8.below ((Below.refl w8.heap.size w8).alloc (Nat.le_refl _) _) (Nat.le_refl _)
      have hj11 : JoOk J A5 c5 w8.heap.size (w8.alloc (.cells (joC J A8 c8) 24 (0, 0))) := (hj9.below ((Below.refl w8.heap.size w8).alloc (Nat.le_refl _) _) (by omega)).more (by omega) (by simp)
      have lz := z8.lt
      clear hj8 hj9 z8 hB8'
      unfold joC at x9 z9 hB9 hj10 hj11 ⊢
      obtain ⟨t0, t1, t2, t3⟩ := jo_cells (j := J) (A := A5) (c := c5) z9
      go_wp2_with fail
      refine (same_any J A5 A8 c5 c8 w8.heap.size _ hj11 hj10).mono ?_
      rintro e w9 ⟨rfl, hB10⟩
      have z10 := z9.below hB10 z9.lt
      have hj12 := hj11.below hB10 (by simp)
      have hB10' := hB9.trans (hB10.mono (Below.size hB9))
      clear hB10 z9 x9 hB9 hj10 hj11 t0 t1 t2 t3
      by_cases h0 : bvE nm b = 0
      · have hq : (bvE nm b != 0) = false := by simpa using h0
        have HR := Lib.hid (HJ0.out h0)
        clear h0
        have lz := z10.lt
        obtain ⟨t0, t1, t2, t3⟩ := jo_cells (j := J) (A := A5) (c := c5) z10
        go_wp2_with fail
        refine (checkJoint_any J A5 c5 w8.heap.size _ hj12.nm hj12.fs hj12.len hj12.cap hj12.row hj12.base).mono ?_
        rw [HR.out]
        rintro e w10 ⟨rfl, hB11⟩
        go_wp2
        go_ret
        exact ⟨rfl, hB10'.trans (hB11.mono (Below.size hB10'))⟩
      · have hq : (bvE nm b != 0) = true := by simpa using h0
        clear h0
        go_wp2
        go_ret
        exact ⟨rfl, hB10'⟩
end Go.Proofs.YtfbnpfhnffahdaaGreatDoor
