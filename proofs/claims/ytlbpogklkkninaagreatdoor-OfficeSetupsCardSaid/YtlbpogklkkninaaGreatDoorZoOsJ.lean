/- Contracts of the boxes of codes: the greatest numbers of quantities. Contracts: which boxes of codes are right, by the program and by the reference. -/
import Derived.Test.YtlbpogklkkninaaGreatDoorZoOsB
import Derived.Test.YtlbpogklkkninaaGreatDoorZoOsG
namespace Go.Proofs.YtlbpogklkkninaaGreatDoor
open Go.RowKit

/-- The greatest number of a quantity. -/
def grt (q : Nat) : Int := [9, 20000, 20000, 20000, 100000, 200].getD q 0

theorem grt_at (q : Nat) (hq : q < 6) : ∀ w : World, (Instr.index 97 (.agg #[.int .i64 9, .int .i64 20000, .int .i64 20000, .int .i64 20000, .int .i64 100000, .int .i64 200]) (.int .i64 q)).run Tryz.prog w = .ok (.int .i64 (grt q)) w := by
  obtain rfl | rfl | rfl | rfl | rfl | rfl : q = 0 ∨ q = 1 ∨ q = 2 ∨ q = 3 ∨ q = 4 ∨ q = 5 := by omega
  all_goals
    intro w
    kernel_rfl

set_option maxHeartbeats 400000 in
set_option maxRecDepth 8000 in
theorem greatest_any (q : Nat) (hq : q < 6) (w : World) :
    Calls Tryz.prog 63 #[.int .i64 q] w fun e w' => e = .returned (.int .i64 (grt q)) ∧ w = w' := by
  have hi := grt_at q hq
  clear hq
  go_enter Tryz.func63, Tryz.ntmps63
  go_wp2
  go_ret
  exact ⟨rfl, rfl⟩
end Go.Proofs.YtlbpogklkkninaaGreatDoor

namespace Go.Proofs.YtlbpogklkkninaaGreatDoor
open Go.RowKit

/-- The cells of a box: the ends of its ranges. -/
abbrev bxC (b : Nat → Int) : Array Value := #[.int .i64 (b 0), .int .i64 (b 1), .int .i64 (b 2), .int .i64 (b 3), .int .i64 (b 4), .int .i64 (b 5), .int .i64 (b 6), .int .i64 (b 7), .int .i64 (b 8), .int .i64 (b 9), .int .i64 (b 10), .int .i64 (b 11)]
theorem bxC_at (b : Nat → Int) {j : Nat} (hj : j < 12) : (bxC b)[j]? = some (.int .i64 (b j)) := by
  obtain rfl | rfl | rfl | rfl | rfl | rfl | rfl | rfl | rfl | rfl | rfl | rfl : j = 0 ∨ j = 1 ∨ j = 2 ∨ j = 3 ∨ j = 4 ∨ j = 5 ∨ j = 6 ∨ j = 7 ∨ j = 8 ∨ j = 9 ∨ j = 10 ∨ j = 11 := by omega
  all_goals rfl
/-- The error of a range of a box. -/
def boxQ (b : Nat → Int) (q : Nat) : Int := if wi (b (q * 2)) 0 (grt q) = false then 2 else if wi (b (q * 2 + 1)) 0 (grt q) = false then 2 else if b (q * 2 + 1) < b (q * 2) then 9 else 0
/-- The error of a box. -/
def boxE (b : Nat → Int) : Int := (firstE (boxQ b) 6).2
theorem boxE_bad {b : Nat → Int} {q : Nat} (hq : q < 6) (h : FineTo (boxQ b) q) (he : boxQ b q ≠ 0) : boxE b = boxQ b q := by unfold boxE; rw [firstE_bad h hq he]
theorem boxE_end {b : Nat → Int} (h : FineTo (boxQ b) 6) : boxE b = 0 := by unfold boxE; rw [firstE_end h]
/-- What can be so of a range of a box. -/
theorem boxQ_cases (b : Nat → Int) (q : Nat) : (wi (b (q * 2)) 0 (grt q) = false ∧ boxQ b q = 2) ∨ (wi (b (q * 2)) 0 (grt q) = true ∧ wi (b (q * 2 + 1)) 0 (grt q) = false ∧ boxQ b q = 2) ∨
    (wi (b (q * 2)) 0 (grt q) = true ∧ wi (b (q * 2 + 1)) 0 (grt q) = true ∧ b (q * 2 + 1) < b (q * 2) ∧ boxQ b q = 9) ∨ (wi (b (q * 2)) 0 (grt q) = true ∧ wi (b (q * 2 + 1)) 0 (grt q) = true ∧ ¬ b (q * 2 + 1) < b (q * 2) ∧ boxQ b q = 0) := by
  unfold boxQ
  cases wi (b (q * 2)) 0 (grt q)
  · exact .inl ⟨rfl, rfl⟩
  · cases wi (b (q * 2 + 1)) 0 (grt q)
    · exact .inr (.inl ⟨rfl, rfl, rfl⟩)
    · by_cases h : b (q * 2 + 1) < b (q * 2)
      · exact .inr (.inr (.inl ⟨rfl, rfl, h, by rw [if_neg (by simp), if_neg (by simp), if_pos h]⟩))
      · exact .inr (.inr (.inr ⟨rfl, rfl, h, by rw [if_neg (by simp), if_neg (by simp), if_neg h]⟩))

/-- What the quantities' variable holds. -/
structure Quant (w : World) : Prop where
  lt : 2 < w.heap.size
  c0 : w.cell? ⟨2, 0, none⟩ = some (.int .i64 9)
  c1 : w.cell? ⟨2, 1, none⟩ = some (.int .i64 20000)
  c2 : w.cell? ⟨2, 2, none⟩ = some (.int .i64 20000)
  c3 : w.cell? ⟨2, 3, none⟩ = some (.int .i64 20000)
  c4 : w.cell? ⟨2, 4, none⟩ = some (.int .i64 100000)
  c5 : w.cell? ⟨2, 5, none⟩ = some (.int .i64 200)
theorem Quant.below {w w' : World} {B : Nat} (h : Quant w) (hb : Below B w w') (hB : w.heap.size ≤ B) : Quant w' := by
  obtain ⟨l, h0, h1, h2, h3, h4, h5⟩ := h
  have k : ∀ j, w'.cell? ⟨2, j, none⟩ = w.cell? ⟨2, j, none⟩ := fun j => hb.cell (p := ⟨2, j, none⟩) (by simp only; omega)
  exact ⟨Nat.lt_of_lt_of_le l hb.size, (k _).trans h0, (k _).trans h1, (k _).trans h2, (k _).trans h3, (k _).trans h4, (k _).trans h5⟩

set_option maxRecDepth 100000 in
set_option maxHeartbeats 1000000 in
theorem cdCheckBox_any (b : Nat → Int) (w : World) (hQ : Quant w) :
    Calls Tryz.prog 73 #[.agg (bxC b)] w fun e w' => e = .returned (.int .i64 (boxE b)) ∧ Below w.heap.size w w' := by
  have hl := hQ.lt
  obtain ⟨_, q0, q1, q2, q3, q4, q5⟩ := hQ
  have b0 := Blk.new w 107 (bxC b)
  have hB0 : Below w.heap.size w (w.alloc (.cells (bxC b) 107)) := (by repeat (first | (with_reducible exact Below.refl _ _) | (with_reducible assumption) | ((with_reducible refine Below.setCell ?_ ?_ _); rotate_left; · (first | exact Nat.le_refl _ | (simp; done) | (simp; omega) | omega)) | ((with_reducible refine Below.alloc ?_ ?_ _); rotate_left; · (first | exact Nat.le_refl _ | (simp; done) | (simp; omega) | omega)) | (with_reducible apply Below.drew) | (with_reducible apply below_drewN') | (refine Below.trans ?_ (Below.mono (by assumption) (by first | exact Nat.le_refl _ | (simp; done) | (simp; omega) | omega))) | exact Below.refl _ _ | assumption))
  have hAT : Hid (∀ j, j < 12 → (bxC b)[j]? = some (.int .i64 (b j))) := Lib.hid fun j hj => bxC_at b hj
  have hGA := Lib.hid grt_at
  have hBC := Lib.hid (boxQ_cases b)
  go_enter Tryz.func73, Tryz.ntmps73
  go_wp2
  go_loopw [7] (fun i wr => ∃ q : Nat, q ≤ 6 ∧ i = .int .i64 q ∧ Hid (FineTo (boxQ b) q) ∧ Below (w.heap.size + 1) (w.alloc (.cells (bxC b) 107)) wr) (fun i _ => 6 - (intOf i).toNat)
  case atStart => exact ⟨0, Nat.zero_le _, rfl, Lib.hid (FineTo.zero _), (by repeat (first | (with_reducible exact Below.refl _ _) | (with_reducible assumption) | ((with_reducible refine Below.setCell ?_ ?_ _); rotate_left; · (first | exact Nat.le_refl _ | (simp; done) | (simp; omega) | omega)) | ((with_reducible refine Below.alloc ?_ ?_ _); rotate_left; · (first | exact Nat.le_refl _ | (simp; done) | (simp; omega) | omega)) | (with_reducible apply Below.drew) | (with_reducible apply below_drewN') | (refine Below.trans ?_ (Below.mono (by assumption) (by first | exact Nat.le_refl _ | (simp; done) | (simp; omega) | omega))) | exact Below.refl _ _ | assumption))⟩
  case round =>
    obtain ⟨q, hq, rfl, HI, hBB⟩ := hrel
    by_cases hlt : q < 6
    · have hgr := hGA.out q hlt
      have b1 := b0.below hBB (by omega)
      have c0 := (b1.cell (q * 2)).trans (hAT.out _ (by omega))
      have c1 := (b1.cell (q * 2 + 1)).trans (hAT.out _ (by omega))
      have hzz := Below.size hBB
      simp only [World.size_alloc] at hzz
      have b2 := Blk.new wr 55 #[.int .i64 (b (q * 2)), .int .i64 (b (q * 2 + 1))]
      have hBW : Below (w.heap.size + 1) (w.alloc (.cells (bxC b) 107)) (wr.alloc (.cells #[.int .i64 (b (q * 2)), .int .i64 (b (q * 2 + 1))] 55)) := Below.alloc hBB hzz _
      have hBX : Below w.heap.size w (wr.alloc (.cells #[.int .i64 (b (q * 2)), .int .i64 (b (q * 2 + 1))] 55)) := hB0.trans (hBW.mono (by omega))
      have HC := hBC.out q
      have HBAD : Hid (boxQ b q ≠ 0 → boxE b = boxQ b q) := Lib.hid (fun he => boxE_bad hlt HI.out he)
      have HNX : Hid (boxQ b q = 0 → FineTo (boxQ b) (q + 1)) := Lib.hid (fun he => HI.out.step he)
      obtain ⟨G, hG⟩ : ∃ G, grt q = G := ⟨_, rfl⟩
      rw [hG] at hgr HC
      clear hG hAT hGA hBC b0 b1
      generalize b (q * 2) = lo at *
      generalize b (q * 2 + 1) = hi at *
      rcases HC with ⟨x1, x⟩ | ⟨x1, x2, x⟩ | ⟨x1, x2, x3, x⟩ | ⟨x1, x2, x3, x⟩
      · have HX : Hid (boxE b = 2) := Lib.hid ((HBAD.out (by rw [x]; simp)).trans x)
        clear HBAD HNX x
        go_wp2_with (go_at_call 89; refine (cdWithin_any _ _ _ _).mono ?_; rintro e w1 ⟨rfl, rfl⟩)
        go_ret
        exact ⟨by rw [HX.out]; rfl, hBX⟩
      · have HX : Hid (boxE b = 2) := Lib.hid ((HBAD.out (by rw [x]; simp)).trans x)
        clear HBAD HNX x
        go_wp2_with (go_at_call 89; refine (cdWithin_any _ _ _ _).mono ?_; rintro e w1 ⟨rfl, rfl⟩)
        go_ret
        exact ⟨by rw [HX.out]; rfl, hBX⟩
      · have HX : Hid (boxE b = 9) := Lib.hid ((HBAD.out (by rw [x]; simp)).trans x)
        clear HBAD HNX x
        go_wp2_with (go_at_call 89; refine (cdWithin_any _ _ _ _).mono ?_; rintro e w1 ⟨rfl, rfl⟩)
        go_ret
        exact ⟨by rw [HX.out]; rfl, hBX⟩
      · have HX := Lib.hid (HNX.out x)
        clear HBAD HNX x
        go_wp2_with (go_at_call 89; refine (cdWithin_any _ _ _ _).mono ?_; rintro e w1 ⟨rfl, rfl⟩)
        refine ⟨⟨q + 1, by omega, by go_num, HX, hBW⟩, by simp [intOf]; omega⟩
    · obtain rfl : q = 6 := by omega
      have HX : Hid (boxE b = 0) := Lib.hid (boxE_end HI.out)
      go_wp2
      go_ret
      exact ⟨by rw [HX.out]; rfl, hB0.trans (hBB.mono (by omega))⟩

set_option maxRecDepth 100000 in
set_option maxHeartbeats 1000000 in
theorem rCheckBox_any (b : Nat → Int) (w : World) :
    Calls Tryz.prog 76 #[.agg (bxC b)] w fun e w' => e = .returned (.int .i64 (boxE b)) ∧ Below w.heap.size w w' := by
  have b0 := Blk.new w 107 (bxC b)
  have hB0 : Below w.heap.size w (w.alloc (.cells (bxC b) 107)) := (by repeat (first | (with_reducible exact Below.refl _ _) | (with_reducible assumption) | ((with_reducible refine Below.setCell ?_ ?_ _); rotate_left; · (first | exact Nat.le_refl _ | (simp; done) | (simp; omega) | omega)) | ((with_reducible refine Below.alloc ?_ ?_ _); rotate_left; · (first | exact Nat.le_refl _ | (simp; done) | (simp; omega) | omega)) | (with_reducible apply Below.drew) | (with_reducible apply below_drewN') | (refine Below.trans ?_ (Below.mono (by assumption) (by first | exact Nat.le_refl _ | (simp; done) | (simp; omega) | omega))) | exact Below.refl _ _ | assumption))
  have hAT : Hid (∀ j, j < 12 → (bxC b)[j]? = some (.int .i64 (b j))) := Lib.hid fun j hj => bxC_at b hj
  have hBC := Lib.hid (boxQ_cases b)
  have HW : Hid (∀ (n lo hi : Int) (w : World), Calls Tryz.prog 24 #[.int .i64 n, .int .i64 lo, .int .i64 hi] w fun e w' => e = .returned (.bool (wi n lo hi)) ∧ w' = w) := Lib.hid fun n lo hi w => (bWithin_any n lo hi w).mono fun e w' ⟨h1, h2⟩ => ⟨h1, h2.symm⟩
  have HGR : Hid (∀ q : Nat, q < 6 → ∀ w : World, Calls Tryz.prog 63 #[.int .i64 q] w fun e w' => e = .returned (.int .i64 (grt q)) ∧ w' = w) := Lib.hid fun q hq w => (greatest_any q hq w).mono fun e w' ⟨h1, h2⟩ => ⟨h1, h2.symm⟩
  go_enter Tryz.func76, Tryz.ntmps76
  go_wp2
  go_loopw [3] (fun i wr => ∃ q : Nat, q ≤ 6 ∧ i = .int .i64 q ∧ Hid (FineTo (boxQ b) q) ∧ Below (w.heap.size + 1) (w.alloc (.cells (bxC b) 107)) wr) (fun i _ => 6 - (intOf i).toNat)
  case atStart => exact ⟨0, Nat.zero_le _, rfl, Lib.hid (FineTo.zero _), (by repeat (first | (with_reducible exact Below.refl _ _) | (with_reducible assumption) | ((with_reducible refine Below.setCell ?_ ?_ _); rotate_left; · (first | exact Nat.le_refl _ | (simp; done) | (simp; omega) | omega)) | ((with_reducible refine Below.alloc ?_ ?_ _); rotate_left; · (first | exact Nat.le_refl _ | (simp; done) | (simp; omega) | omega)) | (with_reducible apply Below.drew) | (with_reducible apply below_drewN') | (refine Below.trans ?_ (Below.mono (by assumption) (by first | exact Nat.le_refl _ | (simp; done) | (simp; omega) | omega))) | exact Below.refl _ _ | assumption))⟩
  case round =>
    obtain ⟨q, hq, rfl, HI, hBB⟩ := hrel
    by_cases hlt : q < 6
    · have b1 := b0.below hBB (by omega)
      have c0 := (b1.cell (q * 2)).trans (hAT.out _ (by omega))
      have c1 := (b1.cell (q * 2 + 1)).trans (hAT.out _ (by omega))
      have hzz := Below.size hBB
      simp only [World.size_alloc] at hzz
      have hBX : Below w.heap.size w wr := hB0.trans (hBB.mono (by omega))
      have HC := hBC.out q
      have HBAD : Hid (boxQ b q ≠ 0 → boxE b = boxQ b q) := Lib.hid (fun he => boxE_bad hlt HI.out he)
      have HNX : Hid (boxQ b q = 0 → FineTo (boxQ b) (q + 1)) := Lib.hid (fun he => HI.out.step he)
      have HG := Lib.hid (HGR.out q hlt)
      obtain ⟨G, hG⟩ : ∃ G, grt q = G := ⟨_, rfl⟩
      rw [hG] at HG HC
      clear hG hAT hBC b0 b1 HGR
      generalize b (q * 2) = lo at *
      generalize b (q * 2 + 1) = hi at *
      rcases HC with ⟨x1, x⟩ | ⟨x1, x2, x⟩ | ⟨x1, x2, x3, x⟩ | ⟨x1, x2, x3, x⟩
      · have HX : Hid (boxE b = 2) := Lib.hid ((HBAD.out (by rw [x]; simp)).trans x)
        clear HBAD HNX x
        go_wp2
        go_quiet (first | (go_at_call 63; exact Calls.quiet_of_same (HG.out _)) | (go_at_call 24; exact Calls.quiet_of_same (HW.out _ _ _ _)))
        go_wp2
        go_ret
        exact ⟨by rw [HX.out]; rfl, by first | exact hBX | exact below_drewN' hBX _ | exact below_drewN' (below_drewN' hBX _) _⟩
      · have HX : Hid (boxE b = 2) := Lib.hid ((HBAD.out (by rw [x]; simp)).trans x)
        clear HBAD HNX x
        go_wp2
        go_quiet (first | (go_at_call 63; exact Calls.quiet_of_same (HG.out _)) | (go_at_call 24; exact Calls.quiet_of_same (HW.out _ _ _ _)))
        go_wp2
        go_ret
        exact ⟨by rw [HX.out]; rfl, by first | exact hBX | exact below_drewN' hBX _ | exact below_drewN' (below_drewN' hBX _) _⟩
      · have HX : Hid (boxE b = 9) := Lib.hid ((HBAD.out (by rw [x]; simp)).trans x)
        clear HBAD HNX x
        go_wp2
        go_quiet (first | (go_at_call 63; exact Calls.quiet_of_same (HG.out _)) | (go_at_call 24; exact Calls.quiet_of_same (HW.out _ _ _ _)))
        go_wp2
        go_quiet (fail)
        go_wp2
        go_ret
        exact ⟨by rw [HX.out]; rfl, by first | exact hBX | exact below_drewN' hBX _ | exact below_drewN' (below_drewN' hBX _) _⟩
      · have HX := Lib.hid (HNX.out x)
        clear HBAD HNX x
        go_wp2
        go_quiet (first | (go_at_call 63; exact Calls.quiet_of_same (HG.out _)) | (go_at_call 24; exact Calls.quiet_of_same (HW.out _ _ _ _)))
        go_wp2
        go_quiet (fail)
        go_wp2
        refine ⟨⟨q + 1, by omega, by go_num, HX, by first | exact below_drewN' (below_drewN' hBB _) _ | exact below_drewN' hBB _⟩, by simp [intOf]; omega⟩
    · obtain rfl : q = 6 := by omega
      have HX : Hid (boxE b = 0) := Lib.hid (boxE_end HI.out)
      go_wp2
      go_ret
      exact ⟨by rw [HX.out]; rfl, hB0.trans (hBB.mono (by omega))⟩
end Go.Proofs.YtlbpogklkkninaaGreatDoor
