/- Contracts: slices.Sorted(slices.Values(..)); the error of a track. -/
import Derived.Sort.OwnSortedInts
import Derived.Test.YtlnkgjkjdllckaaGreatDoorZpCvS
import Derived.Test.YtlnkgjkjdllckaaGreatDoorZpShelf2
namespace Go.Proofs.YtlnkgjkjdllckaaGreatDoor
open Go.RowKit

set_option maxHeartbeats 400000 in
theorem values_any (A : Option Addr) (n c : Nat) (w : World) :
    Calls Tryz.prog 70 #[.slice A n c] w fun e w' => e = .returned (.func (.func 96) #[] #[.pointer (some ⟨w.heap.size, 0, none⟩)]) ∧ w' = w.alloc (.cells #[.slice A n c] 43) := by
  go_enter Tryz.func70, Tryz.ntmps70
  go_wp2
  go_ret
  exact ⟨rfl, rfl⟩

theorem appendSeq_any (Bs : Nat) (sv : Value) (zs : List Int) (hlen : zs.length ≤ 1000000000) (w : World) (hBs : Bs < w.heap.size) (hc : w.cell? ⟨Bs, 0, none⟩ = some sv) (hI : Ints w.heap.size w sv zs) :
    Calls Tryz.prog 115 #[.slice none 0 0, .func (.func 96) #[] #[.pointer (some ⟨Bs, 0, none⟩)]] w fun e W' => ∃ v, e = .returned v ∧ W'.ownsRow w.heap.size 3 1 v zs.length (zs.map (Value.int .i64)) ∧ (v = .slice none 0 0 ↔ zs = []) ∧ Below w.heap.size w W' :=
  callsIn_wide.1 (appendSeq_in Fence.wide 5 trivial trivial rfl (by omega) Bs sv zs (by unfold maxLen; omega) (by omega) w hBs hc hI)

theorem collect_any (Bs : Nat) (sv : Value) (zs : List Int) (hlen : zs.length ≤ 1000000000) (w : World) (hBs : Bs < w.heap.size) (hc : w.cell? ⟨Bs, 0, none⟩ = some sv) (hI : Ints w.heap.size w sv zs) :
    Calls Tryz.prog 95 #[.func (.func 96) #[] #[.pointer (some ⟨Bs, 0, none⟩)]] w fun e W' => ∃ v, e = .returned v ∧ W'.ownsRow w.heap.size 3 1 v zs.length (zs.map (Value.int .i64)) ∧ (v = .slice none 0 0 ↔ zs = []) ∧ Below w.heap.size w W' := by
  have h := Lib.hid (appendSeq_any Bs sv zs hlen w hBs hc hI)
  go_enter Tryz.func95, Tryz.ntmps95
  go_wp2_with fail
  refine h.out.mono ?_
  rintro e w1 ⟨v, rfl, h1, h2, h3⟩
  have H2 := Lib.hid h2; clear h2
  go_wp2
  go_ret
  exact ⟨v, rfl, h1, H2.out, h3⟩

/-- The numbers of a list, ascending. -/
def sortV (zs : List Int) : List Int := zs.mergeSort fun x y => decide (x ≤ y)
theorem sortV_length (zs : List Int) : (sortV zs).length = zs.length := List.length_mergeSort ..

set_option maxHeartbeats 400000 in
theorem sorted_any (Bs : Nat) (sv : Value) (zs : List Int) (hlen : zs.length ≤ 1000000000) (w : World) (hBs : Bs < w.heap.size) (hc : w.cell? ⟨Bs, 0, none⟩ = some sv) (hI : Ints w.heap.size w sv zs) :
    Calls Tryz.prog 69 #[.func (.func 96) #[] #[.pointer (some ⟨Bs, 0, none⟩)]] w fun e W' => ∃ v, e = .returned v ∧ W'.ownsRow w.heap.size 3 1 v zs.length ((sortV zs).map (Value.int .i64)) ∧ Below w.heap.size w W' := by
  have h := Lib.hid (collect_any Bs sv zs hlen w hBs hc hI)
  go_enter Tryz.func69, Tryz.ntmps69
  go_wp2_with fail
  refine h.out.mono ?_
  rintro e w1 ⟨v, rfl, h1, h2, h3⟩
  have H2 := Lib.hid h2; clear h2
  rcases h1.2 with ⟨rfl, h0⟩ | ⟨g, cap, cur, rfl, hbase, hb, hn1, hn2, hn3, hn4⟩
  · have hz : zs = [] := H2.out.1 rfl
    subst hz
    go_wp2_with fail
    refine (Tryz.slices_Sort_int_none none 0 _).mono ?_
    rintro e w2 ⟨rfl, rfl⟩
    go_wp2
    go_ret
    exact ⟨_, rfl, ⟨by simp [sortV], .inl ⟨rfl, rfl⟩⟩, h3⟩
  · have hH := holds_of_blockI hb (by simpa using hn4)
    have hgl : g < w1.heap.size := (Array.getElem?_eq_some_iff.1 hb).1
    have hs := Lib.hid (Tryz.slices_Sort_int g 0 cap zs w1 hH hgl (by omega))
    go_wp2_with fail
    refine hs.out.mono ?_
    rintro e w2 ⟨rfl, nn, os, hw⟩
    have o2 := ownsRow_sortedI (n := nn) (os := os) (ts := sortV zs) (by rw [sortV_length]) hbase hb hn1 hn2 hn3
    have g2 := grownBy_sortedI (w := w1) (g := g) (n := nn) (os := os) (sortV zs).toArray
    unfold sortV at o2 g2
    rw [← hw] at o2 g2
    clear hw
    go_wp2
    go_ret
    exact ⟨_, rfl, o2, h3.grown g2 (Below.size h3) (fun k e => by cases e; exact hbase)⟩

/-- A track. -/
structure Tk where
  frm : Int
  til : Int
  slip : Int
  reach : Int
def tkC (t : Tk) : Array Value := #[.int .i64 t.frm, .int .i64 t.til, .int .i64 t.slip, .int .i64 t.reach]
/-- The error of a track. -/
def trackE (t : Tk) : Int :=
  if wi t.frm 0 1000000 = false then 2 else if wi t.til 0 1000000 = false then 2 else if wi t.slip 0 1000000 = false then 2 else if wi t.reach 0 1000000 = false then 2 else if t.til < t.frm then 9 else 0

set_option maxRecDepth 100000 in
set_option maxHeartbeats 1000000 in
theorem checkTrack_any (t : Tk) (w : World) :
    Calls Tryz.prog 67 #[.agg (tkC t)] w fun e w' => e = .returned (.int .i64 (trackE t)) ∧ Below w.heap.size w w' := by
  unfold tkC
  have i0 : ∀ W, (Instr.index 162 (.agg #[.int .i64 t.frm, .int .i64 t.til, .int .i64 t.slip, .int .i64 t.reach]) (.int .i64 0)).run Tryz.prog W = .ok (.int .i64 t.frm) W := fun _ => by kernel_rfl
  have i1 : ∀ W, (Instr.index 162 (.agg #[.int .i64 t.frm, .int .i64 t.til, .int .i64 t.slip, .int .i64 t.reach]) (.int .i64 1)).run Tryz.prog W = .ok (.int .i64 t.til) W := fun _ => by kernel_rfl
  have i2 : ∀ W, (Instr.index 162 (.agg #[.int .i64 t.frm, .int .i64 t.til, .int .i64 t.slip, .int .i64 t.reach]) (.int .i64 2)).run Tryz.prog W = .ok (.int .i64 t.slip) W := fun _ => by kernel_rfl
  have i3 : ∀ W, (Instr.index 162 (.agg #[.int .i64 t.frm, .int .i64 t.til, .int .i64 t.slip, .int .i64 t.reach]) (.int .i64 3)).run Tryz.prog W = .ok (.int .i64 t.reach) W := fun _ => by kernel_rfl
  go_enter Tryz.func67, Tryz.ntmps67
  go_wp2
  go_loop [14] (fun i => i = .int .i64 0 ∨ (i = .int .i64 1 ∧ Hid (wi t.frm 0 1000000 = true)) ∨ (i = .int .i64 2 ∧ Hid (wi t.frm 0 1000000 = true) ∧ Hid (wi t.til 0 1000000 = true)) ∨ (i = .int .i64 3 ∧ Hid (wi t.frm 0 1000000 = true) ∧ Hid (wi t.til 0 1000000 = true) ∧ Hid (wi t.slip 0 1000000 = true)) ∨
    (i = .int .i64 4 ∧ Hid (wi t.frm 0 1000000 = true) ∧ Hid (wi t.til 0 1000000 = true) ∧ Hid (wi t.slip 0 1000000 = true) ∧ Hid (wi t.reach 0 1000000 = true))) (fun i => 4 - (intOf i).toNat)
  case atStart => exact .inl rfl
  case round =>
    rcases hrel with rfl | ⟨rfl, h1⟩ | ⟨rfl, h1, h2⟩ | ⟨rfl, h1, h2, h3⟩ | ⟨rfl, h1, h2, h3, h4⟩
    · cases hq : wi t.frm 0 1000000
      · have HE : Hid (trackE t = 2) := by unfold trackE; rw [hq]; rfl
        go_wp2_with (go_at_call 60; refine (within_any _ _ _ _).mono ?_; rintro e w1 ⟨rfl, rfl⟩)
        go_ret
        exact ⟨by rw [HE.out]; rfl, (by repeat (first | (with_reducible exact Below.refl _ _) | (with_reducible assumption) | ((with_reducible refine Below.setCell ?_ ?_ _); rotate_left; · (first | exact Nat.le_refl _ | (simp; done) | (simp; omega) | omega)) | ((with_reducible refine Below.alloc ?_ ?_ _); rotate_left; · (first | exact Nat.le_refl _ | (simp; done) | (simp; omega) | omega)) | (with_reducible apply Below.drew) | (with_reducible apply below_drewN') | (refine Below.trans ?_ (Below.mono (by assumption) (by first | exact Nat.le_refl _ | (simp; done) | (simp; omega) | omega))) | exact Below.refl _ _ | assumption))⟩
      · go_wp2_with (go_at_call 60; refine (within_any _ _ _ _).mono ?_; rintro e w1 ⟨rfl, rfl⟩)
        go_round
        case rel => exact .inr (.inl ⟨rfl, Lib.hid (by first | exact hq | trivial)⟩)
        case measure => simp [intOf]
    · cases hq : wi t.til 0 1000000
      · have HE : Hid (trackE t = 2) := by unfold trackE; rw [h1.out, hq]; rfl
        go_wp2_with (go_at_call 60; refine (within_any _ _ _ _).mono ?_; rintro e w1 ⟨rfl, rfl⟩)
        go_ret
        exact ⟨by rw [HE.out]; rfl, (by repeat (first | (with_reducible exact Below.refl _ _) | (with_reducible assumption) | ((with_reducible refine Below.setCell ?_ ?_ _); rotate_left; · (first | exact Nat.le_refl _ | (simp; done) | (simp; omega) | omega)) | ((with_reducible refine Below.alloc ?_ ?_ _); rotate_left; · (first | exact Nat.le_refl _ | (simp; done) | (simp; omega) | omega)) | (with_reducible apply Below.drew) | (with_reducible apply below_drewN') | (refine Below.trans ?_ (Below.mono (by assumption) (by first | exact Nat.le_refl _ | (simp; done) | (simp; omega) | omega))) | exact Below.refl _ _ | assumption))⟩
      · go_wp2_with (go_at_call 60; refine (within_any _ _ _ _).mono ?_; rintro e w1 ⟨rfl, rfl⟩)
        go_round
        case rel => exact .inr (.inr (.inl ⟨rfl, h1, Lib.hid (by first | exact hq | trivial)⟩))
        case measure => simp [intOf]
    · cases hq : wi t.slip 0 1000000
      · have HE : Hid (trackE t = 2) := by unfold trackE; rw [h1.out, h2.out, hq]; rfl
        go_wp2_with (go_at_call 60; refine (within_any _ _ _ _).mono ?_; rintro e w1 ⟨rfl, rfl⟩)
        go_ret
        exact ⟨by rw [HE.out]; rfl, (by repeat (first | (with_reducible exact Below.refl _ _) | (with_reducible assumption) | ((with_reducible refine Below.setCell ?_ ?_ _); rotate_left; · (first | exact Nat.le_refl _ | (simp; done) | (simp; omega) | omega)) | ((with_reducible refine Below.alloc ?_ ?_ _); rotate_left; · (first | exact Nat.le_refl _ | (simp; done) | (simp; omega) | omega)) | (with_reducible apply Below.drew) | (with_reducible apply below_drewN') | (refine Below.trans ?_ (Below.mono (by assumption) (by first | exact Nat.le_refl _ | (simp; done) | (simp; omega) | omega))) | exact Below.refl _ _ | assumption))⟩
      · go_wp2_with (go_at_call 60; refine (within_any _ _ _ _).mono ?_; rintro e w1 ⟨rfl, rfl⟩)
        go_round
        case rel => exact .inr (.inr (.inr (.inl ⟨rfl, h1, h2, Lib.hid (by first | exact hq | trivial)⟩)))
        case measure => simp [intOf]
    · cases hq : wi t.reach 0 1000000
      · have HE : Hid (trackE t = 2) := by unfold trackE; rw [h1.out, h2.out, h3.out, hq]; rfl
        go_wp2_with (go_at_call 60; refine (within_any _ _ _ _).mono ?_; rintro e w1 ⟨rfl, rfl⟩)
        go_ret
        exact ⟨by rw [HE.out]; rfl, (by repeat (first | (with_reducible exact Below.refl _ _) | (with_reducible assumption) | ((with_reducible refine Below.setCell ?_ ?_ _); rotate_left; · (first | exact Nat.le_refl _ | (simp; done) | (simp; omega) | omega)) | ((with_reducible refine Below.alloc ?_ ?_ _); rotate_left; · (first | exact Nat.le_refl _ | (simp; done) | (simp; omega) | omega)) | (with_reducible apply Below.drew) | (with_reducible apply below_drewN') | (refine Below.trans ?_ (Below.mono (by assumption) (by first | exact Nat.le_refl _ | (simp; done) | (simp; omega) | omega))) | exact Below.refl _ _ | assumption))⟩
      · go_wp2_with (go_at_call 60; refine (within_any _ _ _ _).mono ?_; rintro e w1 ⟨rfl, rfl⟩)
        go_round
        case rel => exact .inr (.inr (.inr (.inr ⟨rfl, h1, h2, h3, Lib.hid (by first | exact hq | trivial)⟩)))
        case measure => simp [intOf]
    · have HE : Hid (trackE t = if t.til < t.frm then 9 else 0) := by unfold trackE; rw [h1.out, h2.out, h3.out, h4.out]; rfl
      go_wp2
      all_goals
        go_ret
        refine ⟨?_, (by repeat (first | (with_reducible exact Below.refl _ _) | (with_reducible assumption) | ((with_reducible refine Below.setCell ?_ ?_ _); rotate_left; · (first | exact Nat.le_refl _ | (simp; done) | (simp; omega) | omega)) | ((with_reducible refine Below.alloc ?_ ?_ _); rotate_left; · (first | exact Nat.le_refl _ | (simp; done) | (simp; omega) | omega)) | (with_reducible apply Below.drew) | (with_reducible apply below_drewN') | (refine Below.trans ?_ (Below.mono (by assumption) (by first | exact Nat.le_refl _ | (simp; done) | (simp; omega) | omega))) | exact Below.refl _ _ | assumption))⟩
        rw [HE.out]
        show Ending.returned (Value.int _ _) = _
        congr 2
        grind
end Go.Proofs.YtlnkgjkjdllckaaGreatDoor
