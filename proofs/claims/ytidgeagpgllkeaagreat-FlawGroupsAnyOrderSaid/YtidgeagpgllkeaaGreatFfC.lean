/- Contracts: the hull of marks. -/
import Derived.Test.YtidgeagpgllkeaaGreatFcG
import Derived.Test.YtidgeagpgllkeaaGreatFeD
namespace Go.Proofs.YtidgeagpgllkeaaGreat
open Go.RowKit

theorem Blk.far6 {w : World} {g x t : Nat} {cs : Array Value} (h : Blk w g t cs) (hx : g ≠ x) (u0 u1 u2 u3 u4 u5 : Value) :
    Blk ((((((w.setCell ⟨x, 0, none⟩ u0).setCell ⟨x, 1, none⟩ u1).setCell ⟨x, 2, none⟩ u2).setCell ⟨x, 3, none⟩ u3).setCell ⟨x, 4, none⟩ u4).setCell ⟨x, 5, none⟩ u5) g t cs :=
  (((((h.far hx u0).far hx u1).far hx u2).far hx u3).far hx u4).far hx u5
abbrev mk0 : Mk := ⟨⟨#[]⟩, 0, 0, 0, 0, 0⟩
/-- The hull of the first k marks. -/
def hullP (l : List Mk) (k : Nat) : Mk := (l.take k).foldl hullV (l[0]?.getD mk0)
theorem hullP_zero {l : List Mk} (h : 0 < l.length) : hullP l 0 = l[0] := by simp [hullP, h]
theorem hullP_succ {l : List Mk} {k : Nat} (h : k < l.length) : hullP l (k + 1) = hullV (hullP l k) l[k] := by
  unfold hullP
  rw [List.take_succ_eq_append_getElem h, List.foldl_append]; rfl
def hullE (l : List Mk) : Mk × Int :=
  if firstE [(marksE l).2, unlessE (decide (0 < l.length)) 10] = 0 then (hullP l l.length, 0) else (mk0, firstE [(marksE l).2, unlessE (decide (0 < l.length)) 10])

set_option maxRecDepth 100000 in
set_option maxHeartbeats 1000000 in
theorem hullOf_any (l : List Mk) (A : Option Addr) (c B : Nat) (w : World) (hl : MkOk l A B w) (hcap : l.length ≤ c) (hB : B ≤ w.heap.size) :
    Calls Tryz.prog 60 #[.slice A l.length c] w fun e w' => e = .returned (.tuple #[.agg (mkC (hullE l).1), .int .i64 (hullE l).2]) ∧ Below w.heap.size w w' := by
  have hn := hl.len
  have hHE : hullE l = if firstE [(marksE l).2, unlessE (decide (0 < l.length)) 10] = 0 then (hullP l l.length, 0) else (mk0, firstE [(marksE l).2, unlessE (decide (0 < l.length)) 10]) := rfl
  obtain ⟨E, hE⟩ : ∃ E, firstE [(marksE l).2, unlessE (decide (0 < l.length)) 10] = E := ⟨_, rfl⟩
  rw [hE] at hHE
  have HHE := Lib.hid hHE; clear hHE
  have HE := Lib.hid hE; clear hE
  have b2 := Blk.new w 79 (mkC mk0)
  have hBB : Below w.heap.size w (w.alloc (.cells (mkC mk0) 79)) := (by repeat (first | (with_reducible exact Below.refl _ _) | (with_reducible assumption) | ((with_reducible refine Below.setCell ?_ ?_ _); rotate_left; · (first | exact Nat.le_refl _ | (simp; done) | (simp; omega) | omega)) | ((with_reducible refine Below.alloc ?_ ?_ _); rotate_left; · (first | exact Nat.le_refl _ | (simp; done) | (simp; omega) | omega)) | (with_reducible apply Below.drew) | (with_reducible apply below_drewN') | (refine Below.trans ?_ (Below.mono (by assumption) (by first | exact Nat.le_refl _ | (simp; done) | (simp; omega) | omega))) | exact Below.refl _ _ | assumption))
  go_enter Tryz.func60, Tryz.ntmps60
  go_upto_region 1 with fail
  obtain ⟨W, hW⟩ : ∃ W, w.alloc (.cells (mkC mk0) 79) = W := ⟨_, rfl⟩
  rw [hW] at b2 hBB
  try rw [hW]
  clear hW
  have l_b2 := b2.lt
  obtain ⟨d0, d1, d2, d3, d4, d5, f2⟩ := blk6 b2
  go_wp2_with fail
  refine (listErr_any l A c B _ (hl.below hBB hB) hcap (by have := Below.size hBB; omega)).mono ?_
  rintro e wc1 ⟨rfl, hBc1⟩
  replace b2 := b2.gr hBc1
  replace hBB := hBB.trans (Below.mono hBc1 (Below.size hBB))
  clear hBc1
  clear l_b2 d0 d1 d2 d3 d4 d5 f2
  have l_b2 := b2.lt
  obtain ⟨d0, d1, d2, d3, d4, d5, f2⟩ := blk6 b2
  go_wp2_with fail
  refine (unless_any _ _ _).mono ?_
  rintro e wq ⟨rfl, rfl⟩
  go_wp2_with fail
  refine (first2_any _ _ _ _).mono ?_
  rw [HE.out]
  rintro e wc2 ⟨rfl, hBc2⟩
  replace b2 := b2.gr hBc2
  replace hBB := hBB.trans (Below.mono hBc2 (Below.size hBB))
  clear hBc2
  clear l_b2 d0 d1 d2 d3 d4 d5 f2
  have l_b2 := b2.lt
  obtain ⟨d0, d1, d2, d3, d4, d5, f2⟩ := blk6 b2
  by_cases h0 : E = 0
  · have hz := (firstE_zero _).1 (HE.out.trans h0)
    have hpos : 0 < l.length := by
      have := unlessE_zero (by decide) (hz (unlessE (decide (0 < l.length)) 10) (by simp))
      simp at this; exact this
    have HV : Hid (hullE l = (hullP l l.length, 0)) := Lib.hid (by rw [HHE.out, if_pos h0])
    subst h0
    have hl' := hl.below hBB hB
    obtain ⟨g, o, hA, hg, c0, c1, c2, c3, c4, c5⟩ := mkCells hl'.row hpos
    have hP0 := hullP_zero hpos
    obtain ⟨m, hm⟩ : ∃ m, l[0] = m := ⟨_, rfl⟩
    rw [hm] at c0 c1 c2 c3 c4 c5 hP0
    simp only [Nat.zero_mul, Nat.add_zero] at c0 c1 c2 c3 c4 c5
    clear hm
    subst hA
    go_wp2
    have hz5 := Below.size hBB
    have hlt5 : w.heap.size < wc2.heap.size := b2.lt
    have b5 := Blk.new wc2 79 (mkC m)
    replace b2 := b2.alloc (.cells (mkC m) 79 (0, 0))
    replace hBB := hBB.alloc (Below.size hBB) (.cells (mkC m) 79 (0, 0))
    clear l_b2 d0 d1 d2 d3 d4 d5 f2
    have l_b2 := b2.lt
    have l_b5 := b5.lt
    obtain ⟨d0, d1, d2, d3, d4, d5, f2⟩ := blk6 b2
    obtain ⟨e0, e1, e2, e3, e4, e5, f5⟩ := blk6 b5
    have hw5 : w.heap.size ≤ wc2.heap.size := hz5
    have hBBx := hBB
    generalize hNN : wc2.heap.size = N at *
    generalize (wc2.alloc (.cells (mkC m) 79)) = wx at *
    clear l_b2 d0 d1 d2 d3 d4 d5 f2 l_b5 e0 e1 e2 e3 e4 e5 f5
    go_loopw [25] (fun i wr => ∃ k : Nat, k ≤ l.length ∧ i = .int .i64 k ∧ Blk wr w.heap.size 79 (mkC mk0) ∧ Blk wr N 79 (mkC (hullP l k)) ∧ Below w.heap.size w wr) (fun i _ => l.length - (intOf i).toNat)
    case atStart => exact ⟨0, Nat.zero_le _, rfl, b2, by rw [hP0]; exact b5, hBB⟩
    case round =>
      clear b2 b5 hBB hBBx c0 c1 c2 c3 c4 c5
      obtain ⟨k, hk, rfl, b2, b5, hBB⟩ := hrel
      have l_b2 := b2.lt
      have l_b5 := b5.lt
      obtain ⟨d0, d1, d2, d3, d4, d5, f2⟩ := blk6 b2
      obtain ⟨e0, e1, e2, e3, e4, e5, f5⟩ := blk6 b5
      by_cases hlt : k < l.length
      · obtain ⟨g', o', hA', hg', c0, c1, c2, c3, c4, c5⟩ := mkCells (hl.below hBB hB).row hlt
        obtain ⟨rfl, rfl⟩ : g = g' ∧ o = o' := by injection hA' with h; injection h with h1 h2 h3; exact ⟨h1, h2⟩
        have hPk := hullP_succ hlt
        generalize hullP l k = P at *
        generalize l[k] = q at *
        go_wp2_with fail
        have b7 := Blk.new wr 79 (mkC q)
        replace b2 := b2.alloc (.cells (mkC q) 79 (0, 0))
        replace b5 := b5.alloc (.cells (mkC q) 79 (0, 0))
        replace hBB := hBB.alloc (Below.size hBB) (.cells (mkC q) 79 (0, 0))
        clear l_b2 d0 d1 d2 d3 d4 d5 f2 l_b5 e0 e1 e2 e3 e4 e5 f5
        have l_b2 := b2.lt
        have l_b5 := b5.lt
        have l_b7 := b7.lt
        obtain ⟨d0, d1, d2, d3, d4, d5, f2⟩ := blk6 b2
        obtain ⟨e0, e1, e2, e3, e4, e5, f5⟩ := blk6 b5
        refine (hull_any P q _).mono ?_
        rintro e w4 ⟨rfl, hB4⟩
        clear l_b2 d0 d1 d2 d3 d4 d5 f2 l_b5 e0 e1 e2 e3 e4 e5 f5 l_b7
        replace b2 := b2.gr hB4
        replace b5 := b5.gr hB4
        replace hBB := hBB.trans (Below.mono hB4 (Below.size hBB))
        clear hB4 b7
        have l_b2 := b2.lt
        have l_b5 := b5.lt
        obtain ⟨d0, d1, d2, d3, d4, d5, f2⟩ := blk6 b2
        obtain ⟨e0, e1, e2, e3, e4, e5, f5⟩ := blk6 b5
        go_wp2
        refine ⟨⟨k + 1, by omega, by go_num, b2.far6 (by omega) _ _ _ _ _ _, by rw [hPk]; exact b5.set6 _ _ _ _ _ _, Below.set6 hBB (by omega)⟩, by simp [intOf]; omega⟩
      · obtain rfl : k = l.length := by omega
        go_wp2
        have b9 := b2.set6 (.string (hullP l l.length).nm) (.int .i64 (hullP l l.length).al) (.int .i64 (hullP l l.length).ah) (.int .i64 (hullP l l.length).dl) (.int .i64 (hullP l l.length).dh) (.int .i64 (hullP l l.length).lv)
        obtain ⟨u0, u1, u2, u3, u4, u5, _⟩ := blk6 b9
        rw [HV.out]
        exact bodyPost_ret (v := .tuple #[.agg (mkC (hullP l l.length)), .int .i64 0]) (by simp [results, Tryz.results60, go_sem, u0, u1, u2, u3, u4, u5]) rfl ⟨rfl, Below.set6 hBB (Nat.le_refl _)⟩
  · have h0' : (E != 0) = true := by simpa using h0
    have HV : Hid (hullE l = (mk0, E)) := Lib.hid (by rw [HHE.out, if_neg h0])
    go_wp2
    have b9 := b2.set6 (.string ⟨#[]⟩) (.int .i64 0) (.int .i64 0) (.int .i64 0) (.int .i64 0) (.int .i64 0)
    obtain ⟨u0, u1, u2, u3, u4, u5, _⟩ := blk6 b9
    rw [HV.out]
    exact bodyPost_ret (v := .tuple #[.agg (mkC mk0), .int .i64 E]) (by simp [results, Tryz.results60, go_sem, u0, u1, u2, u3, u4, u5]) rfl ⟨rfl, Below.set6 hBB (Nat.le_refl _)⟩
end Go.Proofs.YtidgeagpgllkeaaGreat
