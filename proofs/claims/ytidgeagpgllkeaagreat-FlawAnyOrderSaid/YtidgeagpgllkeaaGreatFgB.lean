/- Contract: the reference's amplitude of a cell. -/
import Derived.Test.YtidgeagpgllkeaaGreatFgA
namespace Go.Proofs.YtidgeagpgllkeaaGreat
open Go.RowKit

theorem atV_take {l : List Sc} {k : Nat} (h : k < l.length) (r c : Int) : atV (l.take (k + 1)) r c = atS (atV (l.take k) r c) l[k] r c := by
  rw [List.take_succ_eq_append_getElem h, atV_snoc]
theorem inB_idx {s : Sc} (h : ScGood s) {r c : Int} (hi : inB s r c = true) : ∃ x : Nat, (r - s.row) * s.cols + (c - s.col) = x ∧ x < s.data.length ∧ datV s r c = s.data[x]?.getD 0 ∧ 0 ≤ (r - s.row) * s.cols ∧ (r - s.row) * s.cols ≤ 1000 ∧ 0 ≤ c - s.col ∧ c - s.col ≤ 24 ∧ 0 ≤ r - s.row ∧ r - s.row ≤ 24 := by
  simp [inB, wi] at hi
  obtain ⟨⟨a1, a2⟩, a3, a4⟩ := hi
  have h1 := h.rows
  have h2 := h.cols
  have h3 := h.len
  have m0 : 0 ≤ (r - s.row) * s.cols := Int.mul_nonneg (by omega) (by omega)
  have m1 : (r - s.row) * s.cols ≤ (s.rows - 1) * s.cols := Int.mul_le_mul_of_nonneg_right (by omega) (by omega)
  have m2 : (s.rows - 1) * s.cols = s.rows * s.cols - s.cols := by rw [Int.sub_mul]; omega
  have m3 : (r - s.row) * s.cols ≤ 24 * 24 := Int.mul_le_mul (by omega) (by omega) (by omega) (by omega)
  refine ⟨((r - s.row) * s.cols + (c - s.col)).toNat, by omega, by omega, rfl, m0, by omega, by omega, by omega, by omega, by omega⟩

set_option maxRecDepth 100000 in
set_option maxHeartbeats 4000000 in
theorem refAt_any (l : List Sc) (A : Option Addr) (cap B : Nat) (r c : Int) (w : World) (hl : ScOk l A B w) (hB : B ≤ w.heap.size) (hgood : Hid (∀ s ∈ l, ScGood s)) (hr : -1000000 ≤ r ∧ r ≤ 1000000) (hcc : -1000000 ≤ c ∧ c ≤ 1000000) :
    Calls Tryz.prog 51 #[.slice A l.length cap, .agg #[.int .i64 r, .int .i64 c]] w fun e w' => e = .returned (.int .i64 (atV l r c)) ∧ Below w.heap.size w w' := by
  have hn := hl.len
  have b3 := Blk.new w 25 #[.int .i64 r, .int .i64 c]
  have hBB : Below w.heap.size w (w.alloc (.cells #[.int .i64 r, .int .i64 c] 25)) := (by repeat (first | (with_reducible exact Below.refl _ _) | (with_reducible assumption) | ((with_reducible refine Below.setCell ?_ ?_ _); rotate_left; · (first | exact Nat.le_refl _ | (simp; done) | (simp; omega) | omega)) | ((with_reducible refine Below.alloc ?_ ?_ _); rotate_left; · (first | exact Nat.le_refl _ | (simp; done) | (simp; omega) | omega)) | (with_reducible apply Below.drew) | (with_reducible apply below_drewN') | (refine Below.trans ?_ (Below.mono (by assumption) (by first | exact Nat.le_refl _ | (simp; done) | (simp; omega) | omega))) | exact Below.refl _ _ | assumption))
  go_enter Tryz.func51, Tryz.ntmps51
  go_wp2
  generalize (w.alloc (.cells #[.int .i64 r, .int .i64 c] 25)) = W at *
  go_loopw [5, 6] (fun b i wr => ∃ k : Nat, k ≤ l.length ∧ i = .int .i64 k ∧ b = .int .i64 (atV (l.take k) r c) ∧ Blk wr w.heap.size 25 #[.int .i64 r, .int .i64 c] ∧ Below w.heap.size w wr) (fun _ i _ => l.length - (intOf i).toNat)
  case atStart => exact ⟨0, Nat.zero_le _, rfl, rfl, b3, hBB⟩
  case round =>
    clear b3 hBB
    obtain ⟨k, hk, rfl, rfl, b3, hBB⟩ := hrel
    obtain ⟨e0, e1, f3⟩ := blk2c b3
    have lb := b3.lt
    by_cases hlt : k < l.length
    · have hl' := hl.below hBB hB
      obtain ⟨g, o, hA, hg, c0, c1, c2, c3, c4⟩ := scCells hl'.row hlt
      have hmem := List.getElem_mem hlt
      have hG := hgood.out _ hmem
      have hdat := hl'.data _ hmem
      have hst := atV_take hlt r c
      have hIX := fun hi => inB_idx hG (r := r) (c := c) hi
      have hin : inB l[k] r c = (wi (r - l[k].row) 0 (l[k].rows - 1) && wi (c - l[k].col) 0 (l[k].cols - 1)) := rfl
      have g1 := hG.row
      have g2 := hG.col
      have g3 := hG.rows
      have g4 := hG.cols
      have HST : Hid ((inB l[k] r c = false → atV (l.take (k + 1)) r c = atV (l.take k) r c) ∧ (inB l[k] r c = true → atV (l.take (k + 1)) r c = max (atV (l.take k) r c) (datV l[k] r c))) := Lib.hid ⟨fun h => by rw [hst]; unfold atS; rw [h]; rfl, fun h => by rw [hst]; unfold atS; rw [h]; rfl⟩
      have HIN := Lib.hid hin
      have HIX := Lib.hid hIX
      clear hst hin hIX hG hmem
      generalize l[k] = s at *
      generalize atV (l.take k) r c = b at *
      subst hA
      cases h1 : wi (r - s.row) 0 (s.rows - 1)
      · have HE := Lib.hid (HST.out.1 (by rw [HIN.out, h1]; rfl))
        have H1 := Lib.hid h1; clear h1 HST HIX
        go_wp2_with fail
        go_quiet (fail)
        go_wp2_with (go_at_call 27; refine (bWithin_any _ _ _ _).mono ?_; rw [H1.out]; rintro e w1 ⟨rfl, rfl⟩)
        exact ⟨⟨k + 1, by omega, by go_num, by rw [HE.out], b3.drewN _, below_drewN' hBB _⟩, by simp [intOf]; omega⟩
      · cases h2 : wi (c - s.col) 0 (s.cols - 1)
        · have HE := Lib.hid (HST.out.1 (by rw [HIN.out, h1, h2]; rfl))
          have H1 := Lib.hid h1; have H2 := Lib.hid h2; clear h1 h2 HST HIX
          go_wp2_with fail
          go_quiet (fail)
          go_wp2_with (go_at_call 27; refine (bWithin_any _ _ _ _).mono ?_; (first | rw [H1.out] | rw [H2.out]); rintro e w1 ⟨rfl, rfl⟩)
          exact ⟨⟨k + 1, by omega, by go_num, by rw [HE.out], b3.drewN _, below_drewN' hBB _⟩, by simp [intOf]; omega⟩
        · have hi : inB s r c = true := by rw [HIN.out, h1, h2]; rfl
          have HE := Lib.hid (HST.out.2 hi)
          obtain ⟨x, hx, hxl, hdv, m0, m1, m2, m3, m4, m5⟩ := HIX.out hi
          obtain ⟨g2, o2, hA2, hg2, d0⟩ := intCell hdat hxl
          have HDV : Hid (datV s r c = s.data[x]) := Lib.hid (by rw [hdv, List.getElem?_eq_getElem hxl]; rfl)
          have H1 := Lib.hid h1; have H2 := Lib.hid h2; clear h1 h2 HST HIX hi hdv hdat
          rw [HDV.out] at HE
          generalize s.data[x] = dv at *
          generalize s.data.length = dl at *
          generalize s.dA = dA at *
          generalize s.dcap = dc at *
          subst hA2
          have hg2w : g2 < wr.heap.size := by have := Below.size hBB; omega
          have hxI : (x : Int) < (dl : Int) := by omega
          go_wp2_with fail
          go_quiet (fail)
          go_wp2_with (go_at_call 27; refine (bWithin_any _ _ _ _).mono ?_; (first | rw [H1.out] | rw [H2.out]); rintro e w1 ⟨rfl, rfl⟩)
          go_quiet (fail)
          go_wp2
          exact ⟨⟨k + 1, by omega, by go_num, by rw [HE.out], b3.drewN _, below_drewN' hBB _⟩, by simp [intOf]; omega⟩
    · obtain rfl : k = l.length := by omega
      rw [List.take_length]
      go_wp2
      go_ret
      exact ⟨rfl, hBB⟩
end Go.Proofs.YtidgeagpgllkeaaGreat
