/- Contracts: few scans; the reference's error of scans. -/
import Derived.Deep.DeepCutAuto
import Derived.Test.YtclpljbllnhhbaaGreatZeFaE
namespace Go.Proofs.YtclpljbllnhhbaaGreat
open Go.RowKit

def fewB (l : List Sc) : Bool := if (4 < l.length ∧ l.length ≤ 6) ∨ 8 < l.length then false else l.all (fun s => decide (s.data.length ≤ 36))

set_option maxHeartbeats 400000 in
theorem isLevel_any (n : Int) (w : World) : Calls Tryz.prog 23 #[.int .i64 n] w fun e w' => e = .returned (.bool (wi n 0 1000000000)) ∧ w = w' := by
  go_enter Tryz.func23, Tryz.ntmps23
  go_wp2_with (go_at_call 7; refine (bWithin_any _ _ _ _).mono ?_; rintro e w1 ⟨rfl, rfl⟩)
  go_ret
  exact ⟨rfl, rfl⟩

theorem blk5s {w : World} {g t : Nat} {v0 v1 v2 v3 v4 : Value} (h : Blk w g t #[v0, v1, v2, v3, v4]) :
    w.cell? ⟨g, 0, none⟩ = some v0 ∧ w.cell? ⟨g, 1, none⟩ = some v1 ∧ w.cell? ⟨g, 2, none⟩ = some v2 ∧ w.cell? ⟨g, 3, none⟩ = some v3 ∧ w.cell? ⟨g, 4, none⟩ = some v4 ∧ ∀ i, w.frozen? ⟨g, i, none⟩ = false :=
  ⟨h.cell 0, h.cell 1, h.cell 2, h.cell 3, h.cell 4, h.frozen⟩

set_option maxRecDepth 100000 in
set_option maxHeartbeats 1000000 in
theorem refScanErr_any (s : Sc) (B : Nat) (w : World) (hdat : Row w B 1 s.dA s.data.length (intsC s.data)) (hds : s.data.length ≤ 1000000000) (hB : B ≤ w.heap.size) :
    Calls Tryz.prog 24 #[.agg (scC s).toArray] w fun e w' => e = .returned (.int .i64 (scanE s)) ∧ Below w.heap.size w w' := by
  have hS0 : Hid ((wi s.row (-100000) 100000 = false ∨ (wi s.row (-100000) 100000 = true ∧ wi s.col (-100000) 100000 = false) ∨ (wi s.row (-100000) 100000 = true ∧ wi s.col (-100000) 100000 = true ∧ wi s.rows 1 24 = false) ∨
    (wi s.row (-100000) 100000 = true ∧ wi s.col (-100000) 100000 = true ∧ wi s.rows 1 24 = true ∧ wi s.cols 1 24 = false)) ∧ scanE s = 2 ∨ (wi s.row (-100000) 100000 = true ∧ wi s.col (-100000) 100000 = true ∧ wi s.rows 1 24 = true ∧ wi s.cols 1 24 = true)) := Lib.hid (by
      unfold scanE
      cases wi s.row (-100000) 100000 <;> cases wi s.col (-100000) 100000 <;> cases wi s.rows 1 24 <;> cases wi s.cols 1 24 <;> simp)
  have b1 := Blk.new w 32 (scC s).toArray
  have hBB : Below w.heap.size w (w.alloc (.cells (scC s).toArray 32)) := (by repeat (first | (with_reducible exact Below.refl _ _) | (with_reducible assumption) | ((with_reducible refine Below.setCell ?_ ?_ _); rotate_left; · (first | exact Nat.le_refl _ | (simp; done) | (simp; omega) | omega)) | ((with_reducible refine Below.alloc ?_ ?_ _); rotate_left; · (first | exact Nat.le_refl _ | (simp; done) | (simp; omega) | omega)) | (with_reducible apply Below.drew) | (with_reducible apply below_drewN') | (refine Below.trans ?_ (Below.mono (by assumption) (by first | exact Nat.le_refl _ | (simp; done) | (simp; omega) | omega))) | exact Below.refl _ _ | assumption))
  go_enter Tryz.func24, Tryz.ntmps24
  go_upto_region 1 with fail
  obtain ⟨W, hW⟩ : ∃ W, w.alloc (.cells (scC s).toArray 32) = W := ⟨_, rfl⟩
  rw [hW] at b1 hBB
  try rw [hW]
  have hzW : w.heap.size < W.heap.size := b1.lt
  obtain ⟨c0, c1, c2, c3, c4, f0⟩ := blk5s b1
  rcases hS0.out with ⟨hq, he⟩ | ⟨q1, q2, q3, q4⟩
  · have HE := Lib.hid he
    clear hS0 he hW
    rcases hq with q1 | ⟨q1, q2⟩ | ⟨q1, q2, q3⟩ | ⟨q1, q2, q3, q4⟩
    all_goals
      go_wp2_with (go_at_call 7; refine (bWithin_any _ _ _ _).mono ?_; rintro e w1 ⟨rfl, rfl⟩)
      go_ret
      exact ⟨by rw [HE.out]; rfl, hBB⟩
  · clear hS0 hW
    have p3 : 1 ≤ s.rows ∧ s.rows ≤ 24 := by simpa [wi] using q3
    have p4 : 1 ≤ s.cols ∧ s.cols ≤ 24 := by simpa [wi] using q4
    have hm := mul_bd0 (show 0 ≤ s.rows by omega) p3.2 (show 0 ≤ s.cols by omega) p4.2
    by_cases hsh : (s.data.length : Int) = s.rows * s.cols
    · have hsh' : ((s.data.length : Int) != s.rows * s.cols) = false := by simpa using hsh
      have HD : Hid (scanE s = if s.data.all (fun n => wi n 0 1000000000) then 0 else 2) := Lib.hid (scanE_data q1 q2 q3 q4 hsh)
      clear hsh
      go_wp2_with (go_at_call 7; refine (bWithin_any _ _ _ _).mono ?_; rintro e w1 ⟨rfl, rfl⟩)
      go_loopw [3] (fun j w2 => ∃ m : Nat, m ≤ s.data.length ∧ j = .int .i64 m ∧ Hid (∀ i (h : i < s.data.length), i < m → wi s.data[i] 0 1000000000 = true) ∧ w2 = W) (fun j _ => s.data.length - (intOf j).toNat)
      case atStart => exact ⟨0, Nat.zero_le _, rfl, Lib.hid (fun j _ hj => absurd hj (by omega)), rfl⟩
      case round =>
        obtain ⟨m, hm', rfl, HJ, hwW⟩ := hrel
        subst hwW
        have hdat2 := hdat.below hBB hB
        by_cases hlt2 : m < s.data.length
        · obtain ⟨g2, o2, hA2, hg2, d0⟩ := intCell hdat2 hlt2
          have HX : Hid (wi s.data[m] 0 1000000000 = false → scanE s = 2) := Lib.hid (fun h => by
            rw [HD.out, if_neg]
            intro hall
            have := List.all_eq_true.1 hall _ (List.getElem_mem hlt2)
            rw [h] at this; cases this)
          have HY : Hid (wi s.data[m] 0 1000000000 = true → ∀ i (h : i < s.data.length), i < m + 1 → wi s.data[i] 0 1000000000 = true) := Lib.hid (fun h i hi him => by
            by_cases e : i = m
            · subst e; exact h
            · exact HJ.out i hi (by omega))
          generalize s.data[m] = x at *
          rw [hA2] at c4
          clear hA2
          cases hx : wi x 0 1000000000
          · have HE := Lib.hid (HX.out hx)
            have HW := Lib.hid hx
            clear hx HX HY
            go_wp2_with (go_at_call 23; refine (isLevel_any _ _).mono ?_; rw [HW.out]; rintro e w1 ⟨rfl, rfl⟩)
            go_ret
            exact ⟨by rw [HE.out]; rfl, hBB⟩
          · have HY2 := Lib.hid (HY.out hx)
            have HW := Lib.hid hx
            clear hx HX HY
            go_wp2_with (go_at_call 23; refine (isLevel_any _ _).mono ?_; rw [HW.out]; rintro e w1 ⟨rfl, rfl⟩)
            refine ⟨⟨m + 1, by omega, by go_num, HY2, (by trivial)⟩, by simp [intOf]; omega⟩
        · obtain rfl : m = s.data.length := by omega
          have HE : Hid (scanE s = 0) := Lib.hid (by
            rw [HD.out, if_pos]
            rw [List.all_eq_true]
            intro x hx
            obtain ⟨i, hi, rfl⟩ := List.getElem_of_mem hx
            exact HJ.out i hi hi)
          go_wp2
          go_ret
          exact ⟨by rw [HE.out]; rfl, hBB⟩
    · have hsh' : ((s.data.length : Int) != s.rows * s.cols) = true := by simpa using hsh
      have HE : Hid (scanE s = 10) := Lib.hid (by unfold scanE; rw [q1, q2, q3, q4]; simp [hsh])
      clear hsh
      go_wp2_with (go_at_call 7; refine (bWithin_any _ _ _ _).mono ?_; rintro e w1 ⟨rfl, rfl⟩)
      go_ret
      exact ⟨by rw [HE.out]; rfl, hBB⟩

set_option maxRecDepth 100000 in
set_option maxHeartbeats 1000000 in
theorem refCheckScans_any (l : List Sc) (A : Option Addr) (c B : Nat) (w : World) (hl : ScOk l A B w) (hB : B ≤ w.heap.size) :
    Calls Tryz.prog 8 #[.slice A l.length c] w fun e w' => e = .returned (.tuple #[.int .i64 (scansE l).1, .int .i64 (scansE l).2]) ∧ Below w.heap.size w w' := by
  have hn := hl.len
  by_cases h6 : 6 < l.length
  · have HE : Hid (scansE l = (0, 8)) := Lib.hid (by unfold scansE; rw [if_pos h6])
    have h6' : decide ((6 : Int) < (l.length : Int)) = true := by simp; omega
    go_enter Tryz.func8, Tryz.ntmps8
    go_wp2
    go_ret2
    exact ⟨by rw [HE.out]; rfl, (by repeat (first | (with_reducible exact Below.refl _ _) | (with_reducible assumption) | ((with_reducible refine Below.setCell ?_ ?_ _); rotate_left; · (first | exact Nat.le_refl _ | (simp; done) | (simp; omega) | omega)) | ((with_reducible refine Below.alloc ?_ ?_ _); rotate_left; · (first | exact Nat.le_refl _ | (simp; done) | (simp; omega) | omega)) | (with_reducible apply Below.drew) | (with_reducible apply below_drewN') | (refine Below.trans ?_ (Below.mono (by assumption) (by first | exact Nat.le_refl _ | (simp; done) | (simp; omega) | omega))) | exact Below.refl _ _ | assumption))⟩
  · have h6' : l.length ≤ 6 := by omega
    clear h6
    go_enter Tryz.func8, Tryz.ntmps8
    go_wp2
    go_loopw [4] (fun i wr => ∃ k : Nat, k ≤ l.length ∧ i = .int .i64 k ∧ Hid (∀ j (h : j < l.length), j < k → scanE l[j] = 0) ∧ Below w.heap.size w wr) (fun i _ => l.length - (intOf i).toNat)
    case atStart => exact ⟨0, Nat.zero_le _, rfl, Lib.hid (fun j _ hj => absurd hj (by omega)), Below.refl _ _⟩
    case round =>
      obtain ⟨k, hk, rfl, HI, hBB⟩ := hrel
      have hl' := hl.below hBB hB
      by_cases hlt : k < l.length
      · obtain ⟨g, o, hA, hg, c0, c1, c2, c3, c4⟩ := scCells hl'.row hlt
        have hzb := Below.size hBB
        have HC := fun w' (hw : Below wr.heap.size wr w') => refScanErr_any l[k] B w' ((hl'.data l[k] (List.getElem_mem hlt)).below hw (by omega)) (hl'.size l[k] (List.getElem_mem hlt)) (by have := Below.size hw; omega)
        have HAT : Hid (scanE l[k] ≠ 0 → scansE l = ((k : Int), scanE l[k])) := Lib.hid (fun he => scansE_at h6' hlt HI.out he)
        have HNX : Hid (scanE l[k] = 0 → ∀ j (h : j < l.length), j < k + 1 → scanE l[j] = 0) := Lib.hid (fun he j hj hjk => by
          by_cases hjk' : j = k
          · subst hjk'; exact he
          · exact HI.out j hj (by omega))
        generalize l[k] = s at *
        obtain ⟨E, hE⟩ : ∃ E, scanE s = E := ⟨_, rfl⟩
        rw [hE] at HC HAT HNX
        clear hE
        subst hA
        go_wp2_with fail
        refine (HC _ (Below.refl _ _)).mono ?_
        rintro e w1 ⟨rfl, hB1⟩
        replace hBB := hBB.trans (hB1.mono hzb)
        clear hB1 HC
        by_cases h0 : E = 0
        · subst h0
          have HX := Lib.hid (HNX.out rfl)
          clear HNX HAT
          go_wp2
          refine ⟨⟨k + 1, by omega, by go_num, HX, hBB⟩, by simp [intOf]; omega⟩
        · have h0' : (E != 0) = true := by simpa using h0
          have HX := Lib.hid (HAT.out h0)
          clear HNX HAT
          go_wp2
          go_ret2
          exact ⟨by rw [HX.out]; rfl, hBB⟩
      · obtain rfl : k = l.length := by omega
        have HE : Hid (scansE l = (0, 0)) := Lib.hid (scansE_end h6' (fun j hj => HI.out j hj hj))
        go_wp2
        go_ret2
        exact ⟨by rw [HE.out]; rfl, hBB⟩
end Go.Proofs.YtclpljbllnhhbaaGreat
