/- Contracts of the reference's parts for tracks: equal ranges, a position that is scanned. -/
import Derived.Laws.AppendOwnNone
import Derived.Test.YtlnkgjkjdllckaaGreatDoorZpCvV
import Derived.Test.YtlnkgjkjdllckaaGreatDoorZpCtPlain
namespace Go.Proofs.YtlnkgjkjdllckaaGreatDoor
open Go.RowKit

theorem rngsC_cells {w : World} {l : List (Int × Int)} {A : Option Addr} {B : Nat} (h : Row w B 2 A l.length (rngsC l)) {k : Nat} (hk : k < l.length) :
    ∃ g o, A = some ⟨g, o, none⟩ ∧ g < B ∧ w.cell? ⟨g, o + k * 2, none⟩ = some (.int .i64 l[k].1) ∧ w.cell? ⟨g, o + k * 2 + 1, none⟩ = some (.int .i64 l[k].2) := by
  obtain ⟨g, o, e, hg, hc⟩ := h.2 (by omega)
  have hr := rngsC_get l k l[k] (List.getElem?_eq_getElem hk)
  exact ⟨g, o, e, hg, hc _ _ hr.1, by rw [Nat.add_assoc]; exact hc _ _ hr.2⟩

set_option maxRecDepth 100000 in
set_option maxHeartbeats 1000000 in
theorem ranges_any (l m : List (Int × Int)) (A A' : Option Addr) (c c' B : Nat) (w : World) (hl : l.length ≤ 1000000000) (hm : m.length ≤ 1000000000) (hR : Row w B 2 A l.length (rngsC l)) (hR' : Row w B 2 A' m.length (rngsC m)) (hB : B ≤ w.heap.size) :
    Calls Tryz.prog 18 #[.slice A l.length c, .slice A' m.length c'] w fun e w' => e = .returned (.bool (decide (l = m))) ∧ Below w.heap.size w w' := by
  by_cases hlm : l.length = m.length
  · have h1 : ((l.length : Int) != (m.length : Int)) = false := by simp [hlm]
    have HL := Lib.hid hlm; clear hlm
    go_enter Tryz.func18, Tryz.ntmps18
    go_wp2
    clear h1
    go_loopw [5] (fun i wr => ∃ k : Nat, k ≤ l.length ∧ i = .int .i64 k ∧ Hid (l.take k = m.take k) ∧ Below w.heap.size w wr) (fun i _ => l.length - (intOf i).toNat)
    case atStart => exact ⟨0, Nat.zero_le _, rfl, rfl, Below.refl _ _⟩
    case round =>
      obtain ⟨k, hk, rfl, HK, hBr⟩ := hrel
      by_cases hlt : k < l.length
      · have hlt' : k < m.length := by have := HL.out; omega
        obtain ⟨g, o, hA, hg, r0, r1⟩ := rngsC_cells (hR.below hBr hB) hlt
        obtain ⟨g', o', hA', hg', s0, s1⟩ := rngsC_cells (hR'.below hBr hB) hlt'
        subst hA hA'
        have hsr := Below.size hBr
        have lg : g < wr.heap.size := by omega
        have lg' : g' < wr.heap.size := by omega
        have k0 : (0 : Int) ≤ (k : Int) := by omega
        have k1 : (k : Int) < (l.length : Int) := by omega
        have k2 : (k : Int) < (m.length : Int) := by omega
        have HD := Lib.hid (show l[k] = m[k] ↔ l[k].1 = m[k].1 ∧ l[k].2 = m[k].2 from ⟨fun h => by rw [h]; exact ⟨rfl, rfl⟩, fun h => Prod.ext h.1 h.2⟩)
        have HT := Lib.hid (show l[k] = m[k] → l.take (k + 1) = m.take (k + 1) from fun h => by
          have := HK.out
          rw [List.take_succ_eq_append_getElem hlt, List.take_succ_eq_append_getElem hlt', this, h])
        have HN := Lib.hid (show l[k] ≠ m[k] → decide (l = m) = false from fun h => by
          simp only [decide_eq_false_iff_not]; intro e; subst e; exact h rfl)
        generalize l[k] = p at *
        generalize m[k] = q at *
        obtain ⟨p1, p2⟩ := p
        obtain ⟨q1, q2⟩ := q
        simp only at r0 r1 s0 s1 HD
        by_cases e1 : p1 = q1
        · by_cases e2 : p2 = q2
          · have b1 : (p1 == q1) = true := by simpa using e1
            have b2 : (p2 == q2) = true := by simpa using e2
            have E1 := Lib.hid e1; have E2 := Lib.hid e2; clear e1 e2
            go_wp2_with fail
            refine wp_region_b 9 (by kernel_rfl) (by kernel_rfl) ?_; simp only [List.take, List.drop]
            repeat (first
              | (apply StepsD.run
                 · go_simp
                   done
                 · intro w' hS K hK
                   have hc := (bcell hS).1
                   have hf := (bcell hS).2
                   have hz := hS.size
                   try simp at hz
                   go_simp
                   try go_bits
                   first
                     | exact hK _ hS
                     | exact hK _ (by repeat (first | (with_reducible exact Below.refl _ _) | (with_reducible assumption) | ((with_reducible refine Below.setCell ?_ ?_ _); rotate_left; · (first | exact Nat.le_refl _ | (simp; done) | (simp; omega) | omega)) | ((with_reducible refine Below.alloc ?_ ?_ _); rotate_left; · (first | exact Nat.le_refl _ | (simp; done) | (simp; omega) | omega)) | (with_reducible apply Below.drew) | (with_reducible apply below_drewN') | (refine Below.trans ?_ (Below.mono (by assumption) (by first | exact Nat.le_refl _ | (simp; done) | (simp; omega) | omega))) | exact Below.refl _ _ | assumption))
                 · simp [Act.put]
                   done)
              | (apply StepsD.pass
                 · first | (go_simp; done) | rfl
                 · simp only [Act.put, List.setIfInBounds_toArray, List.set_cons_succ, List.set_cons_zero]
                   rfl))
            refine StepsD.done ?_
            intro w' hS
            go_wp2
            go_roundw
            case rel => exact ⟨k + 1, by omega, by go_num, Lib.hid (HT.out (HD.out.2 ⟨E1.out, E2.out⟩)), hBr.trans (hS.mono hsr)⟩
            case measure => simp [intOf]; omega
          · have b1 : (p1 == q1) = true := by simpa using e1
            have b2 : (p2 == q2) = false := by simpa using e2
            have E1 := Lib.hid e1; have E2 := Lib.hid e2; clear e1 e2
            go_wp2_with fail
            refine wp_region_b 9 (by kernel_rfl) (by kernel_rfl) ?_; simp only [List.take, List.drop]
            repeat (first
              | (apply StepsD.run
                 · go_simp
                   done
                 · intro w' hS K hK
                   have hc := (bcell hS).1
                   have hf := (bcell hS).2
                   have hz := hS.size
                   try simp at hz
                   go_simp
                   try go_bits
                   first
                     | exact hK _ hS
                     | exact hK _ (by repeat (first | (with_reducible exact Below.refl _ _) | (with_reducible assumption) | ((with_reducible refine Below.setCell ?_ ?_ _); rotate_left; · (first | exact Nat.le_refl _ | (simp; done) | (simp; omega) | omega)) | ((with_reducible refine Below.alloc ?_ ?_ _); rotate_left; · (first | exact Nat.le_refl _ | (simp; done) | (simp; omega) | omega)) | (with_reducible apply Below.drew) | (with_reducible apply below_drewN') | (refine Below.trans ?_ (Below.mono (by assumption) (by first | exact Nat.le_refl _ | (simp; done) | (simp; omega) | omega))) | exact Below.refl _ _ | assumption))
                 · simp [Act.put]
                   done)
              | (apply StepsD.pass
                 · first | (go_simp; done) | rfl
                 · simp only [Act.put, List.setIfInBounds_toArray, List.set_cons_succ, List.set_cons_zero]
                   rfl))
            refine StepsD.done ?_
            intro w' hS
            go_wp2
            go_ret
            exact ⟨by rw [HN.out (fun h => E2.out (HD.out.1 h).2)]; rfl, hBr.trans (hS.mono hsr)⟩
        · have b1 : (p1 == q1) = false := by simpa using e1
          have E1 := Lib.hid e1; clear e1
          go_wp2_with fail
          refine wp_region_b 9 (by kernel_rfl) (by kernel_rfl) ?_; simp only [List.take, List.drop]
          repeat (first
            | (apply StepsD.run
               · go_simp
                 done
               · intro w' hS K hK
                 have hc := (bcell hS).1
                 have hf := (bcell hS).2
                 have hz := hS.size
                 try simp at hz
                 go_simp
                 try go_bits
                 first
                   | exact hK _ hS
                   | exact hK _ (by repeat (first | (with_reducible exact Below.refl _ _) | (with_reducible assumption) | ((with_reducible refine Below.setCell ?_ ?_ _); rotate_left; · (first | exact Nat.le_refl _ | (simp; done) | (simp; omega) | omega)) | ((with_reducible refine Below.alloc ?_ ?_ _); rotate_left; · (first | exact Nat.le_refl _ | (simp; done) | (simp; omega) | omega)) | (with_reducible apply Below.drew) | (with_reducible apply below_drewN') | (refine Below.trans ?_ (Below.mono (by assumption) (by first | exact Nat.le_refl _ | (simp; done) | (simp; omega) | omega))) | exact Below.refl _ _ | assumption))
               · simp [Act.put]
                 done)
            | (apply StepsD.pass
               · first | (go_simp; done) | rfl
               · simp only [Act.put, List.setIfInBounds_toArray, List.set_cons_succ, List.set_cons_zero]
                 rfl))
          refine StepsD.done ?_
          intro w' hS
          go_wp2
          go_ret
          exact ⟨by rw [HN.out (fun h => E1.out (HD.out.1 h).1)]; rfl, hBr.trans (hS.mono hsr)⟩
      · obtain rfl : k = l.length := by omega
        have HE : Hid (decide (l = m) = true) := by
          refine Lib.hid ?_
          have := HK.out
          rw [List.take_length, HL.out, List.take_length] at this
          simpa using this
        go_wp2
        go_ret
        exact ⟨by rw [HE.out]; rfl, hBr⟩
  · have h1 : ((l.length : Int) != (m.length : Int)) = true := by simp; omega
    have HE : Hid (decide (l = m) = false) := by
      refine Lib.hid ?_
      simp only [decide_eq_false_iff_not]; intro e; subst e; exact hlm rfl
    go_enter Tryz.func18, Tryz.ntmps18
    go_wp2
    go_ret
    exact ⟨by rw [HE.out]; rfl, (by repeat (first | (with_reducible exact Below.refl _ _) | (with_reducible assumption) | ((with_reducible refine Below.setCell ?_ ?_ _); rotate_left; · (first | exact Nat.le_refl _ | (simp; done) | (simp; omega) | omega)) | ((with_reducible refine Below.alloc ?_ ?_ _); rotate_left; · (first | exact Nat.le_refl _ | (simp; done) | (simp; omega) | omega)) | (with_reducible apply Below.drew) | (with_reducible apply below_drewN') | (refine Below.trans ?_ (Below.mono (by assumption) (by first | exact Nat.le_refl _ | (simp; done) | (simp; omega) | omega))) | exact Below.refl _ _ | assumption))⟩

end Go.Proofs.YtlnkgjkjdllckaaGreatDoor
