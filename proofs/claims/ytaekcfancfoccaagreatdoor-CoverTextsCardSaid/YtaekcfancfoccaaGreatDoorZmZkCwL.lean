/- Contracts: equal joints; the bevelled joint of the program and of the reference; a bevelled joint is right. -/
import Derived.Laws.AppendOwnNone
import Derived.Test.YtaekcfancfoccaaGreatDoorZmZkCwH
import Derived.Test.YtaekcfancfoccaaGreatDoorZmZkCvZb
import Derived.Test.YtaekcfancfoccaaGreatDoorZmZkCvV
import Derived.Test.YtaekcfancfoccaaGreatDoorZmZkCvR
namespace Go.Proofs.YtaekcfancfoccaaGreatDoor
open Go.RowKit

set_option maxRecDepth 100000 in
set_option maxHeartbeats 1000000 in
theorem same_any (j : Jo) (A A' : Option Addr) (c c' B : Nat) (w : World) (hj : JoOk j A c B w) (hj' : JoOk j A' c' B w) :
    Calls Tryz.prog 12 #[.agg (joC j A c), .agg (joC j A' c')] w fun e w' => e = .returned (.bool true) ∧ Below w.heap.size w w' := by
  obtain ⟨_, _, k3, k4, hR, hB⟩ := hj
  obtain ⟨_, _, i3, i4, hR', _⟩ := hj'
  unfold joC
  go_enter Tryz.func12, Tryz.ntmps12
  go_wp2
  go_loopw [5] (fun i wr => ∃ k : Nat, k ≤ j.fs.length ∧ i = .int .i64 k ∧ Blk wr w.heap.size 24 (joC j A c) ∧ Blk wr (w.heap.size + 1) 24 (joC j A' c') ∧ Below w.heap.size w wr) (fun i _ => j.fs.length - (intOf i).toNat)
  case atStart => exact ⟨0, Nat.zero_le _, rfl, (Blk.new _ _ _).alloc _, Blk.new' _ _ _ (by simp), ((Below.refl _ _).alloc (Nat.le_refl _) _).alloc (by simp) _⟩
  case round =>
    obtain ⟨k, hk, rfl, b1, b2, hBr⟩ := hrel
    have hsr := Below.size hBr
    have l1 := b1.lt
    have l2 := b2.lt
    obtain ⟨q0, q1, q2, q3⟩ := jo_cells b1
    obtain ⟨r0, r1, r2, r3⟩ := jo_cells b2
    by_cases hlt : k < j.fs.length
    · obtain ⟨g, o, hA, hg, c0, c1, c2, c3, c4⟩ := faceCells (hR.below hBr hB) hlt
      obtain ⟨g', o', hA', hg', d0, d1, d2, d3, d4⟩ := faceCells (hR'.below hBr hB) hlt
      subst hA hA'
      have lg : g < wr.heap.size := by omega
      have lg' : g' < wr.heap.size := by omega
      have k0 : (0 : Int) ≤ (k : Int) := by omega
      have k1 : (k : Int) < (j.fs.length : Int) := by omega
      generalize j.fs[k] = p at *
      obtain ⟨pn, pf⟩ := p
      obtain ⟨fx, fz, tx, tz⟩ := pf
      simp only at c0 c1 c2 c3 c4 d0 d1 d2 d3 d4
      go_wp2_with fail
      refine wp_region_b 11 (by kernel_rfl) (by kernel_rfl) ?_; simp only [List.take, List.drop]
      repeat (first
        | (apply StepsD.run
           · go_simp
             done
           · intro w' hS K hK
             have hc := (bcell hS).1; have hf := (bcell hS).2; have hz := hS.size; (try simp at hz); go_simp; (try go_bits)
             first
               | exact hK _ hS
               | exact hK _ (by repeat first | (with_reducible first | exact Below.refl _ _ | assumption) | ((with_reducible first | refine Below.setCell ?_ ?_ _ | refine Below.alloc ?_ ?_ _); rotate_left; · first | exact Nat.le_refl _ | (simp; done) | (simp; omega) | omega) | (with_reducible first | apply Below.drew | apply below_drewN') | refine Below.trans ?_ (Below.mono (by assumption) (by first | exact Nat.le_refl _ | (simp; done) | (simp; omega) | omega)) | exact Below.refl _ _ | assumption)
           · simp [Act.put]
             done)
        | (apply StepsD.pass
           · first | (go_simp; done) | rfl
           · simp only [Act.put, List.setIfInBounds_toArray, List.set_cons_succ, List.set_cons_zero]
             rfl))
      refine StepsD.done ?_
      intro w' hS
      go_wp2
      go_roundw
      case rel => exact ⟨k + 1, by omega, by go_num, b1.below hS l1, b2.below hS l2, hBr.trans (hS.mono hsr)⟩
      case measure => simp [intOf]; omega
    · obtain rfl : k = j.fs.length := by omega
      go_wp2
      go_ret
      exact ⟨rfl, hBr⟩

theorem own_cap {w : World} {base e size n cap : Nat} {A : Option Addr} {xs : List Value} (h : w.ownsRow base e size (.slice A n cap) n xs) : cap ≤ 9223372036854775807 ∧ n ≤ cap ∧ (A = none → cap = 0) := by
  rcases h.2 with ⟨h1, rfl⟩ | ⟨g, cap', cur, h1, _, _, hn, hm, _⟩
  · simp at h1; omega
  · simp at h1
    obtain ⟨rfl, rfl⟩ := h1
    exact ⟨by simpa [maxLen] using hm, hn, by simp⟩

/-! ### a bevelled joint is right -/
end Go.Proofs.YtaekcfancfoccaaGreatDoor
