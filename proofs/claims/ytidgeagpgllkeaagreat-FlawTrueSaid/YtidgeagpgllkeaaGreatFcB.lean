/- Contracts of the package flaw: the error of a mark; gaps, hulls. -/
import Derived.Test.YtidgeagpgllkeaaGreatFcA
import Derived.Deep.DeepCutAuto
namespace Go.Proofs.YtidgeagpgllkeaaGreat
open Go.RowKit

/-- A mark. -/
structure Mk where
  nm : ByteArray
  al : Int
  ah : Int
  dl : Int
  dh : Int
  lv : Int
abbrev mkC (m : Mk) : Array Value := #[.string m.nm, .int .i64 m.al, .int .i64 m.ah, .int .i64 m.dl, .int .i64 m.dh, .int .i64 m.lv]
theorem blk6 {w : World} {g t : Nat} {v0 v1 v2 v3 v4 v5 : Value} (h : Blk w g t #[v0, v1, v2, v3, v4, v5]) :
    w.cell? ⟨g, 0, none⟩ = some v0 ∧ w.cell? ⟨g, 1, none⟩ = some v1 ∧ w.cell? ⟨g, 2, none⟩ = some v2 ∧ w.cell? ⟨g, 3, none⟩ = some v3 ∧ w.cell? ⟨g, 4, none⟩ = some v4 ∧ w.cell? ⟨g, 5, none⟩ = some v5 ∧ ∀ i, w.frozen? ⟨g, i, none⟩ = false :=
  ⟨h.cell 0, h.cell 1, h.cell 2, h.cell 3, h.cell 4, h.cell 5, h.frozen⟩
def endsB (m : Mk) : Bool := wi m.al (-1000000) 1000000 && wi m.ah (-1000000) 1000000 && wi m.dl (-1000000) 1000000 && wi m.dh (-1000000) 1000000
def ordB (m : Mk) : Bool := decide (m.al ≤ m.ah) && decide (m.dl ≤ m.dh)
/-- The error of a mark. -/
def markE (m : Mk) : Int := firstE [unlessE (nameB m.nm) 4, unlessE (endsB m) 2, unlessE (ordB m) 9, levelE m.lv]

set_option maxRecDepth 100000 in
set_option maxHeartbeats 1000000 in
theorem markErr_any (m : Mk) (hs : m.nm.size ≤ 1000000000000) (w : World) : Calls Tryz.prog 113 #[.agg (mkC m)] w fun e w' => e = .returned (.int .i64 (markE m)) ∧ Below w.heap.size w w' := by
  have HM : Hid (firstE [unlessE (nameB m.nm) 4, unlessE (endsB m) 2, unlessE (ordB m) 9, levelE m.lv] = markE m) := Lib.hid rfl
  have HC : Hid ((wi m.al (-1000000) 1000000 = false ∧ endsB m = false) ∨ (wi m.al (-1000000) 1000000 = true ∧ wi m.ah (-1000000) 1000000 = false ∧ endsB m = false) ∨ (wi m.al (-1000000) 1000000 = true ∧ wi m.ah (-1000000) 1000000 = true ∧ wi m.dl (-1000000) 1000000 = false ∧ endsB m = false) ∨
      (wi m.al (-1000000) 1000000 = true ∧ wi m.ah (-1000000) 1000000 = true ∧ wi m.dl (-1000000) 1000000 = true ∧ wi m.dh (-1000000) 1000000 = endsB m)) := Lib.hid (by
    unfold endsB
    cases wi m.al (-1000000) 1000000 <;> cases wi m.ah (-1000000) 1000000 <;> cases wi m.dl (-1000000) 1000000 <;> simp)
  have HO : Hid ((¬ m.al ≤ m.ah ∧ ordB m = false) ∨ (m.al ≤ m.ah ∧ decide (m.dl ≤ m.dh) = ordB m)) := Lib.hid (by
    unfold ordB
    by_cases h : m.al ≤ m.ah <;> simp [h])
  go_enter Tryz.func113, Tryz.ntmps113
  have b1 := Blk.new w 79 (mkC m)
  have hBB : Below w.heap.size w (w.alloc (.cells (mkC m) 79)) := (by repeat (first | (with_reducible exact Below.refl _ _) | (with_reducible assumption) | ((with_reducible refine Below.setCell ?_ ?_ _); rotate_left; · (first | exact Nat.le_refl _ | (simp; done) | (simp; omega) | omega)) | ((with_reducible refine Below.alloc ?_ ?_ _); rotate_left; · (first | exact Nat.le_refl _ | (simp; done) | (simp; omega) | omega)) | (with_reducible apply Below.drew) | (with_reducible apply below_drewN') | (refine Below.trans ?_ (Below.mono (by assumption) (by first | exact Nat.le_refl _ | (simp; done) | (simp; omega) | omega))) | exact Below.refl _ _ | assumption))
  obtain ⟨E, hE⟩ : ∃ E, endsB m = E := ⟨_, rfl⟩
  rw [hE] at HM HC
  obtain ⟨O, hO⟩ : ∃ O, ordB m = O := ⟨_, rfl⟩
  rw [hO] at HM HO
  clear hE hO
  obtain ⟨NB, hNB⟩ : ∃ b, nameB m.nm = b := ⟨_, rfl⟩
  rw [hNB] at HM
  have HNB := Lib.hid hNB; clear hNB
  obtain ⟨n0, c1, c2, c3, c4, c5, f0⟩ := blk6 b1
  go_upto_region 1 with fail
  go_cut [3] (fun s3 wx => s3 = .bool E ∧ wx = w.alloc (.cells (mkC m) 79))
  case first =>
    rcases HC.out with ⟨q1, q⟩ | ⟨q1, q2, q⟩ | ⟨q1, q2, q3, q⟩ | ⟨q1, q2, q3, q⟩
    all_goals
      subst q
      clear HC HO HM
      go_wp2_with (go_at_call 120; refine (small_any _ _ (by omega) (by omega) _).mono ?_; rintro e w1 ⟨rfl, rfl⟩)
      go_meet
      exact ⟨by simp [*], rfl⟩
  case rest =>
    obtain ⟨rfl, rfl⟩ := hcut
    obtain ⟨W, hW⟩ : ∃ W, w.alloc (.cells (mkC m) 79) = W := ⟨_, rfl⟩
    rw [hW] at b1 hBB n0 c1 c2 c3 c4 c5 f0 ⊢
    clear hW HC n0 c1 c2 c3 c4 c5 f0
    have l_b1 := b1.lt
    obtain ⟨n0, c1, c2, c3, c4, c5, f0⟩ := blk6 b1
    rcases HO.out with ⟨ho, q⟩ | ⟨ho, q⟩
    · subst q
      clear HO
      replace ho : (m.al ≤ m.ah) = False := by simp; omega
      go_wp2_with fail
      refine wp_region_b 26 (by kernel_rfl) (by kernel_rfl) ?_; simp only [List.take, List.drop]
      repeat (first
        | (apply StepsD.run
           · go_simp
             done
           · intro w' hS K hK
             have hc := (bcell hS).1
             have hf := (bcell hS).2
             have hz := hS.size
             try simp at hz
             go_simp
             try go_bits
             first
               | exact hK _ hS
               | (go_at_call 156; (with_reducible refine (isName_any _ _ hs).mono ?_); rw [HNB.out]; rintro e w1 ⟨rfl, hB1⟩; obtain ⟨hc1, hf1⟩ := bcell hB1; have hz1 := hB1.size; (try simp at hz1); exact hK _ (Below.trans hS (Below.mono hB1 (by first | exact Nat.le_refl _ | (simp; done) | (simp; omega) | omega))))
               | (go_at_call 95; (with_reducible refine (unless_any _ _ _).mono ?_); rintro e w1 ⟨rfl, rfl⟩; exact hK _ hS)
               | (go_at_call 121; (with_reducible refine (levelErr_any _ _).mono ?_); rintro e w1 ⟨rfl, rfl⟩; exact hK _ hS)
               | exact hK _ (by repeat (first | (with_reducible exact Below.refl _ _) | (with_reducible assumption) | ((with_reducible refine Below.setCell ?_ ?_ _); rotate_left; · (first | exact Nat.le_refl _ | (simp; done) | (simp; omega) | omega)) | ((with_reducible refine Below.alloc ?_ ?_ _); rotate_left; · (first | exact Nat.le_refl _ | (simp; done) | (simp; omega) | omega)) | (with_reducible apply Below.drew) | (with_reducible apply below_drewN') | (refine Below.trans ?_ (Below.mono (by assumption) (by first | exact Nat.le_refl _ | (simp; done) | (simp; omega) | omega))) | exact Below.refl _ _ | assumption))
           · simp [Act.put]
             done)
        | (apply StepsD.pass
           · go_simp
             done
           · simp only [Act.put, List.setIfInBounds_toArray, List.set_cons_succ, List.set_cons_zero]
             rfl))
      refine StepsD.done ?_
      intro w1 hS
      replace b1 := b1.gr hS
      replace hBB := hBB.trans (Below.mono hS (Below.size hBB))
      clear hS
      clear l_b1 n0 c1 c2 c3 c4 c5 f0
      have l_b1 := b1.lt
      obtain ⟨n0, c1, c2, c3, c4, c5, f0⟩ := blk6 b1
      go_wp2_with fail
      refine (first4_any _ _ _ _ _ _).mono ?_
      rw [HM.out]
      rintro e wc1 ⟨rfl, hBc1⟩
      replace b1 := b1.gr hBc1
      replace hBB := hBB.trans (Below.mono hBc1 (Below.size hBB))
      clear hBc1
      clear l_b1 n0 c1 c2 c3 c4 c5 f0
      have l_b1 := b1.lt
      obtain ⟨n0, c1, c2, c3, c4, c5, f0⟩ := blk6 b1
      go_wp2
      go_ret
      exact ⟨rfl, hBB⟩
    · subst q
      clear HO
      by_cases hd : m.dl ≤ m.dh
      all_goals
        go_wp2_with fail
        refine wp_region_b 26 (by kernel_rfl) (by kernel_rfl) ?_; simp only [List.take, List.drop]
        repeat (first
          | (apply StepsD.run
             · go_simp
               done
             · intro w' hS K hK
               have hc := (bcell hS).1
               have hf := (bcell hS).2
               have hz := hS.size
               try simp at hz
               go_simp
               try go_bits
               first
                 | exact hK _ hS
                 | (go_at_call 156; (with_reducible refine (isName_any _ _ hs).mono ?_); rw [HNB.out]; rintro e w1 ⟨rfl, hB1⟩; obtain ⟨hc1, hf1⟩ := bcell hB1; have hz1 := hB1.size; (try simp at hz1); exact hK _ (Below.trans hS (Below.mono hB1 (by first | exact Nat.le_refl _ | (simp; done) | (simp; omega) | omega))))
                 | (go_at_call 95; (with_reducible refine (unless_any _ _ _).mono ?_); rintro e w1 ⟨rfl, rfl⟩; exact hK _ hS)
                 | (go_at_call 121; (with_reducible refine (levelErr_any _ _).mono ?_); rintro e w1 ⟨rfl, rfl⟩; exact hK _ hS)
                 | exact hK _ (by repeat (first | (with_reducible exact Below.refl _ _) | (with_reducible assumption) | ((with_reducible refine Below.setCell ?_ ?_ _); rotate_left; · (first | exact Nat.le_refl _ | (simp; done) | (simp; omega) | omega)) | ((with_reducible refine Below.alloc ?_ ?_ _); rotate_left; · (first | exact Nat.le_refl _ | (simp; done) | (simp; omega) | omega)) | (with_reducible apply Below.drew) | (with_reducible apply below_drewN') | (refine Below.trans ?_ (Below.mono (by assumption) (by first | exact Nat.le_refl _ | (simp; done) | (simp; omega) | omega))) | exact Below.refl _ _ | assumption))
             · simp [Act.put]
               done)
          | (apply StepsD.pass
             · go_simp
               done
             · simp only [Act.put, List.setIfInBounds_toArray, List.set_cons_succ, List.set_cons_zero]
               rfl))
        refine StepsD.done ?_
        intro w1 hS
        replace b1 := b1.gr hS
        replace hBB := hBB.trans (Below.mono hS (Below.size hBB))
        clear hS
        clear l_b1 n0 c1 c2 c3 c4 c5 f0
        have l_b1 := b1.lt
        obtain ⟨n0, c1, c2, c3, c4, c5, f0⟩ := blk6 b1
        go_wp2_with fail
        refine (first4_any _ _ _ _ _ _).mono ?_
        rintro e w2 ⟨rfl, hB2⟩
        replace hBB := hBB.trans (Below.mono hB2 (Below.size hBB))
        go_wp2
        go_ret
        exact ⟨by rw [← HM.out]; simp [hd], hBB⟩
end Go.Proofs.YtidgeagpgllkeaaGreat
