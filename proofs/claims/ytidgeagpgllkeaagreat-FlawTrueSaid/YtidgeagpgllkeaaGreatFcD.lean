/- Contracts of the package flaw: rules, gaps, hulls, interaction. -/
import Derived.Test.YtidgeagpgllkeaaGreatFcC
import Derived.Test.YtidgeagpgllkeaaGreatFaH
namespace Go.Proofs.YtidgeagpgllkeaaGreat
open Go.RowKit

/-- A rule. -/
structure Ru where
  along : Int
  down : Int
  num : Int
  den : Int
abbrev ruC (r : Ru) : Array Value := #[.int .i64 r.along, .int .i64 r.down, .int .i64 r.num, .int .i64 r.den]
/-- The error of a rule. -/
def ruleE (r : Ru) : Int := if !(wi r.along 0 100000) || !(wi r.down 0 100000) then 2 else if !(lowB r.num r.den) then 3 else if decide (r.num < 0) || decide (100 < r.den) || decide (4 * r.den < r.num) then 2 else 0

set_option maxHeartbeats 1000000 in
theorem checkRule_any (r : Ru) (hn : W64 r.num) (hd : W64 r.den) (w : World) : Calls Tryz.prog 69 #[.agg (ruC r)] w fun e w' => e = .returned (.int .i64 (ruleE r)) ∧ Below w.heap.size w w' := by
  have HC : Hid ((wi r.along 0 100000 = false ∧ ruleE r = 2) ∨ (wi r.along 0 100000 = true ∧ wi r.down 0 100000 = false ∧ ruleE r = 2) ∨ (wi r.along 0 100000 = true ∧ wi r.down 0 100000 = true ∧ lowB r.num r.den = false ∧ ruleE r = 3) ∨
      (wi r.along 0 100000 = true ∧ wi r.down 0 100000 = true ∧ lowB r.num r.den = true ∧ ruleE r = if r.num < 0 ∨ 100 < r.den ∨ 4 * r.den < r.num then 2 else 0)) := Lib.hid (by
    unfold ruleE
    cases wi r.along 0 100000 <;> cases wi r.down 0 100000 <;> cases lowB r.num r.den <;> simp [or_assoc])
  have HL : Hid (lowB r.num r.den = true → 0 < r.den) := Lib.hid (fun h => by unfold lowB at h; simp at h; exact h.1)
  go_enter Tryz.func69, Tryz.ntmps69
  have b1 := Blk.new w 62 (ruC r)
  have hBB : Below w.heap.size w (w.alloc (.cells (ruC r) 62)) := (by repeat (first | (with_reducible exact Below.refl _ _) | (with_reducible assumption) | ((with_reducible refine Below.setCell ?_ ?_ _); rotate_left; · (first | exact Nat.le_refl _ | (simp; done) | (simp; omega) | omega)) | ((with_reducible refine Below.alloc ?_ ?_ _); rotate_left; · (first | exact Nat.le_refl _ | (simp; done) | (simp; omega) | omega)) | (with_reducible apply Below.drew) | (with_reducible apply below_drewN') | (refine Below.trans ?_ (Below.mono (by assumption) (by first | exact Nat.le_refl _ | (simp; done) | (simp; omega) | omega))) | exact Below.refl _ _ | assumption))
  obtain ⟨c0, c1, c2, c3, f0⟩ := blk4 b1
  rcases HC.out with ⟨q1, q⟩ | ⟨q1, q2, q⟩ | ⟨q1, q2, q3, q⟩ | ⟨q1, q2, q3, q⟩
  · have Q := Lib.hid q; clear q HC
    go_wp2_with (go_at_call 92; refine (within_any _ _ _ _).mono ?_; rintro e w1 ⟨rfl, rfl⟩)
    go_ret
    exact ⟨by rw [Q.out]; rfl, hBB⟩
  · have Q := Lib.hid q; clear q HC
    go_wp2_with (go_at_call 92; refine (within_any _ _ _ _).mono ?_; rintro e w1 ⟨rfl, rfl⟩)
    go_ret
    exact ⟨by rw [Q.out]; rfl, hBB⟩
  · have Q := Lib.hid q; clear q HC
    go_wp2_with (go_at_call 92; refine (within_any _ _ _ _).mono ?_; rintro e w1 ⟨rfl, rfl⟩)
    refine (isLowest_any _ _ hn hd _).mono ?_
    rw [q3]
    rintro e w1 ⟨rfl, hB1⟩
    replace hBB := hBB.trans (hB1.mono (by simp))
    go_wp2
    go_ret
    exact ⟨by rw [Q.out]; rfl, hBB⟩
  · have Q := Lib.hid q
    have hp := HL.out q3
    clear q HC
    go_wp2_with (go_at_call 92; refine (within_any _ _ _ _).mono ?_; rintro e w1 ⟨rfl, rfl⟩)
    refine (isLowest_any _ _ hn hd _).mono ?_
    rw [q3]
    rintro e w1 ⟨rfl, hB1⟩
    replace b1 := b1.gr hB1
    replace hBB := hBB.trans (hB1.mono (by simp))
    obtain ⟨c0, c1, c2, c3, f0⟩ := blk4 b1
    have h4 : Hid (¬ 100 < r.den → 4 * r.den ≤ 400) := Lib.hid (fun h => by omega)
    by_cases g0 : r.num < 0
    · go_wp2
      go_ret
      exact ⟨by rw [Q.out, if_pos (.inl g0)]; rfl, hBB⟩
    · by_cases g1 : 100 < r.den
      · go_wp2
        go_ret
        exact ⟨by rw [Q.out, if_pos (.inr (.inl g1))]; rfl, hBB⟩
      · by_cases g2 : 4 * r.den < r.num
        · go_wp2
          go_ret
          exact ⟨by rw [Q.out, if_pos (.inr (.inr g2))]; rfl, hBB⟩
        · go_wp2
          go_ret
          exact ⟨by rw [Q.out, if_neg (by omega)]; rfl, hBB⟩

/-- How far two ranges lie apart. -/
def gapV (a0 a1 b0 b1 : Int) : Int := max 0 (max (b0 - a1) (a0 - b1))
set_option maxHeartbeats 1000000 in
theorem gap_any (a0 a1 b0 b1 : Int) (ha : -1000000000 ≤ a0 ∧ a0 ≤ 1000000000) (ha' : -1000000000 ≤ a1 ∧ a1 ≤ 1000000000) (hb : -1000000000 ≤ b0 ∧ b0 ≤ 1000000000) (hb' : -1000000000 ≤ b1 ∧ b1 ≤ 1000000000) (w : World) :
    Calls Tryz.prog 149 #[.agg (rgC a0 a1), .agg (rgC b0 b1)] w fun e w' => e = .returned (.int .i64 (gapV a0 a1 b0 b1)) ∧ Below w.heap.size w w' := by
  unfold rgC
  go_enter Tryz.func149, Tryz.ntmps149
  go_wp2
  all_goals
    go_ret
    exact ⟨by (show Ending.returned (Value.int .i64 _) = _); congr 2; unfold gapV; omega, (by repeat (first | (with_reducible exact Below.refl _ _) | (with_reducible assumption) | ((with_reducible refine Below.setCell ?_ ?_ _); rotate_left; · (first | exact Nat.le_refl _ | (simp; done) | (simp; omega) | omega)) | ((with_reducible refine Below.alloc ?_ ?_ _); rotate_left; · (first | exact Nat.le_refl _ | (simp; done) | (simp; omega) | omega)) | (with_reducible apply Below.drew) | (with_reducible apply below_drewN') | (refine Below.trans ?_ (Below.mono (by assumption) (by first | exact Nat.le_refl _ | (simp; done) | (simp; omega) | omega))) | exact Below.refl _ _ | assumption))⟩

set_option maxHeartbeats 1000000 in
theorem over_any (a0 a1 b0 b1 : Int) (w : World) :
    Calls Tryz.prog 118 #[.agg (rgC a0 a1), .agg (rgC b0 b1)] w fun e w' => e = .returned (.agg (rgC (min a0 b0) (max a1 b1))) ∧ Below w.heap.size w w' := by
  unfold rgC
  go_enter Tryz.func118, Tryz.ntmps118
  go_wp2
  all_goals first
    | (rw [show min a0 b0 = a0 by omega, show max a1 b1 = a1 by omega]; have bn := Blk.new ((w.alloc (.cells #[.int .i64 a0, .int .i64 a1] 48)).alloc (.cells #[.int .i64 b0, .int .i64 b1] 48)) 48 #[.int .i64 a0, .int .i64 a1]; simp only [World.size_alloc] at bn; obtain ⟨u0, u1, _⟩ := blk2c bn; exact bodyPost_ret (v := .agg #[.int .i64 a0, .int .i64 a1]) (by simp [results, Tryz.results118, go_sem, u0, u1]) rfl ⟨rfl, (by repeat (first | (with_reducible exact Below.refl _ _) | (with_reducible assumption) | ((with_reducible refine Below.setCell ?_ ?_ _); rotate_left; · (first | exact Nat.le_refl _ | (simp; done) | (simp; omega) | omega)) | ((with_reducible refine Below.alloc ?_ ?_ _); rotate_left; · (first | exact Nat.le_refl _ | (simp; done) | (simp; omega) | omega)) | (with_reducible apply Below.drew) | (with_reducible apply below_drewN') | (refine Below.trans ?_ (Below.mono (by assumption) (by first | exact Nat.le_refl _ | (simp; done) | (simp; omega) | omega))) | exact Below.refl _ _ | assumption))⟩)
    | (rw [show min a0 b0 = a0 by omega, show max a1 b1 = b1 by omega]; have bn := Blk.new ((w.alloc (.cells #[.int .i64 a0, .int .i64 a1] 48)).alloc (.cells #[.int .i64 b0, .int .i64 b1] 48)) 48 #[.int .i64 a0, .int .i64 b1]; simp only [World.size_alloc] at bn; obtain ⟨u0, u1, _⟩ := blk2c bn; exact bodyPost_ret (v := .agg #[.int .i64 a0, .int .i64 b1]) (by simp [results, Tryz.results118, go_sem, u0, u1]) rfl ⟨rfl, (by repeat (first | (with_reducible exact Below.refl _ _) | (with_reducible assumption) | ((with_reducible refine Below.setCell ?_ ?_ _); rotate_left; · (first | exact Nat.le_refl _ | (simp; done) | (simp; omega) | omega)) | ((with_reducible refine Below.alloc ?_ ?_ _); rotate_left; · (first | exact Nat.le_refl _ | (simp; done) | (simp; omega) | omega)) | (with_reducible apply Below.drew) | (with_reducible apply below_drewN') | (refine Below.trans ?_ (Below.mono (by assumption) (by first | exact Nat.le_refl _ | (simp; done) | (simp; omega) | omega))) | exact Below.refl _ _ | assumption))⟩)
    | (rw [show min a0 b0 = b0 by omega, show max a1 b1 = a1 by omega]; have bn := Blk.new ((w.alloc (.cells #[.int .i64 a0, .int .i64 a1] 48)).alloc (.cells #[.int .i64 b0, .int .i64 b1] 48)) 48 #[.int .i64 b0, .int .i64 a1]; simp only [World.size_alloc] at bn; obtain ⟨u0, u1, _⟩ := blk2c bn; exact bodyPost_ret (v := .agg #[.int .i64 b0, .int .i64 a1]) (by simp [results, Tryz.results118, go_sem, u0, u1]) rfl ⟨rfl, (by repeat (first | (with_reducible exact Below.refl _ _) | (with_reducible assumption) | ((with_reducible refine Below.setCell ?_ ?_ _); rotate_left; · (first | exact Nat.le_refl _ | (simp; done) | (simp; omega) | omega)) | ((with_reducible refine Below.alloc ?_ ?_ _); rotate_left; · (first | exact Nat.le_refl _ | (simp; done) | (simp; omega) | omega)) | (with_reducible apply Below.drew) | (with_reducible apply below_drewN') | (refine Below.trans ?_ (Below.mono (by assumption) (by first | exact Nat.le_refl _ | (simp; done) | (simp; omega) | omega))) | exact Below.refl _ _ | assumption))⟩)
    | (rw [show min a0 b0 = b0 by omega, show max a1 b1 = b1 by omega]; have bn := Blk.new ((w.alloc (.cells #[.int .i64 a0, .int .i64 a1] 48)).alloc (.cells #[.int .i64 b0, .int .i64 b1] 48)) 48 #[.int .i64 b0, .int .i64 b1]; simp only [World.size_alloc] at bn; obtain ⟨u0, u1, _⟩ := blk2c bn; exact bodyPost_ret (v := .agg #[.int .i64 b0, .int .i64 b1]) (by simp [results, Tryz.results118, go_sem, u0, u1]) rfl ⟨rfl, (by repeat (first | (with_reducible exact Below.refl _ _) | (with_reducible assumption) | ((with_reducible refine Below.setCell ?_ ?_ _); rotate_left; · (first | exact Nat.le_refl _ | (simp; done) | (simp; omega) | omega)) | ((with_reducible refine Below.alloc ?_ ?_ _); rotate_left; · (first | exact Nat.le_refl _ | (simp; done) | (simp; omega) | omega)) | (with_reducible apply Below.drew) | (with_reducible apply below_drewN') | (refine Below.trans ?_ (Below.mono (by assumption) (by first | exact Nat.le_refl _ | (simp; done) | (simp; omega) | omega))) | exact Below.refl _ _ | assumption))⟩)
end Go.Proofs.YtidgeagpgllkeaaGreat
