/- Contracts of the package flaw: the first error, ranges, roots, the depth of a tip, the height between two tips. -/
import Derived.Test.YtidgeagpgllkeaaGreatFaA
import Derived.Test.YtidgeagpgllkeaaGreatFaS
import Derived.Test.YtidgeagpgllkeaaGreatRgW
namespace Go.Proofs.YtidgeagpgllkeaaGreat
open Go.RowKit

set_option maxHeartbeats 400000 in
theorem unless_any (b : Bool) (e : Int) (w : World) : Calls Tryz.prog 95 #[.bool b, .int .i64 e] w fun r w' => r = .returned (.int .i64 (unlessE b e)) ∧ w = w' := by
  cases b
  all_goals
    go_enter Tryz.func95, Tryz.ntmps95
    go_wp2
    go_ret
    exact ⟨rfl, rfl⟩

set_option maxHeartbeats 400000 in
theorem levelErr_any (n : Int) (w : World) : Calls Tryz.prog 121 #[.int .i64 n] w fun r w' => r = .returned (.int .i64 (levelE n)) ∧ w = w' := by
  go_enter Tryz.func121, Tryz.ntmps121
  go_wp2_with (first
    | (go_at_call 92; refine (within_any _ _ _ _).mono ?_; rintro e w1 ⟨rfl, rfl⟩)
    | (go_at_call 95; refine (unless_any _ _ _).mono ?_; rintro e w1 ⟨rfl, rfl⟩))
  go_ret
  exact ⟨rfl, rfl⟩

theorem firstE_take (es : List Int) (k : Nat) (h : ∀ j, j < k → es[j]?.getD 0 = 0) : firstE es = firstE (es.drop k) := by
  induction k generalizing es with
  | zero => rfl
  | succ k ih =>
    cases es with
    | nil => rfl
    | cons e l =>
      have h0 : e = 0 := h 0 (by omega)
      rw [List.drop_succ_cons, ← ih l fun j hj => h (j + 1) (by omega)]
      show (if e = 0 then firstE l else e) = _
      rw [if_pos h0]

set_option maxHeartbeats 400000 in
theorem first_any (es : List Int) (b off cap : Nat) (w : World) (hl : es.length ≤ 1000) (hc : ∀ j, j < es.length → w.cell? ⟨b, off + j, none⟩ = some (.int .i64 (es[j]?.getD 0))) :
    Calls Tryz.prog 96 #[.slice (some ⟨b, off, none⟩) es.length cap] w fun e w' => e = .returned (.int .i64 (firstE es)) ∧ w = w' := by
  go_enter Tryz.func96, Tryz.ntmps96
  go_wp2
  go_loop [7] (fun i => ∃ k : Nat, k ≤ es.length ∧ i = .int .i64 k ∧ Hid (∀ j, j < k → es[j]?.getD 0 = 0)) (fun i => es.length - (intOf i).toNat)
  case atStart => exact ⟨0, Nat.zero_le _, rfl, Lib.hid (fun j hj => absurd hj (by omega))⟩
  case round =>
    obtain ⟨k, hk, rfl, H⟩ := hrel
    by_cases hlt : k < es.length
    · have hck := hc k hlt
      obtain ⟨x, hx⟩ : ∃ x, es[k]?.getD 0 = x := ⟨_, rfl⟩
      rw [hx] at hck
      have HX := Lib.hid hx; clear hx
      have HC := Lib.hid hc; clear hc
      by_cases h0 : x = 0
      · subst h0
        go_wp2
        go_round
        case rel => exact ⟨k + 1, by omega, by go_num, Lib.hid (fun j hj => by by_cases hjk : j = k; (rw [hjk]; exact HX.out); exact H.out j (by omega))⟩
        case measure => simp [intOf]; omega
      · have h0' : (x != 0) = true := by simpa using h0
        have HE : Hid (firstE es = x) := Lib.hid (by
          rw [firstE_take es k H.out, List.drop_eq_getElem_cons hlt]
          have : es[k] = x := by have := HX.out; rw [List.getElem?_eq_getElem hlt] at this; exact this
          unfold firstE; rw [this, if_neg h0])
        go_wp2
        go_ret
        exact ⟨by rw [HE.out]; rfl, rfl⟩
    · obtain rfl : k = es.length := by omega
      have HE : Hid (firstE es = 0) := Lib.hid (by rw [firstE_take es es.length H.out, List.drop_length]; rfl)
      go_wp2
      go_ret
      exact ⟨by rw [HE.out]; rfl, rfl⟩
end Go.Proofs.YtidgeagpgllkeaaGreat
