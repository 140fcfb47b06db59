/- Contracts of the package ray: the time between two places. -/
import Derived.Test.YtidgeagpgllkeaaFaC
import Derived.Test.YtidgeagpgllkeaaFbA
import Derived.Shelf.Abstract
namespace Go.Proofs.Ytidgeagpgllkeaa
open Go.RowKit Go.Shelf

set_option maxHeartbeats 400000 in
theorem rWithin_any (n lo hi : Int) (w : World) :
    Calls Try.prog 28 #[.int .i64 n, .int .i64 lo, .int .i64 hi] w fun e w' => e = .returned (.bool (wi n lo hi)) ∧ w = w' := by
  go_enter Try.func28, Try.ntmps28
  go_wp2
  all_goals
    go_ret
    exact ⟨by simp [wi, *]; try omega, rfl⟩
set_option maxHeartbeats 400000 in
theorem rSmall_any (n m : Int) (h0 : 0 ≤ m) (h1 : m ≤ 1000000000000) (w : World) :
    Calls Try.prog 27 #[.int .i64 n, .int .i64 m] w fun e w' => e = .returned (.bool (wi n (-m) m)) ∧ w = w' := by
  go_enter Try.func27, Try.ntmps27
  go_wp2_with (go_at_call 28; refine (rWithin_any _ _ _ _).mono ?_; rintro e w1 ⟨rfl, rfl⟩)
  go_ret
  exact ⟨rfl, rfl⟩
set_option maxHeartbeats 400000 in
theorem rMust_any (b : Bool) (e : Int) (w : World) : Calls Try.prog 26 #[.bool b, .int .i64 e] w fun r w' => r = .returned (.int .i64 (unlessE b e)) ∧ w = w' := by
  cases b
  all_goals
    go_enter Try.func26, Try.ntmps26
    go_wp2
    go_ret
    exact ⟨rfl, rfl⟩
set_option maxHeartbeats 400000 in
theorem rSpeed_ok (n : Int) (h : 500 ≤ n ∧ n ≤ 10000) (w : World) : Calls Try.prog 13 #[.int .i64 n] w fun r w' => r = .returned (.int .i64 0) ∧ w = w' := by
  have hw : wi n 500 10000 = true := by simp [wi]; omega
  go_enter Try.func13, Try.ntmps13
  go_wp2_with (first
    | (go_at_call 28; refine (rWithin_any _ _ _ _).mono ?_; rintro e w1 ⟨rfl, rfl⟩)
    | (go_at_call 26; refine (rMust_any _ _ _).mono ?_; rintro e w1 ⟨rfl, rfl⟩))
  go_ret
  exact ⟨rfl, rfl⟩
set_option maxHeartbeats 400000 in
theorem rSpot_ok (x z : Int) (hx : -100000 ≤ x ∧ x ≤ 100000) (hz : -100000 ≤ z ∧ z ≤ 100000) (w : World) :
    Calls Try.prog 12 #[.agg #[.int .i64 x, .int .i64 z]] w fun r w' => r = .returned (.int .i64 0) ∧ Below w.heap.size w w' := by
  have hwx : Hid (wi x (-100000) 100000 = true) := Lib.hid (by simp [wi]; omega)
  have hwz : Hid (wi z (-100000) 100000 = true) := Lib.hid (by simp [wi]; omega)
  go_enter Try.func12, Try.ntmps12
  go_wp2_with (first
    | (go_at_call 27; (with_reducible refine (rSmall_any x _ (by omega) (by omega) _).mono ?_); rw [hwx.out]; rintro e w1 ⟨rfl, rfl⟩)
    | (go_at_call 27; (with_reducible refine (rSmall_any z _ (by omega) (by omega) _).mono ?_); rw [hwz.out]; rintro e w1 ⟨rfl, rfl⟩)
    | (go_at_call 26; refine (rMust_any _ _ _).mono ?_; rintro e w1 ⟨rfl, rfl⟩))
  go_ret
  exact ⟨rfl, (by repeat (first | (with_reducible exact Below.refl _ _) | (with_reducible assumption) | ((with_reducible refine Below.setCell ?_ ?_ _); rotate_left; · (first | exact Nat.le_refl _ | (simp; done) | (simp; omega) | omega)) | ((with_reducible refine Below.alloc ?_ ?_ _); rotate_left; · (first | exact Nat.le_refl _ | (simp; done) | (simp; omega) | omega)) | (with_reducible apply Below.drew) | (with_reducible apply below_drewN') | (refine Below.trans ?_ (Below.mono (by assumption) (by first | exact Nat.le_refl _ | (simp; done) | (simp; omega) | omega))) | exact Below.refl _ _ | assumption))⟩
set_option maxHeartbeats 400000 in
theorem rFirst_zero (w : World) (t : TypeId) :
    Calls Try.prog 11 #[.slice (some ⟨w.heap.size, 0, none⟩) 3 3] (w.alloc (.cells #[.int .i64 0, .int .i64 0, .int .i64 0] t)) fun e w' => e = .returned (.int .i64 0) ∧ Below w.heap.size w w' := by
  have hb := Blk.new w t #[.int .i64 0, .int .i64 0, .int .i64 0]
  have hB : Below w.heap.size w (w.alloc (.cells #[.int .i64 0, .int .i64 0, .int .i64 0] t)) := (by repeat (first | (with_reducible exact Below.refl _ _) | (with_reducible assumption) | ((with_reducible refine Below.setCell ?_ ?_ _); rotate_left; · (first | exact Nat.le_refl _ | (simp; done) | (simp; omega) | omega)) | ((with_reducible refine Below.alloc ?_ ?_ _); rotate_left; · (first | exact Nat.le_refl _ | (simp; done) | (simp; omega) | omega)) | (with_reducible apply Below.drew) | (with_reducible apply below_drewN') | (refine Below.trans ?_ (Below.mono (by assumption) (by first | exact Nat.le_refl _ | (simp; done) | (simp; omega) | omega))) | exact Below.refl _ _ | assumption))
  obtain ⟨W, hW⟩ : ∃ W, w.alloc (.cells #[.int .i64 0, .int .i64 0, .int .i64 0] t) = W := ⟨_, rfl⟩
  rw [hW] at hb hB ⊢
  clear hW
  go_enter Try.func11, Try.ntmps11
  go_wp2
  go_loop [7] (fun i => ∃ k : Nat, k ≤ 3 ∧ i = .int .i64 k) (fun i => 3 - (intOf i).toNat)
  case atStart => exact ⟨0, Nat.zero_le _, rfl⟩
  case round =>
    obtain ⟨k, hk, rfl⟩ := hrel
    by_cases hlt : k < 3
    · have hck : W.cell? ⟨w.heap.size, k, none⟩ = some (.int .i64 0) := by
        match k, hlt with
        | 0, _ => exact hb.cell 0
        | 1, _ => exact hb.cell 1
        | 2, _ => exact hb.cell 2
      go_wp2
      go_round
      case rel => exact ⟨k + 1, by omega, by go_num⟩
      case measure => simp [intOf]; omega
    · obtain rfl : k = 3 := by omega
      go_wp2
      go_ret
      exact ⟨rfl, hB⟩

set_option maxHeartbeats 400000 in
theorem rDown_any (n d : Int) (hn : -4000000000000000000 ≤ n ∧ n ≤ 4000000000000000000) (hd : 1 ≤ d ∧ d ≤ 4000000000000000000) (w : World) :
    Calls Try.prog 29 #[.int .i64 n, .int .i64 d] w fun e w' => e = .returned (.int .i64 (n / d)) ∧ w = w' := by
  have h0 : (d == 0) = false := by simp; omega
  have hb : -4000000000000000000 ≤ n.tdiv d ∧ n.tdiv d ≤ 4000000000000000000 := by have := td_bd n d; omega
  go_enter Try.func29, Try.ntmps29
  go_wp2
  · go_ret
    exact ⟨by rw [floor_neg n d (by omega) (by assumption)]; rfl, rfl⟩
  · go_ret
    exact ⟨by rw [floor_pos n d (by omega) (by assumption)]; rfl, rfl⟩
theorem ediv_bd (n d : Int) (hd : 0 < d) : -(n.natAbs : Int) ≤ n / d ∧ n / d ≤ n.natAbs := by
  have h1 : (-(n.natAbs : Int)) * d ≤ n := by
    have : (n.natAbs : Int) * 1 ≤ n.natAbs * d := Int.mul_le_mul_of_nonneg_left (by omega) (by omega)
    rw [Int.neg_mul]; omega
  have h2 : n < ((n.natAbs : Int) + 1) * d := by
    have : ((n.natAbs : Int) + 1) * 1 ≤ ((n.natAbs : Int) + 1) * d := Int.mul_le_mul_of_nonneg_left (by omega) (by omega)
    omega
  have a := (Int.le_ediv_iff_mul_le hd).2 h1
  have b := (Int.ediv_lt_iff_lt_mul hd).2 h2
  omega
set_option maxHeartbeats 400000 in
theorem rUp_any (n d : Int) (hn : -4000000000000000000 ≤ n ∧ n ≤ 4000000000000000000) (hd : 1 ≤ d ∧ d ≤ 4000000000000000000) (w : World) :
    Calls Try.prog 30 #[.int .i64 n, .int .i64 d] w fun e w' => e = .returned (.int .i64 (-(-n / d))) ∧ w = w' := by
  have hb := ediv_bd (-n) d (by omega)
  go_enter Try.func30, Try.ntmps30
  go_wp2_with (go_at_call 29; refine (rDown_any _ _ (by omega) hd _).mono ?_; rintro e w1 ⟨rfl, rfl⟩)
  go_ret
  exact ⟨rfl, rfl⟩

/-! ### the root -/
set_option maxHeartbeats 400000 in
theorem rClosure_any (n r : Int) (b : Nat) (h : 0 ≤ r ∧ r ≤ 2147483648) (w : World) (hb : w.cell? ⟨b, 0, none⟩ = some (.int .i64 n)) :
    Calls Try.prog 40 #[.int .i64 r, .pointer (some ⟨b, 0, none⟩)] w fun e w' => e = .returned (.bool (decide (n < r * r))) ∧ w = w' := by
  have hs := sq_bd h.1 (show r ≤ 2147483649 by omega)
  go_enter Try.func40, Try.ntmps40
  go_wp2
  all_goals
    go_ret
    exact ⟨by simp [*], rfl⟩
set_option maxRecDepth 100000 in
set_option maxHeartbeats 400000 in
theorem rSearch_any (n : Int) (b : Nat) (h0 : 0 ≤ n) (h1 : n < 288230376151711744) (w : World) (hb : w.cell? ⟨b, 0, none⟩ = some (.int .i64 n)) :
    Calls Try.prog 39 #[.int .i64 2147483648, .func (.func 40) #[] #[.pointer (some ⟨b, 0, none⟩)]] w fun e w' => e = .returned (.int .i64 (isq n + 1)) ∧ w = w' := by
  have H0 := Lib.hid h0; have H1 := Lib.hid h1
  clear h0 h1
  go_enter Try.func39, Try.ntmps39
  go_wp2
  go_loop [5, 6] (fun x y => ∃ lo hi : Int, x = .int .i64 lo ∧ y = .int .i64 hi ∧ 0 ≤ lo ∧ lo ≤ hi ∧ hi ≤ 2147483648 ∧ Hid ((lo = 0 ∨ (lo - 1) * (lo - 1) ≤ n) ∧ (hi = 2147483648 ∨ n < hi * hi))) (fun x y => (intOf y - intOf x).toNat)
  case atStart => exact ⟨0, 2147483648, rfl, rfl, by omega, by omega, by omega, Lib.hid ⟨.inl rfl, .inl rfl⟩⟩
  case round =>
    obtain ⟨lo, hi, rfl, rfl, a1, a2, a3, HI⟩ := hrel
    by_cases hlt : lo < hi
    · have hd : 0 ≤ (lo + hi) / 2 ∧ lo ≤ (lo + hi) / 2 ∧ (lo + hi) / 2 < hi := by omega
      cases hp : decide (n < (lo + hi) / 2 * ((lo + hi) / 2))
      · have HP : Hid ((lo + hi) / 2 * ((lo + hi) / 2) ≤ n) := Lib.hid (by simpa using hp)
        have HD := Lib.hid hp
        clear hp
        go_wp2_with fail
        refine (rClosure_any n ((lo + hi) / 2) b (by omega) _ hb).mono ?_
        rw [HD.out]
        rintro e w1 ⟨rfl, rfl⟩
        go_wp2
        go_round
        case rel => exact ⟨(lo + hi) / 2 + 1, hi, rfl, rfl, by omega, by omega, by omega, Lib.hid ⟨.inr (by rw [show (lo + hi) / 2 + 1 - 1 = (lo + hi) / 2 by omega]; exact HP.out), HI.out.2⟩⟩
        case measure => simp [intOf]; omega
      · have HP : Hid (n < (lo + hi) / 2 * ((lo + hi) / 2)) := Lib.hid (by simpa using hp)
        have HD := Lib.hid hp
        clear hp
        go_wp2_with fail
        refine (rClosure_any n ((lo + hi) / 2) b (by omega) _ hb).mono ?_
        rw [HD.out]
        rintro e w1 ⟨rfl, rfl⟩
        go_wp2
        go_round
        case rel => exact ⟨lo, (lo + hi) / 2, rfl, rfl, by omega, by omega, by omega, Lib.hid ⟨HI.out.1, .inr HP.out⟩⟩
        case measure => simp [intOf]; omega
    · obtain rfl : lo = hi := by omega
      have HE : Hid (isq n + 1 = lo) := Lib.hid (by
        obtain ⟨q1, q2⟩ := HI.out
        have h0 := H0.out; have h1 := H1.out
        have hpos : 1 ≤ lo := by
          rcases q2 with e | e
          · omega
          · by_cases h : lo = 0
            · subst h; simp at e; omega
            · omega
        have hle : (lo - 1) * (lo - 1) ≤ n := by
          rcases q1 with e | e
          · omega
          · exact e
        have hgt : n < lo * lo := by
          rcases q2 with e | e
          · subst e; omega
          · exact e
        have := isq_eq (n := n) (r := lo - 1) (by omega) hle (by rw [show lo - 1 + 1 = lo by omega]; exact hgt)
        omega)
      go_wp2
      go_ret
      exact ⟨by rw [HE.out]; rfl, rfl⟩
set_option maxHeartbeats 400000 in
theorem rRoot_any (n : Int) (h0 : 0 ≤ n) (h1 : n < 288230376151711744) (w : World) : Calls Try.prog 31 #[.int .i64 n] w fun e w' => e = .returned (.int .i64 (isq n)) ∧ Below w.heap.size w w' := by
  have hb := Blk.new w 3 #[.int .i64 n]
  have hc := hb.cell 0
  have hi : 0 ≤ isq n ∧ isq n < 4000000000 := by
    refine ⟨isq_nonneg n, ?_⟩
    have := isq_le_of (b := 3999999999) (n := n) (by omega) (by omega)
    omega
  go_enter Try.func31, Try.ntmps31
  go_wp2_with (go_at_call 39; refine (rSearch_any n _ h0 h1 _ hc).mono ?_; rintro e w1 ⟨rfl, rfl⟩)
  go_ret
  exact ⟨by (show Ending.returned (Value.int .i64 _) = _); congr 2; try omega, (by repeat (first | (with_reducible exact Below.refl _ _) | (with_reducible assumption) | ((with_reducible refine Below.setCell ?_ ?_ _); rotate_left; · (first | exact Nat.le_refl _ | (simp; done) | (simp; omega) | omega)) | ((with_reducible refine Below.alloc ?_ ?_ _); rotate_left; · (first | exact Nat.le_refl _ | (simp; done) | (simp; omega) | omega)) | (with_reducible apply Below.drew) | (with_reducible apply below_drewN') | (refine Below.trans ?_ (Below.mono (by assumption) (by first | exact Nat.le_refl _ | (simp; done) | (simp; omega) | omega))) | exact Below.refl _ _ | assumption))⟩
end Go.Proofs.Ytidgeagpgllkeaa
