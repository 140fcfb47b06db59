/- Contracts of the base and of the reference: roots, ranges. Contract: the reference's depth of a tip. The law FlawTips answers true. -/
import Derived.Test.YtidgeagpgllkeaaGreatFcP
namespace Go.Proofs.YtidgeagpgllkeaaGreat
open Go.RowKit

set_option maxHeartbeats 400000 in
theorem ceil_any (n d : Int) (hn : -4000000000000000000 ≤ n ∧ n ≤ 4000000000000000000) (hd : 1 ≤ d ∧ d ≤ 4000000000000000000) (w : World) :
    Calls Tryz.prog 32 #[.int .i64 n, .int .i64 d] w fun e w' => e = .returned (.int .i64 (-((-n) / d))) ∧ w = w' := by
  have hb : -4000000000000000000 ≤ (-n) / d ∧ (-n) / d ≤ 4000000000000000000 := by
    exact ⟨Int.le_ediv_of_mul_le (by omega) (by omega), Int.ediv_le_of_le_mul (by omega) (by omega)⟩
  go_enter Tryz.func32, Tryz.ntmps32
  go_wp2_with (go_at_call 30; refine (floor_any _ _ (by omega) (by omega) _).mono ?_; rintro e w1 ⟨rfl, rfl⟩)
  go_ret
  exact ⟨rfl, rfl⟩

set_option maxRecDepth 100000 in
set_option maxHeartbeats 1000000 in
theorem bRoot_any (n : Int) (h0 : 0 ≤ n) (h1 : n < 1152921504606846976) (w : World) : Calls Tryz.prog 31 #[.int .i64 n] w fun e w' => e = .returned (.int .i64 (isq n)) ∧ w = w' := by
  go_enter Tryz.func31, Tryz.ntmps31
  go_wp2
  go_loop [3, 4] (fun x y => ∃ (r : Int) (k : Nat), x = .int .i64 r ∧ y = .int .i64 ((2 : Int) ^ k / 2) ∧ k ≤ 31 ∧ 0 ≤ r ∧ r ≤ 2147483648 - (2 : Int) ^ k ∧ Hid (r * r ≤ n ∧ n < (r + (2 : Int) ^ k) * (r + (2 : Int) ^ k))) (fun _ y => (intOf y).toNat)
  case atStart => exact ⟨0, 31, rfl, rfl, by omega, by omega, by decide, Lib.hid ⟨by simpa using h0, by simp; omega⟩⟩
  case round =>
    obtain ⟨r, k, rfl, rfl, hk, hr0, hr1, HR⟩ := hrel
    cases k with
    | zero =>
      have HE : Hid (isq n = r) := Lib.hid (isq_eq hr0 HR.out.1 (by have := HR.out.2; simpa using this))
      go_wp2
      go_ret
      exact ⟨by rw [HE.out]; rfl, rfl⟩
    | succ k =>
      have hp : (0 : Int) < (2 : Int) ^ k := Int.pow_pos (by decide)
      have hp2 : (2 : Int) ^ (k + 1) = 2 * (2 : Int) ^ k := by rw [Int.pow_succ]; omega
      have hd : (2 : Int) ^ (k + 1) / 2 = (2 : Int) ^ k := by omega
      have hq : ((2 : Int) ^ k).tdiv 2 = (2 : Int) ^ k / 2 := Int.tdiv_eq_ediv_of_nonneg (by omega)
      rw [hp2] at hr1 HR
      rw [hd]
      have hs := sq_bd (show 0 ≤ r + (2 : Int) ^ k by omega) (by omega)
      obtain ⟨b, hbk⟩ : ∃ b, (2 : Int) ^ k = b := ⟨_, rfl⟩
      have HB := Lib.hid hbk
      rw [hbk] at hp hr1 HR hq hs ⊢
      have hp' : decide (0 < b) = true := by simpa using hp
      clear hp2 hd hbk
      by_cases hle : (r + b) * (r + b) ≤ n
      · have HN : Hid ((r + b) * (r + b) ≤ n ∧ n < (r + b + b) * (r + b + b)) := Lib.hid ⟨hle, by rw [show r + b + b = r + 2 * b by omega]; exact HR.out.2⟩
        go_wp2
        go_round
        case rel => exact ⟨r + b, k, rfl, by rw [HB.out], by omega, by omega, by rw [HB.out]; omega, Lib.hid (by rw [HB.out]; exact HN.out)⟩
        case measure => simp [intOf]; omega
      · have HN : Hid (r * r ≤ n ∧ n < (r + b) * (r + b)) := Lib.hid ⟨HR.out.1, by omega⟩
        go_wp2
        go_round
        case rel => exact ⟨r, k, rfl, by rw [HB.out], by omega, by omega, by rw [HB.out]; omega, Lib.hid (by rw [HB.out]; exact HN.out)⟩
        case measure => simp [intOf]; omega

set_option maxHeartbeats 1000000 in
theorem rootUp_any (n : Int) (h0 : 0 ≤ n) (h1 : n < 1152921504606846976) (w : World) : Calls Tryz.prog 33 #[.int .i64 n] w fun e w' => e = .returned (.int .i64 (isqUp n)) ∧ w = w' := by
  have i0 := isq_nonneg n
  have i1 : isq n < 1073741824 := by
    have := isq_le h0
    by_cases h : isq n < 1073741824
    · exact h
    · have h2 := sq_mono (by omega) (show 1073741824 ≤ isq n by omega); omega
  have hm := mul_bd0 i0 (show isq n ≤ 1073741823 by omega) i0 (show isq n ≤ 1073741823 by omega)
  have HU : Hid (isqUp n = if isq n * isq n < n then isq n + 1 else isq n) := Lib.hid rfl
  have H0 := Lib.hid h0; have H1 := Lib.hid h1
  clear h0 h1
  have HC := fun w => bRoot_any n H0.out H1.out w
  obtain ⟨U, hU⟩ : ∃ U, isqUp n = U := ⟨_, rfl⟩
  obtain ⟨R, hR⟩ : ∃ R, isq n = R := ⟨_, rfl⟩
  rw [hU, hR] at HU
  rw [hR] at i0 i1 hm HC
  rw [hU]
  clear hU hR H0 H1
  go_enter Tryz.func33, Tryz.ntmps33
  go_wp2_with fail
  refine (HC _).mono ?_
  rintro e w1 ⟨rfl, rfl⟩
  go_wp2
  all_goals
    go_ret
    refine ⟨?_, rfl⟩
    rw [HU.out]
    show Ending.returned (Value.int .i64 _) = _
    first
      | (rw [if_pos (by omega)]; done)
      | (rw [if_neg (by omega)]; done)

theorem rangeB (a b lo hi : Int) : rangeE a b lo hi = if (!(wi a lo hi)) || (!(wi b lo hi)) then 2 else if b < a then 9 else 0 := by
  unfold rangeE
  cases wi a lo hi <;> cases wi b lo hi <;> simp
  by_cases h : a ≤ b
  · rw [if_pos h, if_neg (by omega)]
  · rw [if_neg h, if_pos (by omega)]
set_option maxHeartbeats 1000000 in
theorem refRangeErr_any (a b lo hi : Int) (w : World) : Calls Tryz.prog 112 #[.agg (rgC a b), .int .i64 lo, .int .i64 hi] w fun e w' => e = .returned (.int .i64 (rangeE a b lo hi)) ∧ Below w.heap.size w w' := by
  have HR := Lib.hid (rangeB a b lo hi)
  obtain ⟨X, hX⟩ : ∃ X, wi a lo hi = X := ⟨_, rfl⟩
  obtain ⟨Y, hY⟩ : ∃ Y, wi b lo hi = Y := ⟨_, rfl⟩
  have HX := Lib.hid hX; have HY := Lib.hid hY
  rw [hX, hY] at HR
  clear hX hY
  have c0 := (Blk.new w 48 #[.int .i64 a, .int .i64 b]).cell 0
  have c1 := (Blk.new w 48 #[.int .i64 a, .int .i64 b]).cell 1
  go_enter Tryz.func112, Tryz.ntmps112
  cases X <;> cases Y
  all_goals
    go_wp2_with (go_at_call 27; refine (bWithin_any _ _ _ _).mono ?_; (first | rw [HX.out] | rw [HY.out]); rintro e w1 ⟨rfl, rfl⟩)
  all_goals
    go_ret
    refine ⟨?_, (by repeat (first | (with_reducible exact Below.refl _ _) | (with_reducible assumption) | ((with_reducible refine Below.setCell ?_ ?_ _); rotate_left; · (first | exact Nat.le_refl _ | (simp; done) | (simp; omega) | omega)) | ((with_reducible refine Below.alloc ?_ ?_ _); rotate_left; · (first | exact Nat.le_refl _ | (simp; done) | (simp; omega) | omega)) | (with_reducible apply Below.drew) | (with_reducible apply below_drewN') | (refine Below.trans ?_ (Below.mono (by assumption) (by first | exact Nat.le_refl _ | (simp; done) | (simp; omega) | omega))) | exact Below.refl _ _ | assumption))⟩
    rw [HR.out]
    simp [*]

set_option maxRecDepth 100000 in
set_option maxHeartbeats 1000000 in
theorem refHeight_any (ul uh ll lh : Int) (w : World) :
    Calls Tryz.prog 44 #[.agg (rgC ul uh), .agg (rgC ll lh)] w fun e w' => e = .returned (reC (heightV ul uh ll lh)) ∧ Below w.heap.size w w' := by
  unfold rgC reC
  have H1 : Hid (heightE ul uh ll lh = if rangeE ul uh (-1000000000) 1000000000 ≠ 0 then rangeE ul uh (-1000000000) 1000000000 else if rangeE ll lh (-1000000000) 1000000000 ≠ 0 then rangeE ll lh (-1000000000) 1000000000 else if lh < ul then 22 else 0) := Lib.hid (by
    unfold heightE firstE firstE firstE firstE unlessE
    by_cases h : ul ≤ lh
    · rw [decide_eq_true h]
      have : ¬ lh < ul := by omega
      simp [this]
    · rw [decide_eq_false h]
      have : lh < ul := by omega
      simp [this])
  have H2 : Hid (heightV ul uh ll lh = if heightE ul uh ll lh = 0 then ⟨max 0 (ll - uh), lh - ul, 0⟩ else ⟨0, 0, heightE ul uh ll lh⟩) := Lib.hid rfl
  have HZ1 : Hid (rangeE ul uh (-1000000000) 1000000000 = 0 → -1000000000 ≤ ul ∧ ul ≤ uh ∧ uh ≤ 1000000000) := Lib.hid rangeE_zero
  have HZ2 : Hid (rangeE ll lh (-1000000000) 1000000000 = 0 → -1000000000 ≤ ll ∧ ll ≤ lh ∧ lh ≤ 1000000000) := Lib.hid rangeE_zero
  have HC1 := fun w => refRangeErr_any ul uh (-1000000000) 1000000000 w
  have HC2 := fun w => refRangeErr_any ll lh (-1000000000) 1000000000 w
  obtain ⟨E1, hE1⟩ : ∃ E, rangeE ul uh (-1000000000) 1000000000 = E := ⟨_, rfl⟩
  obtain ⟨E2, hE2⟩ : ∃ E, rangeE ll lh (-1000000000) 1000000000 = E := ⟨_, rfl⟩
  rw [hE1, hE2] at H1
  rw [hE1] at HZ1 HC1; rw [hE2] at HZ2 HC2
  clear hE1 hE2
  go_enter Tryz.func44, Tryz.ntmps44
  go_wp2_with fail
  have b0 := ((Blk.new w 48 #[.int .i64 ul, .int .i64 uh]).alloc (.cells #[.int .i64 ll, .int .i64 lh] 48)).alloc (.cells #[.int .i64 0, .int .i64 0] 48)
  have b1 := (Blk.new (w.alloc (.cells #[.int .i64 ul, .int .i64 uh] 48)) 48 #[.int .i64 ll, .int .i64 lh]).alloc (.cells #[.int .i64 0, .int .i64 0] 48)
  have b2 := Blk.new ((w.alloc (.cells #[.int .i64 ul, .int .i64 uh] 48)).alloc (.cells #[.int .i64 ll, .int .i64 lh] 48)) 48 #[.int .i64 0, .int .i64 0]
  have hBB : Below w.heap.size w (((w.alloc (.cells #[.int .i64 ul, .int .i64 uh] 48)).alloc (.cells #[.int .i64 ll, .int .i64 lh] 48)).alloc (.cells #[.int .i64 0, .int .i64 0] 48)) := (by repeat (first | (with_reducible exact Below.refl _ _) | (with_reducible assumption) | ((with_reducible refine Below.setCell ?_ ?_ _); rotate_left; · (first | exact Nat.le_refl _ | (simp; done) | (simp; omega) | omega)) | ((with_reducible refine Below.alloc ?_ ?_ _); rotate_left; · (first | exact Nat.le_refl _ | (simp; done) | (simp; omega) | omega)) | (with_reducible apply Below.drew) | (with_reducible apply below_drewN') | (refine Below.trans ?_ (Below.mono (by assumption) (by first | exact Nat.le_refl _ | (simp; done) | (simp; omega) | omega))) | exact Below.refl _ _ | assumption))
  rw [World.size_alloc] at b1
  simp only [World.size_alloc] at b2
  obtain ⟨W, hW⟩ : ∃ W, ((w.alloc (.cells #[.int .i64 ul, .int .i64 uh] 48)).alloc (.cells #[.int .i64 ll, .int .i64 lh] 48)).alloc (.cells #[.int .i64 0, .int .i64 0] 48) = W := ⟨_, rfl⟩
  rw [hW] at b0 b1 b2 hBB ⊢
  clear hW
  have l_b0 := b0.lt
  obtain ⟨e0, e0', f0⟩ := blk2c b0
  have l_b1 := b1.lt
  obtain ⟨e1, e1', f1⟩ := blk2c b1
  have l_b2 := b2.lt
  obtain ⟨e2, e2', f2⟩ := blk2c b2
  have n02 : w.heap.size ≠ w.heap.size + 1 + 1 := by omega
  have n12 : w.heap.size + 1 ≠ w.heap.size + 1 + 1 := by omega
  refine (HC1 _).mono ?_
  rintro e w1 ⟨rfl, hB1⟩
  replace b0 := b0.gr hB1
  replace b1 := b1.gr hB1
  replace b2 := b2.gr hB1
  replace hBB := hBB.trans (Below.mono hB1 (Below.size hBB))
  clear hB1 l_b0 l_b1 l_b2 e0 e0' f0 e1 e1' f1 e2 e2' f2
  have l_b0 := b0.lt
  have l_b1 := b1.lt
  have l_b2 := b2.lt
  obtain ⟨e0, e0', f0⟩ := blk2c b0
  obtain ⟨e1, e1', f1⟩ := blk2c b1
  obtain ⟨e2, e2', f2⟩ := blk2c b2
  by_cases h1 : E1 = 0
  · subst h1
    have z1 := HZ1.out rfl
    go_wp2_with fail
    refine (HC2 _).mono ?_
    rintro e wc1 ⟨rfl, hBc1⟩
    replace b0 := b0.gr hBc1
    replace b1 := b1.gr hBc1
    replace b2 := b2.gr hBc1
    replace hBB := hBB.trans (Below.mono hBc1 (Below.size hBB))
    clear hBc1
    clear l_b0 e0 e0' f0 l_b1 e1 e1' f1 l_b2 e2 e2' f2
    have l_b0 := b0.lt
    have l_b1 := b1.lt
    have l_b2 := b2.lt
    obtain ⟨e0, e0', f0⟩ := blk2c b0
    obtain ⟨e1, e1', f1⟩ := blk2c b1
    obtain ⟨e2, e2', f2⟩ := blk2c b2
    by_cases h2 : E2 = 0
    · subst h2
      have z2 := HZ2.out rfl
      by_cases h3 : lh < ul
      · have HE : Hid (heightV ul uh ll lh = ⟨0, 0, 22⟩) := Lib.hid (by rw [H2.out, H1.out]; simp [h3])
        have b3 := b2.set2 (.int .i64 0) (.int .i64 0)
        obtain ⟨g0, g1, _⟩ := blk2c b3
        go_wp2
        rw [HE.out]
        exact bodyPost_ret (v := .tuple #[.agg #[.int .i64 0, .int .i64 0], .int .i64 22]) (by simp [results, Tryz.results44, go_sem, g0, g1]) rfl ⟨rfl, (hBB.setCell (by simp; omega) _).setCell (by simp; omega) _⟩
      · have HE : Hid (heightV ul uh ll lh = ⟨max 0 (ll - uh), lh - ul, 0⟩) := Lib.hid (by rw [H2.out, H1.out]; simp [h3])
        go_wp2
        have b3 := b2.set2 (.int .i64 (max 0 (ll - uh))) (.int .i64 (lh - ul))
        obtain ⟨g0, g1, _⟩ := blk2c b3
        rw [HE.out]
        exact bodyPost_ret (v := .tuple #[.agg #[.int .i64 (max 0 (ll - uh)), .int .i64 (lh - ul)], .int .i64 0]) (by simp [results, Tryz.results44, go_sem, g0, g1]) rfl ⟨rfl, (hBB.setCell (by simp; omega) _).setCell (by simp; omega) _⟩
    · have HE : Hid (heightV ul uh ll lh = ⟨0, 0, E2⟩) := Lib.hid (by rw [H2.out, H1.out]; simp [h2])
      have h2' : (E2 != 0) = true := by simpa using h2
      have b3 := b2.set2 (.int .i64 0) (.int .i64 0)
      obtain ⟨g0, g1, _⟩ := blk2c b3
      go_wp2
      rw [HE.out]
      exact bodyPost_ret (v := .tuple #[.agg #[.int .i64 0, .int .i64 0], .int .i64 E2]) (by simp [results, Tryz.results44, go_sem, g0, g1]) rfl ⟨rfl, (hBB.setCell (by simp; omega) _).setCell (by simp; omega) _⟩
  · have HE : Hid (heightV ul uh ll lh = ⟨0, 0, E1⟩) := Lib.hid (by rw [H2.out, H1.out]; simp [h1])
    have h1' : (E1 != 0) = true := by simpa using h1
    have b3 := b2.set2 (.int .i64 0) (.int .i64 0)
    obtain ⟨g0, g1, _⟩ := blk2c b3
    go_wp2
    rw [HE.out]
    exact bodyPost_ret (v := .tuple #[.agg #[.int .i64 0, .int .i64 0], .int .i64 E1]) (by simp [results, Tryz.results44, go_sem, g0, g1]) rfl ⟨rfl, (hBB.setCell (by simp; omega) _).setCell (by simp; omega) _⟩
end Go.Proofs.YtidgeagpgllkeaaGreat

namespace Go.Proofs.YtidgeagpgllkeaaGreat
open Go.RowKit

set_option maxRecDepth 100000 in
set_option maxHeartbeats 1000000 in
theorem refTip_any (x : Tip) (w : World) :
    Calls Tryz.prog 43 #[.agg (tipC x)] w fun e w' => e = .returned (reC (tipV x)) ∧ Below w.heap.size w w' := by
  unfold reC
  have H1 : Hid (tipE x = if rangeE x.tl x.th 0 1000000000000 ≠ 0 then rangeE x.tl x.th 0 1000000000000 else if rangeE x.ol x.oh 0 100000 ≠ 0 then rangeE x.ol x.oh 0 100000 else if wi x.sp 500 10000 then 0 else 2) := Lib.hid (by
    unfold tipE firstE firstE firstE firstE unlessE
    cases wi x.sp 500 10000 <;> simp)
  have H2 : Hid (tipV x = if tipE x = 0 then (if tipHi x < 0 then ⟨0, 0, 12⟩ else ⟨isq (tipLo x), isqUp (tipHi x), 0⟩) else ⟨0, 0, tipE x⟩) := Lib.hid rfl
  have HZ : Hid (tipE x = 0 → 0 ≤ x.tl ∧ x.tl ≤ x.th ∧ x.th ≤ 1000000000000 ∧ 0 ≤ x.ol ∧ x.ol ≤ x.oh ∧ x.oh ≤ 100000 ∧ 500 ≤ x.sp ∧ x.sp ≤ 10000) := Lib.hid tipE_zero
  have HLo : Hid (tipLo x = max 0 ((x.tl * x.sp / 20000000) * (x.tl * x.sp / 20000000) - x.oh * x.oh)) := Lib.hid rfl
  have HHi : Hid (tipHi x = ((x.th * x.sp + 20000000 - 1) / 20000000) * ((x.th * x.sp + 20000000 - 1) / 20000000) - x.ol * x.ol) := Lib.hid rfl
  have HC1 := fun w => refRangeErr_any x.tl x.th 0 1000000000000 w
  have HC2 := fun w => refRangeErr_any x.ol x.oh 0 100000 w
  have HC3 := fun w => bWithin_any x.sp 500 10000 w
  obtain ⟨E1, hE1⟩ : ∃ E, rangeE x.tl x.th 0 1000000000000 = E := ⟨_, rfl⟩
  obtain ⟨E2, hE2⟩ : ∃ E, rangeE x.ol x.oh 0 100000 = E := ⟨_, rfl⟩
  obtain ⟨S, hS⟩ : ∃ S, wi x.sp 500 10000 = S := ⟨_, rfl⟩
  rw [hE1, hE2, hS] at H1
  rw [hE1] at HC1; rw [hE2] at HC2; rw [hS] at HC3
  clear hE1 hE2 hS
  go_enter Tryz.func43, Tryz.ntmps43
  go_wp2_with fail
  have b0 := (Blk.new w 57 (tipC x)).alloc (.cells #[.int .i64 0, .int .i64 0] 48)
  have b2 := Blk.new (w.alloc (.cells (tipC x) 57)) 48 #[.int .i64 0, .int .i64 0]
  have hBB : Below w.heap.size w ((w.alloc (.cells (tipC x) 57)).alloc (.cells #[.int .i64 0, .int .i64 0] 48)) := (by repeat (first | (with_reducible exact Below.refl _ _) | (with_reducible assumption) | ((with_reducible refine Below.setCell ?_ ?_ _); rotate_left; · (first | exact Nat.le_refl _ | (simp; done) | (simp; omega) | omega)) | ((with_reducible refine Below.alloc ?_ ?_ _); rotate_left; · (first | exact Nat.le_refl _ | (simp; done) | (simp; omega) | omega)) | (with_reducible apply Below.drew) | (with_reducible apply below_drewN') | (refine Below.trans ?_ (Below.mono (by assumption) (by first | exact Nat.le_refl _ | (simp; done) | (simp; omega) | omega))) | exact Below.refl _ _ | assumption))
  rw [World.size_alloc] at b2
  obtain ⟨W, hW⟩ : ∃ W, (w.alloc (.cells (tipC x) 57)).alloc (.cells #[.int .i64 0, .int .i64 0] 48) = W := ⟨_, rfl⟩
  rw [hW] at b0 b2 hBB ⊢
  clear hW
  have n02 : w.heap.size ≠ w.heap.size + 1 := by omega
  have l_b0 := b0.lt
  obtain ⟨e0, e1, e2, e3, e4, f0⟩ := blk5c b0
  have l_b2 := b2.lt
  obtain ⟨g0, g1, f2⟩ := blk2c b2
  refine (HC1 _).mono ?_
  rintro e w1 ⟨rfl, hB1⟩
  replace b0 := b0.gr hB1
  replace b2 := b2.gr hB1
  replace hBB := hBB.trans (Below.mono hB1 (Below.size hBB))
  clear hB1 l_b0 l_b2 e0 e1 e2 e3 e4 f0 g0 g1 f2
  have l_b0 := b0.lt
  have l_b2 := b2.lt
  obtain ⟨e0, e1, e2, e3, e4, f0⟩ := blk5c b0
  obtain ⟨g0, g1, f2⟩ := blk2c b2
  by_cases h1 : E1 = 0
  · subst h1
    go_wp2_with fail
    refine (HC2 _).mono ?_
    rintro e wc2 ⟨rfl, hBc2⟩
    replace b0 := b0.gr hBc2
    replace b2 := b2.gr hBc2
    replace hBB := hBB.trans (Below.mono hBc2 (Below.size hBB))
    clear hBc2
    clear l_b0 e0 e1 e2 e3 e4 f0 l_b2 g0 g1 f2
    have l_b0 := b0.lt
    have l_b2 := b2.lt
    obtain ⟨e0, e1, e2, e3, e4, f0⟩ := blk5c b0
    obtain ⟨g0, g1, f2⟩ := blk2c b2
    by_cases h2 : E2 = 0
    · subst h2
      cases S
      · have HE : Hid (tipV x = ⟨0, 0, 2⟩) := Lib.hid (by rw [H2.out, H1.out]; simp)
        go_wp2_with fail
        refine (HC3 _).mono ?_
        rintro e w1 ⟨rfl, rfl⟩
        have b3 := b2.set2 (.int .i64 0) (.int .i64 0)
        obtain ⟨u0, u1, _⟩ := blk2c b3
        go_wp2
        rw [HE.out]
        exact bodyPost_ret (v := .tuple #[.agg #[.int .i64 0, .int .i64 0], .int .i64 2]) (by simp [results, Tryz.results43, go_sem, u0, u1]) rfl ⟨rfl, (hBB.setCell (by simp) _).setCell (by simp) _⟩
      · have HE0 : tipE x = 0 := by rw [H1.out]; simp
        have HV : Hid (tipV x = if tipHi x < 0 then ⟨0, 0, 12⟩ else ⟨isq (tipLo x), isqUp (tipHi x), 0⟩) := Lib.hid (by rw [H2.out, HE0]; rfl)
        obtain ⟨k1, k2, k3, k4, k5, k6, k7, k8⟩ := HZ.out HE0
        clear HE0
        have m1 := mul_bd0 k1 (show x.tl ≤ 1000000000000 by omega) (show 0 ≤ x.sp by omega) k8
        have m2 := mul_bd0 (show 0 ≤ x.th by omega) k3 (show 0 ≤ x.sp by omega) k8
        go_wp2_with fail
        refine (HC3 _).mono ?_
        rintro e w1 ⟨rfl, rfl⟩
        go_wp2_with fail
        refine wp_region_b 16 (by kernel_rfl) (by kernel_rfl) ?_; simp only [List.take, List.drop]
        repeat (first
          | (apply StepsD.run
             · go_simp
               done
             · intro w' hS K hK
               have hc := (bcell hS).1
               have hf := (bcell hS).2
               have hz := hS.size
               try simp at hz
               go_simp
               try go_bits
               first
                 | exact hK _ hS
                 | (go_at_call 30; (with_reducible refine (floor_any _ _ (by omega) (by omega) _).mono ?_); rintro e w1 ⟨rfl, rfl⟩; exact hK _ hS)
                 | (go_at_call 32; (with_reducible refine (ceil_any _ _ (by omega) (by omega) _).mono ?_); rintro e w1 ⟨rfl, rfl⟩; exact hK _ hS)
                 | exact hK _ (by repeat (first | (with_reducible exact Below.refl _ _) | (with_reducible assumption) | ((with_reducible refine Below.setCell ?_ ?_ _); rotate_left; · (first | exact Nat.le_refl _ | (simp; done) | (simp; omega) | omega)) | ((with_reducible refine Below.alloc ?_ ?_ _); rotate_left; · (first | exact Nat.le_refl _ | (simp; done) | (simp; omega) | omega)) | (with_reducible apply Below.drew) | (with_reducible apply below_drewN') | (refine Below.trans ?_ (Below.mono (by assumption) (by first | exact Nat.le_refl _ | (simp; done) | (simp; omega) | omega))) | exact Below.refl _ _ | assumption))
             · simp [Act.put]
               done)
          | (apply StepsD.pass
             · go_simp
               done
             · simp only [Act.put, List.setIfInBounds_toArray, List.set_cons_succ, List.set_cons_zero]
               rfl))
        refine StepsD.done ?_
        intro w2 hS
        replace b0 := b0.gr hS
        replace b2 := b2.gr hS
        replace hBB := hBB.trans (Below.mono hS (Below.size hBB))
        clear hS
        clear l_b0 e0 e1 e2 e3 e4 f0 l_b2 g0 g1 f2
        have l_b0 := b0.lt
        have l_b2 := b2.lt
        obtain ⟨e0, e1, e2, e3, e4, f0⟩ := blk5c b0
        obtain ⟨g0, g1, f2⟩ := blk2c b2
        have hce : -(-(x.th * x.sp) / 20000000) = (x.th * x.sp + 20000000 - 1) / 20000000 := by omega
        rw [hce]
        clear hce
        have q1 : 0 ≤ x.tl * x.sp / 20000000 ∧ x.tl * x.sp / 20000000 ≤ 500000000 := by omega
        have q2 : 0 ≤ (x.th * x.sp + 20000000 - 1) / 20000000 ∧ (x.th * x.sp + 20000000 - 1) / 20000000 ≤ 500000000 := by omega
        clear m1 m2
        obtain ⟨a, ha⟩ : ∃ a, x.tl * x.sp / 20000000 = a := ⟨_, rfl⟩
        obtain ⟨b, hb⟩ : ∃ b, (x.th * x.sp + 20000000 - 1) / 20000000 = b := ⟨_, rfl⟩
        rw [ha] at q1 HLo ⊢
        rw [hb] at q2 HHi ⊢
        clear ha hb
        have r1 := mul_bd0 q1.1 q1.2 q1.1 q1.2
        have r2 := mul_bd0 q2.1 q2.2 q2.1 q2.2
        have r3 := mul_bd0 (show 0 ≤ x.oh by omega) k6 (show 0 ≤ x.oh by omega) k6
        have r4 := mul_bd0 k4 (show x.ol ≤ 100000 by omega) k4 (show x.ol ≤ 100000 by omega)
        go_wp2_with fail
        refine wp_region_b 24 (by kernel_rfl) (by kernel_rfl) ?_; simp only [List.take, List.drop]
        repeat (first
          | (apply StepsD.run
             · go_simp
               done
             · intro w' hS K hK
               have hc := (bcell hS).1
               have hf := (bcell hS).2
               have hz := hS.size
               try simp at hz
               go_simp
               try go_bits
               first
                 | exact hK _ hS
                 | exact hK _ (by repeat (first | (with_reducible exact Below.refl _ _) | (with_reducible assumption) | ((with_reducible refine Below.setCell ?_ ?_ _); rotate_left; · (first | exact Nat.le_refl _ | (simp; done) | (simp; omega) | omega)) | ((with_reducible refine Below.alloc ?_ ?_ _); rotate_left; · (first | exact Nat.le_refl _ | (simp; done) | (simp; omega) | omega)) | (with_reducible apply Below.drew) | (with_reducible apply below_drewN') | (refine Below.trans ?_ (Below.mono (by assumption) (by first | exact Nat.le_refl _ | (simp; done) | (simp; omega) | omega))) | exact Below.refl _ _ | assumption))
             · simp [Act.put]
               done)
          | (apply StepsD.pass
             · go_simp
               done
             · simp only [Act.put, List.setIfInBounds_toArray, List.set_cons_succ, List.set_cons_zero]
               rfl))
        refine StepsD.done ?_
        intro w3 hS
        replace b0 := b0.gr hS
        replace b2 := b2.gr hS
        replace hBB := hBB.trans (Below.mono hS (Below.size hBB))
        clear hS
        clear l_b0 e0 e1 e2 e3 e4 f0 l_b2 g0 g1 f2
        have l_b0 := b0.lt
        have l_b2 := b2.lt
        obtain ⟨e0, e1, e2, e3, e4, f0⟩ := blk5c b0
        obtain ⟨g0, g1, f2⟩ := blk2c b2
        have HLb : Hid (0 ≤ max 0 (a * a - x.oh * x.oh) ∧ max 0 (a * a - x.oh * x.oh) < 1152921504606846976) := Lib.hid (by omega)
        have HHb : Hid (b * b - x.ol * x.ol < 1152921504606846976) := Lib.hid (by omega)
        obtain ⟨L, hL⟩ : ∃ L, a * a - x.oh * x.oh = L := ⟨_, rfl⟩
        obtain ⟨M, hM⟩ : ∃ M, b * b - x.ol * x.ol = M := ⟨_, rfl⟩
        rw [hL] at HLo HLb ⊢
        rw [hM] at HHi HHb ⊢
        clear hL hM r1 r2 r3 r4 q1 q2
        by_cases hneg : M < 0
        · have HE : Hid (tipV x = ⟨0, 0, 12⟩) := Lib.hid (by rw [HV.out, HHi.out, if_pos hneg])
          have b3 := b2.set2 (.int .i64 0) (.int .i64 0)
          obtain ⟨u0, u1, _⟩ := blk2c b3
          go_wp2
          rw [HE.out]
          exact bodyPost_ret (v := .tuple #[.agg #[.int .i64 0, .int .i64 0], .int .i64 12]) (by simp [results, Tryz.results43, go_sem, u0, u1]) rfl ⟨rfl, (hBB.setCell (by simp) _).setCell (by simp) _⟩
        · have HD1 := fun w => bRoot_any (max 0 L) HLb.out.1 HLb.out.2 w
          have HD2 := fun w => rootUp_any M (by omega) HHb.out w
          have HE : Hid (tipV x = ⟨isq (max 0 L), isqUp M, 0⟩) := Lib.hid (by rw [HV.out, HHi.out, if_neg hneg, HLo.out])
          obtain ⟨RA, hRA⟩ : ∃ R, isq (max 0 L) = R := ⟨_, rfl⟩
          obtain ⟨RB, hRB⟩ : ∃ R, isqUp M = R := ⟨_, rfl⟩
          rw [hRA] at HD1; rw [hRB] at HD2; rw [hRA, hRB] at HE
          clear hRA hRB
          have b3 := b2.set2 (.int .i64 RA) (.int .i64 RB)
          obtain ⟨u0, u1, _⟩ := blk2c b3
          go_wp2_with fail
          refine (HD1 _).mono ?_
          rintro e w1 ⟨rfl, rfl⟩
          go_wp2_with fail
          refine (HD2 _).mono ?_
          rintro e w1 ⟨rfl, rfl⟩
          go_wp2
          rw [HE.out]
          exact bodyPost_ret (v := .tuple #[.agg #[.int .i64 RA, .int .i64 RB], .int .i64 0]) (by simp [results, Tryz.results43, go_sem, u0, u1]) rfl ⟨rfl, (hBB.setCell (by simp) _).setCell (by simp) _⟩
    · have HE : Hid (tipV x = ⟨0, 0, E2⟩) := Lib.hid (by rw [H2.out, H1.out]; simp [h2])
      have h2' : (E2 != 0) = true := by simpa using h2
      have b3 := b2.set2 (.int .i64 0) (.int .i64 0)
      obtain ⟨u0, u1, _⟩ := blk2c b3
      go_wp2
      rw [HE.out]
      exact bodyPost_ret (v := .tuple #[.agg #[.int .i64 0, .int .i64 0], .int .i64 E2]) (by simp [results, Tryz.results43, go_sem, u0, u1]) rfl ⟨rfl, (hBB.setCell (by simp) _).setCell (by simp) _⟩
  · have HE : Hid (tipV x = ⟨0, 0, E1⟩) := Lib.hid (by rw [H2.out, H1.out]; simp [h1])
    have h1' : (E1 != 0) = true := by simpa using h1
    have b3 := b2.set2 (.int .i64 0) (.int .i64 0)
    obtain ⟨u0, u1, _⟩ := blk2c b3
    go_wp2
    rw [HE.out]
    exact bodyPost_ret (v := .tuple #[.agg #[.int .i64 0, .int .i64 0], .int .i64 E1]) (by simp [results, Tryz.results43, go_sem, u0, u1]) rfl ⟨rfl, (hBB.setCell (by simp) _).setCell (by simp) _⟩
end Go.Proofs.YtidgeagpgllkeaaGreat

namespace Go.Proofs.YtidgeagpgllkeaaGreat
open Go.RowKit

set_option maxRecDepth 100000 in
set_option maxHeartbeats 1000000 in
theorem flawTips_any (x : Tip) (ul uh ll lh : Int) (w : World) :
    Calls Tryz.prog 7 #[.agg (tipC x), .agg (rgC ul uh), .agg (rgC ll lh)] w fun e w' => e = .returned (.bool true) ∧ Below w.heap.size w w' := by
  have C1 := fun w => tipDepth_any x w
  have C2 := fun w => heightOf_any ul uh ll lh w
  have C3 := fun w => refTip_any x w
  have C4 := fun w => refHeight_any ul uh ll lh w
  unfold reC at C1 C2 C3 C4
  obtain ⟨⟨dl, dh, de⟩, hd⟩ : ∃ r, tipV x = r := ⟨_, rfl⟩
  obtain ⟨⟨hl, hh, he⟩, hv⟩ : ∃ r, heightV ul uh ll lh = r := ⟨_, rfl⟩
  rw [hd] at C1 C3
  rw [hv] at C2 C4
  clear hd hv
  dsimp only at C1 C2 C3 C4
  unfold rgC at C2 C4
  have E1 := eq_range_same dl dh
  have E2 := eq_range_same hl hh
  unfold rgC
  go_enter Tryz.func7, Tryz.ntmps7
  go_wp2_with fail
  have b3 := ((Blk.new w 57 (tipC x)).alloc (.cells #[.int .i64 ul, .int .i64 uh] 48)).alloc (.cells #[.int .i64 ll, .int .i64 lh] 48)
  have b4 := (Blk.new (w.alloc (.cells (tipC x) 57)) 48 #[.int .i64 ul, .int .i64 uh]).alloc (.cells #[.int .i64 ll, .int .i64 lh] 48)
  have b5 := Blk.new ((w.alloc (.cells (tipC x) 57)).alloc (.cells #[.int .i64 ul, .int .i64 uh] 48)) 48 #[.int .i64 ll, .int .i64 lh]
  have hBB : Below w.heap.size w (((w.alloc (.cells (tipC x) 57)).alloc (.cells #[.int .i64 ul, .int .i64 uh] 48)).alloc (.cells #[.int .i64 ll, .int .i64 lh] 48)) := (by repeat (first | (with_reducible exact Below.refl _ _) | (with_reducible assumption) | ((with_reducible refine Below.setCell ?_ ?_ _); rotate_left; · (first | exact Nat.le_refl _ | (simp; done) | (simp; omega) | omega)) | ((with_reducible refine Below.alloc ?_ ?_ _); rotate_left; · (first | exact Nat.le_refl _ | (simp; done) | (simp; omega) | omega)) | (with_reducible apply Below.drew) | (with_reducible apply below_drewN') | (refine Below.trans ?_ (Below.mono (by assumption) (by first | exact Nat.le_refl _ | (simp; done) | (simp; omega) | omega))) | exact Below.refl _ _ | assumption))
  simp only [World.size_alloc] at b4 b5
  obtain ⟨W, hW⟩ : ∃ W, (((w.alloc (.cells (tipC x) 57)).alloc (.cells #[.int .i64 ul, .int .i64 uh] 48)).alloc (.cells #[.int .i64 ll, .int .i64 lh] 48)) = W := ⟨_, rfl⟩
  rw [hW] at b3 b4 b5 hBB ⊢
  clear hW
  refine (awake_any _).mono ?_
  rintro e w1 ⟨rfl, hB1⟩
  replace b3 := b3.gr hB1
  replace b4 := b4.gr hB1
  replace b5 := b5.gr hB1
  replace hBB := hBB.trans (Below.mono hB1 (Below.size hBB))
  clear hB1
  have l_b3 := b3.lt
  obtain ⟨e0, e1, e2, e3, e4, f3⟩ := blk5c b3
  have l_b4 := b4.lt
  obtain ⟨g0, g1, f4⟩ := blk2c b4
  have l_b5 := b5.lt
  obtain ⟨h0, h1, f5⟩ := blk2c b5
  go_wp2_with fail
  refine (C1 _).mono ?_
  rintro e wc3 ⟨rfl, hBc3⟩
  replace b3 := b3.gr hBc3
  replace b4 := b4.gr hBc3
  replace b5 := b5.gr hBc3
  replace hBB := hBB.trans (Below.mono hBc3 (Below.size hBB))
  clear hBc3
  clear l_b3 e0 e1 e2 e3 e4 f3 l_b4 g0 g1 f4 l_b5 h0 h1 f5
  have l_b3 := b3.lt
  have l_b4 := b4.lt
  have l_b5 := b5.lt
  obtain ⟨e0, e1, e2, e3, e4, f3⟩ := blk5c b3
  obtain ⟨g0, g1, f4⟩ := blk2c b4
  obtain ⟨h0, h1, f5⟩ := blk2c b5
  have b7 := Blk.new wc3 48 #[.int .i64 dl, .int .i64 dh]
  replace b3 := b3.alloc (.cells #[.int .i64 dl, .int .i64 dh] 48 (0, 0))
  replace b4 := b4.alloc (.cells #[.int .i64 dl, .int .i64 dh] 48 (0, 0))
  replace b5 := b5.alloc (.cells #[.int .i64 dl, .int .i64 dh] 48 (0, 0))
  replace hBB := hBB.alloc (Below.size hBB) (.cells #[.int .i64 dl, .int .i64 dh] 48 (0, 0))
  clear l_b3 e0 e1 e2 e3 e4 f3 l_b4 g0 g1 f4 l_b5 h0 h1 f5
  have l_b3 := b3.lt
  have l_b4 := b4.lt
  have l_b5 := b5.lt
  have l_b7 := b7.lt
  obtain ⟨e0, e1, e2, e3, e4, f3⟩ := blk5c b3
  obtain ⟨g0, g1, f4⟩ := blk2c b4
  obtain ⟨h0, h1, f5⟩ := blk2c b5
  obtain ⟨i0, i1, f7⟩ := blk2c b7
  go_wp2_with fail
  refine (C2 _).mono ?_
  rintro e wc4 ⟨rfl, hBc4⟩
  replace b3 := b3.gr hBc4
  replace b4 := b4.gr hBc4
  replace b5 := b5.gr hBc4
  replace b7 := b7.gr hBc4
  replace hBB := hBB.trans (Below.mono hBc4 (Below.size hBB))
  clear hBc4
  clear l_b3 e0 e1 e2 e3 e4 f3 l_b4 g0 g1 f4 l_b5 h0 h1 f5 l_b7 i0 i1 f7
  have l_b3 := b3.lt
  have l_b4 := b4.lt
  have l_b5 := b5.lt
  have l_b7 := b7.lt
  obtain ⟨e0, e1, e2, e3, e4, f3⟩ := blk5c b3
  obtain ⟨g0, g1, f4⟩ := blk2c b4
  obtain ⟨h0, h1, f5⟩ := blk2c b5
  obtain ⟨i0, i1, f7⟩ := blk2c b7
  have b9 := Blk.new wc4 48 #[.int .i64 hl, .int .i64 hh]
  replace b3 := b3.alloc (.cells #[.int .i64 hl, .int .i64 hh] 48 (0, 0))
  replace b4 := b4.alloc (.cells #[.int .i64 hl, .int .i64 hh] 48 (0, 0))
  replace b5 := b5.alloc (.cells #[.int .i64 hl, .int .i64 hh] 48 (0, 0))
  replace b7 := b7.alloc (.cells #[.int .i64 hl, .int .i64 hh] 48 (0, 0))
  replace hBB := hBB.alloc (Below.size hBB) (.cells #[.int .i64 hl, .int .i64 hh] 48 (0, 0))
  clear l_b3 e0 e1 e2 e3 e4 f3 l_b4 g0 g1 f4 l_b5 h0 h1 f5 l_b7 i0 i1 f7
  have l_b3 := b3.lt
  have l_b4 := b4.lt
  have l_b5 := b5.lt
  have l_b7 := b7.lt
  have l_b9 := b9.lt
  obtain ⟨e0, e1, e2, e3, e4, f3⟩ := blk5c b3
  obtain ⟨g0, g1, f4⟩ := blk2c b4
  obtain ⟨h0, h1, f5⟩ := blk2c b5
  obtain ⟨i0, i1, f7⟩ := blk2c b7
  obtain ⟨j0, j1, f9⟩ := blk2c b9
  go_wp2_with fail
  refine (C3 _).mono ?_
  rintro e wc5 ⟨rfl, hBc5⟩
  replace b3 := b3.gr hBc5
  replace b4 := b4.gr hBc5
  replace b5 := b5.gr hBc5
  replace b7 := b7.gr hBc5
  replace b9 := b9.gr hBc5
  replace hBB := hBB.trans (Below.mono hBc5 (Below.size hBB))
  clear hBc5
  clear l_b3 e0 e1 e2 e3 e4 f3 l_b4 g0 g1 f4 l_b5 h0 h1 f5 l_b7 i0 i1 f7 l_b9 j0 j1 f9
  have l_b3 := b3.lt
  have l_b4 := b4.lt
  have l_b5 := b5.lt
  have l_b7 := b7.lt
  have l_b9 := b9.lt
  obtain ⟨e0, e1, e2, e3, e4, f3⟩ := blk5c b3
  obtain ⟨g0, g1, f4⟩ := blk2c b4
  obtain ⟨h0, h1, f5⟩ := blk2c b5
  obtain ⟨i0, i1, f7⟩ := blk2c b7
  obtain ⟨j0, j1, f9⟩ := blk2c b9
  have b11 := Blk.new wc5 48 #[.int .i64 dl, .int .i64 dh]
  replace b3 := b3.alloc (.cells #[.int .i64 dl, .int .i64 dh] 48 (0, 0))
  replace b4 := b4.alloc (.cells #[.int .i64 dl, .int .i64 dh] 48 (0, 0))
  replace b5 := b5.alloc (.cells #[.int .i64 dl, .int .i64 dh] 48 (0, 0))
  replace b7 := b7.alloc (.cells #[.int .i64 dl, .int .i64 dh] 48 (0, 0))
  replace b9 := b9.alloc (.cells #[.int .i64 dl, .int .i64 dh] 48 (0, 0))
  replace hBB := hBB.alloc (Below.size hBB) (.cells #[.int .i64 dl, .int .i64 dh] 48 (0, 0))
  clear l_b3 e0 e1 e2 e3 e4 f3 l_b4 g0 g1 f4 l_b5 h0 h1 f5 l_b7 i0 i1 f7 l_b9 j0 j1 f9
  have l_b3 := b3.lt
  have l_b4 := b4.lt
  have l_b5 := b5.lt
  have l_b7 := b7.lt
  have l_b9 := b9.lt
  have l_b11 := b11.lt
  obtain ⟨e0, e1, e2, e3, e4, f3⟩ := blk5c b3
  obtain ⟨g0, g1, f4⟩ := blk2c b4
  obtain ⟨h0, h1, f5⟩ := blk2c b5
  obtain ⟨i0, i1, f7⟩ := blk2c b7
  obtain ⟨j0, j1, f9⟩ := blk2c b9
  obtain ⟨k0, k1, f11⟩ := blk2c b11
  go_wp2_with fail
  refine (C4 _).mono ?_
  rintro e wc6 ⟨rfl, hBc6⟩
  replace b3 := b3.gr hBc6
  replace b4 := b4.gr hBc6
  replace b5 := b5.gr hBc6
  replace b7 := b7.gr hBc6
  replace b9 := b9.gr hBc6
  replace b11 := b11.gr hBc6
  replace hBB := hBB.trans (Below.mono hBc6 (Below.size hBB))
  clear hBc6
  clear l_b3 e0 e1 e2 e3 e4 f3 l_b4 g0 g1 f4 l_b5 h0 h1 f5 l_b7 i0 i1 f7 l_b9 j0 j1 f9 l_b11 k0 k1 f11
  have l_b3 := b3.lt
  have l_b4 := b4.lt
  have l_b5 := b5.lt
  have l_b7 := b7.lt
  have l_b9 := b9.lt
  have l_b11 := b11.lt
  obtain ⟨e0, e1, e2, e3, e4, f3⟩ := blk5c b3
  obtain ⟨g0, g1, f4⟩ := blk2c b4
  obtain ⟨h0, h1, f5⟩ := blk2c b5
  obtain ⟨i0, i1, f7⟩ := blk2c b7
  obtain ⟨j0, j1, f9⟩ := blk2c b9
  obtain ⟨k0, k1, f11⟩ := blk2c b11
  have b13 := Blk.new wc6 48 #[.int .i64 hl, .int .i64 hh]
  replace b3 := b3.alloc (.cells #[.int .i64 hl, .int .i64 hh] 48 (0, 0))
  replace b4 := b4.alloc (.cells #[.int .i64 hl, .int .i64 hh] 48 (0, 0))
  replace b5 := b5.alloc (.cells #[.int .i64 hl, .int .i64 hh] 48 (0, 0))
  replace b7 := b7.alloc (.cells #[.int .i64 hl, .int .i64 hh] 48 (0, 0))
  replace b9 := b9.alloc (.cells #[.int .i64 hl, .int .i64 hh] 48 (0, 0))
  replace b11 := b11.alloc (.cells #[.int .i64 hl, .int .i64 hh] 48 (0, 0))
  replace hBB := hBB.alloc (Below.size hBB) (.cells #[.int .i64 hl, .int .i64 hh] 48 (0, 0))
  clear l_b3 e0 e1 e2 e3 e4 f3 l_b4 g0 g1 f4 l_b5 h0 h1 f5 l_b7 i0 i1 f7 l_b9 j0 j1 f9 l_b11 k0 k1 f11
  have l_b3 := b3.lt
  have l_b4 := b4.lt
  have l_b5 := b5.lt
  have l_b7 := b7.lt
  have l_b9 := b9.lt
  have l_b11 := b11.lt
  have l_b13 := b13.lt
  obtain ⟨e0, e1, e2, e3, e4, f3⟩ := blk5c b3
  obtain ⟨g0, g1, f4⟩ := blk2c b4
  obtain ⟨h0, h1, f5⟩ := blk2c b5
  obtain ⟨i0, i1, f7⟩ := blk2c b7
  obtain ⟨j0, j1, f9⟩ := blk2c b9
  obtain ⟨k0, k1, f11⟩ := blk2c b11
  obtain ⟨m0, m1, f13⟩ := blk2c b13
  go_wp2
  go_ret
  exact ⟨rfl, hBB⟩
end Go.Proofs.YtidgeagpgllkeaaGreat
