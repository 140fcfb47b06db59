/- Contract: whether a direction is steep between two slopes (package ray), for the slopes of right set-ups. Plain laws: the gaps of parts, and the steepness of direct beams. No program in sight. -/
import Derived.Test.YtfbnpfhnffahdaaGreatDoorCyB
import Derived.Test.YtfbnpfhnffahdaaGreatDoorRgS
import Derived.Test.YtfbnpfhnffahdaaGreatDoorCxF
import Derived.Test.YtfbnpfhnffahdaaGreatDoorCxG
namespace Go.Proofs.YtfbnpfhnffahdaaGreatDoor
open Go.RowKit

set_option maxHeartbeats 400000 in
theorem ySize_any (n : Int) (h : -9223372036854775807 ≤ n ∧ n ≤ 9223372036854775807) (w : World) :
    Calls Tryz.prog 89 #[.int .i64 n] w fun e w' => e = .returned (.int .i64 (max n (-n))) ∧ w = w' := by
  go_enter Tryz.func89, Tryz.ntmps89
  go_wp2
  all_goals
    go_ret
    refine ⟨?_, rfl⟩
    first
      | rfl
      | (show Ending.returned (Value.int .i64 _) = _; congr 2; omega)

set_option maxHeartbeats 400000 in
theorem yGcd_any (a b : Int) (ha : -9223372036854775808 ≤ a ∧ a ≤ 9223372036854775807) (hb : -9223372036854775807 ≤ b ∧ b ≤ 9223372036854775807) (hab : b = 0 → -9223372036854775807 ≤ a) (w : World) :
    Calls Tryz.prog 124 #[.int .i64 a, .int .i64 b] w fun e w' => e = .returned (.int .i64 (Int.gcd a b)) ∧ Below w.heap.size w w' := by
  have HAB := Lib.hid hab; clear hab
  go_enter Tryz.func124, Tryz.ntmps124
  go_wp2
  go_loopw [0, 1] (fun x y wr => ∃ p q : Int, x = .int .i64 p ∧ y = .int .i64 q ∧ (-9223372036854775808 ≤ p ∧ p ≤ 9223372036854775807) ∧ (-9223372036854775807 ≤ q ∧ q ≤ 9223372036854775807) ∧ Hid (q = 0 → -9223372036854775807 ≤ p) ∧ Int.gcd p q = Int.gcd a b ∧ Below w.heap.size w wr) (fun _ y _ => (intOf y).natAbs)
  case atStart => exact ⟨a, b, rfl, rfl, ha, hb, HAB, rfl, Below.refl _ _⟩
  case round =>
    obtain ⟨p, q, rfl, rfl, hp, hq, hpq, hg, hB⟩ := hrel
    have HG := Lib.hid hg; clear hg
    by_cases h0 : q = 0
    · subst h0
      have hp' := hpq.out rfl
      have HE : Hid ((Int.gcd a b : Int) = max p (-p)) := by rw [← HG.out]; exact gcd_zero_max p
      go_wp2_with (go_at_call 89; refine (ySize_any _ (by omega) _).mono ?_; rintro e w' ⟨rfl, rfl⟩)
      go_ret
      exact ⟨by rw [HE.out]; rfl, hB⟩
    · have h0' : (q != 0) = true := by simpa using h0
      have h0'' : (q == 0) = false := by simpa using h0
      have hm := tmod_bound p q h0
      go_wp2
      go_quiet (fail)
      go_wp2
      refine ⟨⟨q, p.tmod q, rfl, rfl, by omega, by omega, fun _ => by omega, by rw [← HG.out]; exact gcd_step p q, below_drewN' hB _⟩, by show (p.tmod q).natAbs < q.natAbs; exact hm⟩


theorem blk2y {w : World} {g t : Nat} {v0 v1 : Value} (h : Blk w g t #[v0, v1]) : w.cell? ⟨g, 0, none⟩ = some v0 ∧ w.cell? ⟨g, 1, none⟩ = some v1 ∧ ∀ i, w.frozen? ⟨g, i, none⟩ = false := ⟨h.cell 0, h.cell 1, h.frozen⟩
set_option maxHeartbeats 400000 in
theorem yWithin_any (n lo hi : Int) (w : World) :
    Calls Tryz.prog 123 #[.int .i64 n, .int .i64 lo, .int .i64 hi] w fun e w' => e = .returned (.bool (wi n lo hi)) ∧ w = w' := by
  go_enter Tryz.func123, Tryz.ntmps123
  go_wp2
  all_goals
    go_ret
    exact ⟨by simp [wi, *]; try omega, rfl⟩
set_option maxHeartbeats 400000 in
theorem ySmall_any (n m : Int) (h0 : 0 ≤ m) (h1 : m ≤ 1000000000000) (w : World) :
    Calls Tryz.prog 122 #[.int .i64 n, .int .i64 m] w fun e w' => e = .returned (.bool (wi n (-m) m)) ∧ w = w' := by
  go_enter Tryz.func122, Tryz.ntmps122
  go_wp2_with (go_at_call 123; refine (yWithin_any _ _ _ _).mono ?_; rintro e w1 ⟨rfl, rfl⟩)
  go_ret
  exact ⟨rfl, rfl⟩
theorem yMust_true (e0 : Int) (w : World) : Calls Tryz.prog 121 #[.bool true, .int .i64 e0] w fun e w' => e = .returned (.int .i64 0) ∧ w = w' := by
  go_enter Tryz.func121, Tryz.ntmps121
  go_wp2
  go_ret
  exact ⟨rfl, rfl⟩
set_option maxHeartbeats 400000 in
theorem yFirst_zero (A : Option Addr) (c B : Nat) (w : World) (hR : Row w B 1 A 3 [.int .i64 0, .int .i64 0, .int .i64 0]) :
    Calls Tryz.prog 86 #[.slice A 3 c] w fun e w' => e = .returned (.int .i64 0) ∧ w = w' := by
  obtain ⟨g, o, rfl, _, hc⟩ := hR.2 (by omega)
  have c0 := hc 0 _ rfl
  have c1 := hc 1 _ rfl
  have c2 := hc 2 _ rfl
  simp only [Nat.add_zero] at c0
  go_enter Tryz.func86, Tryz.ntmps86
  go_wp2
  go_loopw [7] (fun i wr => wr = w ∧ (i = .int .i64 0 ∨ i = .int .i64 1 ∨ i = .int .i64 2 ∨ i = .int .i64 3)) (fun i _ => 3 - (intOf i).toNat)
  case atStart => exact ⟨rfl, .inl rfl⟩
  case round =>
    obtain ⟨rfl, hi⟩ := hrel
    rcases hi with rfl | rfl | rfl | rfl
    · go_wp2
      go_roundw
      case rel => simp
      case measure => simp [intOf]
    · go_wp2
      go_roundw
      case rel => simp
      case measure => simp [intOf]
    · go_wp2
      go_roundw
      case rel => simp
      case measure => simp [intOf]
    · go_wp2
      go_ret
      exact ⟨rfl, rfl⟩
set_option maxHeartbeats 400000 in
theorem directionErr_ok (d0 d1 : Int) (w : World) (h0 : -1000 ≤ d0 ∧ d0 ≤ 1000) (h1 : 1 ≤ d1 ∧ d1 ≤ 1000) :
    Calls Tryz.prog 87 #[.agg #[.int .i64 d0, .int .i64 d1]] w fun e w' => e = .returned (.int .i64 0) ∧ Below w.heap.size w w' := by
  have w1 : wi d0 (-1000) 1000 = true := by simp [wi]; omega
  have w2 : wi d1 1 1000 = true := by simp [wi]; omega
  have W1 := Lib.hid w1; have W2 := Lib.hid w2
  clear w1 w2
  go_enter Tryz.func87, Tryz.ntmps87
  go_wp2_with (first | (go_at_call 122; refine (ySmall_any _ _ (by omega) (by omega) _).mono ?_; rw [W1.out]; rintro e w1 ⟨rfl, rfl⟩) | (go_at_call 123; refine (yWithin_any _ _ _ _).mono ?_; rw [W2.out]; rintro e w1 ⟨rfl, rfl⟩) | (go_at_call 121; refine (yMust_true _ _).mono ?_; rintro e w1 ⟨rfl, rfl⟩))
  go_ret
  exact ⟨rfl, (by repeat (first | (with_reducible exact Below.refl _ _) | (with_reducible assumption) | ((with_reducible refine Below.setCell ?_ ?_ _); rotate_left; · (first | exact Nat.le_refl _ | (simp; done) | (simp; omega) | omega)) | ((with_reducible refine Below.alloc ?_ ?_ _); rotate_left; · (first | exact Nat.le_refl _ | (simp; done) | (simp; omega) | omega)) | (with_reducible apply Below.drew) | (with_reducible apply below_drewN') | (refine Below.trans ?_ (Below.mono (by assumption) (by first | exact Nat.le_refl _ | (simp; done) | (simp; omega) | omega))) | exact Below.refl _ _ | assumption))⟩
set_option maxHeartbeats 400000 in
theorem shareErr_ok (n d : Int) (w : World) (h : tanE n d = 0) :
    Calls Tryz.prog 88 #[.agg #[.int .i64 n, .int .i64 d]] w fun e w' => e = .returned (.int .i64 0) ∧ Below w.heap.size w w' := by
  obtain ⟨a1, a2, a3, a4⟩ := tanE_zero h
  have hg : Int.gcd n d = 1 := by unfold tanE lowB at h; grind
  have HG : Hid (((Int.gcd n d : Nat) : Int) = 1) := Lib.hid (by rw [hg]; rfl)
  have w2 : wi n 0 1000000000 = true := by simp [wi]; omega
  have W2 := Lib.hid w2
  clear h hg w2
  go_enter Tryz.func88, Tryz.ntmps88
  go_wp2_with (first | (go_at_call 124; refine (yGcd_any _ _ (by omega) (by omega) (by omega) _).mono ?_; rw [HG.out]; rintro e w1 ⟨rfl, hB1⟩; obtain ⟨hc1, hf1⟩ := bcell hB1; have hz1 := hB1.size; (try simp at hz1)) | (go_at_call 123; refine (yWithin_any _ _ _ _).mono ?_; rw [W2.out]; rintro e w1 ⟨rfl, rfl⟩))
  go_ret
  exact ⟨rfl, (by repeat (first | (with_reducible exact Below.refl _ _) | (with_reducible assumption) | ((with_reducible refine Below.setCell ?_ ?_ _); rotate_left; · (first | exact Nat.le_refl _ | (simp; done) | (simp; omega) | omega)) | ((with_reducible refine Below.alloc ?_ ?_ _); rotate_left; · (first | exact Nat.le_refl _ | (simp; done) | (simp; omega) | omega)) | (with_reducible apply Below.drew) | (with_reducible apply below_drewN') | (refine Below.trans ?_ (Below.mono (by assumption) (by first | exact Nat.le_refl _ | (simp; done) | (simp; omega) | omega))) | exact Below.refl _ _ | assumption))⟩

/-- Whether a direction is steep between two slopes. -/
def steepB (d0 d1 ln ld mn md : Int) : Bool := decide (ln * d1 ≤ max d0 (-d0) * ld) && decide (max d0 (-d0) * md ≤ mn * d1)

set_option maxRecDepth 100000 in
set_option maxHeartbeats 1000000 in
theorem steep_ok (d0 d1 ln ld mn md : Int) (w : World) (h0 : -1000 ≤ d0 ∧ d0 ≤ 1000) (h1 : 1 ≤ d1 ∧ d1 ≤ 1000) (hl : tanE ln ld = 0) (hm : tanE mn md = 0) (ho : ln * md ≤ mn * ld) :
    Calls Tryz.prog 46 #[.agg #[.int .i64 d0, .int .i64 d1], .agg #[.int .i64 ln, .int .i64 ld], .agg #[.int .i64 mn, .int .i64 md]] w fun e w' => e = .returned (.tuple #[.bool (steepB d0 d1 ln ld mn md), .int .i64 0]) ∧ Below w.heap.size w w' := by
  have HL := Lib.hid hl; have HM := Lib.hid hm
  obtain ⟨a1, a2, a3, a4⟩ := tanE_zero hl
  obtain ⟨b1, b2, b3, b4⟩ := tanE_zero hm
  clear hl hm
  have m1 := mul_bd ln md 100 100 (by omega) (by omega)
  have m2 := mul_bd mn ld 100 100 (by omega) (by omega)
  have m3 := mul_bd ln d1 100 1000 (by omega) (by omega)
  have m4 := mul_bd mn d1 100 1000 (by omega) (by omega)
  have m5 := mul_bd (max d0 (-d0)) ld 1000 100 (by omega) (by omega)
  have m6 := mul_bd (max d0 (-d0)) md 1000 100 (by omega) (by omega)
  have hBB : Below w.heap.size w (((w.alloc (.cells #[.int .i64 d0, .int .i64 d1] 73)).alloc (.cells #[.int .i64 ln, .int .i64 ld] 26)).alloc (.cells #[.int .i64 mn, .int .i64 md] 26)) := (((Below.refl _ _).alloc (Nat.le_refl _) _).alloc (by simp) _).alloc (by simp; omega) _
  have a := ((Blk.new w 73 #[.int .i64 d0, .int .i64 d1]).alloc (.cells #[.int .i64 ln, .int .i64 ld] 26 (0, 0))).alloc (.cells #[.int .i64 mn, .int .i64 md] 26 (0, 0))
  have l := (Blk.new' (w.alloc (.cells #[.int .i64 d0, .int .i64 d1] 73)) 26 #[.int .i64 ln, .int .i64 ld] (g := w.heap.size + 1) (by simp)).alloc (.cells #[.int .i64 mn, .int .i64 md] 26 (0, 0))
  have m := Blk.new' ((w.alloc (.cells #[.int .i64 d0, .int .i64 d1] 73)).alloc (.cells #[.int .i64 ln, .int .i64 ld] 26)) 26 #[.int .i64 mn, .int .i64 md] (g := w.heap.size + 1 + 1) (by simp)
  go_enter Tryz.func46, Tryz.ntmps46
  have l_a := a.lt
  obtain ⟨a0, a1', _⟩ := blk2y a
  have l_l := l.lt
  obtain ⟨l0, l1, _⟩ := blk2y l
  have l_m := m.lt
  obtain ⟨n0, n1, _⟩ := blk2y m
  go_wp2_with fail
  generalize (((w.alloc (.cells #[.int .i64 d0, .int .i64 d1] 73)).alloc (.cells #[.int .i64 ln, .int .i64 ld] 26)).alloc (.cells #[.int .i64 mn, .int .i64 md] 26)) = wA at *
  refine wp_region_w (Gr _) (by kernel_rfl) (Below.refl _ _).drew ?_
  refine wpW_det (t' := ?ct0R3) 0 (by rfl) (by kernel_rfl) (NQ_free _) (by kernel_rfl) ?cw0R3 ?ch0R3 ?ca0R3 (Eq.refl _) ?cH0R3
  case cw0R3 => (go_simp; done)
  case ch0R3 =>
    intro ds w' hS K hK
    have hc := (bcell hS).1
    have hf := (bcell hS).2
    have hz := hS.size
    try simp at hz
    go_simp
    try go_bits
    first
      | exact hK _ hS (Gr.refl _)
      | (go_at_call 87; (with_reducible refine (directionErr_ok d0 d1 _ (by omega) (by omega)).mono ?_); rintro e w1 ⟨rfl, hB1⟩; obtain ⟨hc1, hf1⟩ := bcell hB1; have hz1 := hB1.size; (try simp at hz1); exact hK _ (Below.trans hS (Below.mono hB1 (by first | exact Nat.le_refl _ | (simp; done) | (simp; omega) | omega))) hB1)
      | (go_at_call 88; (with_reducible refine (shareErr_ok ln ld _ HL.out).mono ?_); rintro e w1 ⟨rfl, hB1⟩; obtain ⟨hc1, hf1⟩ := bcell hB1; have hz1 := hB1.size; (try simp at hz1); exact hK _ (Below.trans hS (Below.mono hB1 (by first | exact Nat.le_refl _ | (simp; done) | (simp; omega) | omega))) hB1)
      | (go_at_call 88; (with_reducible refine (shareErr_ok mn md _ HM.out).mono ?_); rintro e w1 ⟨rfl, hB1⟩; obtain ⟨hc1, hf1⟩ := bcell hB1; have hz1 := hB1.size; (try simp at hz1); exact hK _ (Below.trans hS (Below.mono hB1 (by first | exact Nat.le_refl _ | (simp; done) | (simp; omega) | omega))) hB1)
      | exact hK _ (by repeat (first | (with_reducible exact Below.refl _ _) | (with_reducible assumption) | ((with_reducible refine Below.setCell ?_ ?_ _); rotate_left; · (first | exact Nat.le_refl _ | (simp; done) | (simp; omega) | omega)) | ((with_reducible refine Below.alloc ?_ ?_ _); rotate_left; · (first | exact Nat.le_refl _ | (simp; done) | (simp; omega) | omega)) | (with_reducible apply Below.drew) | (with_reducible apply below_drewN') | (refine Below.trans ?_ (Below.mono (by assumption) (by first | exact Nat.le_refl _ | (simp; done) | (simp; omega) | omega))) | exact Below.refl _ _ | assumption)) (by repeat (first | (with_reducible exact Below.refl _ _) | (with_reducible assumption) | ((with_reducible refine Below.setCell ?_ ?_ _); rotate_left; · (first | exact Nat.le_refl _ | (simp; done) | (simp; omega) | omega)) | ((with_reducible refine Below.alloc ?_ ?_ _); rotate_left; · (first | exact Nat.le_refl _ | (simp; done) | (simp; omega) | omega)) | (with_reducible apply Below.drew) | (with_reducible apply below_drewN') | (refine Below.trans ?_ (Below.mono (by assumption) (by first | exact Nat.le_refl _ | (simp; done) | (simp; omega) | omega))) | exact Below.refl _ _ | assumption))
  case ca0R3 => (first | (simp [Act.put]; done) | (simp [Act.put, *]; done))
  try dsimp only
  refine wpW_det (t' := ?ct1R3) 1 (by rfl) (by kernel_rfl) (NQ_free _) (by kernel_rfl) ?cw1R3 ?ch1R3 ?ca1R3 (Eq.refl _) ?cH1R3
  case cw1R3 => (go_simp; done)
  case ch1R3 =>
    intro ds w' hS K hK
    have hc := (bcell hS).1
    have hf := (bcell hS).2
    have hz := hS.size
    try simp at hz
    go_simp
    try go_bits
    first
      | exact hK _ hS (Gr.refl _)
      | (go_at_call 87; (with_reducible refine (directionErr_ok d0 d1 _ (by omega) (by omega)).mono ?_); rintro e w1 ⟨rfl, hB1⟩; obtain ⟨hc1, hf1⟩ := bcell hB1; have hz1 := hB1.size; (try simp at hz1); exact hK _ (Below.trans hS (Below.mono hB1 (by first | exact Nat.le_refl _ | (simp; done) | (simp; omega) | omega))) hB1)
      | (go_at_call 88; (with_reducible refine (shareErr_ok ln ld _ HL.out).mono ?_); rintro e w1 ⟨rfl, hB1⟩; obtain ⟨hc1, hf1⟩ := bcell hB1; have hz1 := hB1.size; (try simp at hz1); exact hK _ (Below.trans hS (Below.mono hB1 (by first | exact Nat.le_refl _ | (simp; done) | (simp; omega) | omega))) hB1)
      | (go_at_call 88; (with_reducible refine (shareErr_ok mn md _ HM.out).mono ?_); rintro e w1 ⟨rfl, hB1⟩; obtain ⟨hc1, hf1⟩ := bcell hB1; have hz1 := hB1.size; (try simp at hz1); exact hK _ (Below.trans hS (Below.mono hB1 (by first | exact Nat.le_refl _ | (simp; done) | (simp; omega) | omega))) hB1)
      | exact hK _ (by repeat (first | (with_reducible exact Below.refl _ _) | (with_reducible assumption) | ((with_reducible refine Below.setCell ?_ ?_ _); rotate_left; · (first | exact Nat.le_refl _ | (simp; done) | (simp; omega) | omega)) | ((with_reducible refine Below.alloc ?_ ?_ _); rotate_left; · (first | exact Nat.le_refl _ | (simp; done) | (simp; omega) | omega)) | (with_reducible apply Below.drew) | (with_reducible apply below_drewN') | (refine Below.trans ?_ (Below.mono (by assumption) (by first | exact Nat.le_refl _ | (simp; done) | (simp; omega) | omega))) | exact Below.refl _ _ | assumption)) (by repeat (first | (with_reducible exact Below.refl _ _) | (with_reducible assumption) | ((with_reducible refine Below.setCell ?_ ?_ _); rotate_left; · (first | exact Nat.le_refl _ | (simp; done) | (simp; omega) | omega)) | ((with_reducible refine Below.alloc ?_ ?_ _); rotate_left; · (first | exact Nat.le_refl _ | (simp; done) | (simp; omega) | omega)) | (with_reducible apply Below.drew) | (with_reducible apply below_drewN') | (refine Below.trans ?_ (Below.mono (by assumption) (by first | exact Nat.le_refl _ | (simp; done) | (simp; omega) | omega))) | exact Below.refl _ _ | assumption))
  case ca1R3 => (first | (simp [Act.put]; done) | (simp [Act.put, *]; done))
  try dsimp only
  refine wpW_det (t' := ?ct2R3) 2 (by rfl) (by kernel_rfl) (NQ_free _) (by kernel_rfl) ?cw2R3 ?ch2R3 ?ca2R3 (Eq.refl _) ?cH2R3
  case cw2R3 => (go_simp; done)
  case ch2R3 =>
    intro ds w' hS K hK
    have hc := (bcell hS).1
    have hf := (bcell hS).2
    have hz := hS.size
    try simp at hz
    go_simp
    try go_bits
    first
      | exact hK _ hS (Gr.refl _)
      | (go_at_call 87; (with_reducible refine (directionErr_ok d0 d1 _ (by omega) (by omega)).mono ?_); rintro e w1 ⟨rfl, hB1⟩; obtain ⟨hc1, hf1⟩ := bcell hB1; have hz1 := hB1.size; (try simp at hz1); exact hK _ (Below.trans hS (Below.mono hB1 (by first | exact Nat.le_refl _ | (simp; done) | (simp; omega) | omega))) hB1)
      | (go_at_call 88; (with_reducible refine (shareErr_ok ln ld _ HL.out).mono ?_); rintro e w1 ⟨rfl, hB1⟩; obtain ⟨hc1, hf1⟩ := bcell hB1; have hz1 := hB1.size; (try simp at hz1); exact hK _ (Below.trans hS (Below.mono hB1 (by first | exact Nat.le_refl _ | (simp; done) | (simp; omega) | omega))) hB1)
      | (go_at_call 88; (with_reducible refine (shareErr_ok mn md _ HM.out).mono ?_); rintro e w1 ⟨rfl, hB1⟩; obtain ⟨hc1, hf1⟩ := bcell hB1; have hz1 := hB1.size; (try simp at hz1); exact hK _ (Below.trans hS (Below.mono hB1 (by first | exact Nat.le_refl _ | (simp; done) | (simp; omega) | omega))) hB1)
      | exact hK _ (by repeat (first | (with_reducible exact Below.refl _ _) | (with_reducible assumption) | ((with_reducible refine Below.setCell ?_ ?_ _); rotate_left; · (first | exact Nat.le_refl _ | (simp; done) | (simp; omega) | omega)) | ((with_reducible refine Below.alloc ?_ ?_ _); rotate_left; · (first | exact Nat.le_refl _ | (simp; done) | (simp; omega) | omega)) | (with_reducible apply Below.drew) | (with_reducible apply below_drewN') | (refine Below.trans ?_ (Below.mono (by assumption) (by first | exact Nat.le_refl _ | (simp; done) | (simp; omega) | omega))) | exact Below.refl _ _ | assumption)) (by repeat (first | (with_reducible exact Below.refl _ _) | (with_reducible assumption) | ((with_reducible refine Below.setCell ?_ ?_ _); rotate_left; · (first | exact Nat.le_refl _ | (simp; done) | (simp; omega) | omega)) | ((with_reducible refine Below.alloc ?_ ?_ _); rotate_left; · (first | exact Nat.le_refl _ | (simp; done) | (simp; omega) | omega)) | (with_reducible apply Below.drew) | (with_reducible apply below_drewN') | (refine Below.trans ?_ (Below.mono (by assumption) (by first | exact Nat.le_refl _ | (simp; done) | (simp; omega) | omega))) | exact Below.refl _ _ | assumption))
  case ca2R3 => (first | (simp [Act.put]; done) | (simp [Act.put, *]; done))
  try dsimp only
  refine wpW_det (t' := ?ct3R3) 3 (by rfl) (by kernel_rfl) (NQ_free _) (by kernel_rfl) ?cw3R3 ?ch3R3 ?ca3R3 (Eq.refl _) ?cH3R3
  case cw3R3 => (go_simp; done)
  case ch3R3 =>
    intro ds w' hS K hK
    have hc := (bcell hS).1
    have hf := (bcell hS).2
    have hz := hS.size
    try simp at hz
    go_simp
    try go_bits
    first
      | exact hK _ hS (Gr.refl _)
      | (go_at_call 87; (with_reducible refine (directionErr_ok d0 d1 _ (by omega) (by omega)).mono ?_); rintro e w1 ⟨rfl, hB1⟩; obtain ⟨hc1, hf1⟩ := bcell hB1; have hz1 := hB1.size; (try simp at hz1); exact hK _ (Below.trans hS (Below.mono hB1 (by first | exact Nat.le_refl _ | (simp; done) | (simp; omega) | omega))) hB1)
      | (go_at_call 88; (with_reducible refine (shareErr_ok ln ld _ HL.out).mono ?_); rintro e w1 ⟨rfl, hB1⟩; obtain ⟨hc1, hf1⟩ := bcell hB1; have hz1 := hB1.size; (try simp at hz1); exact hK _ (Below.trans hS (Below.mono hB1 (by first | exact Nat.le_refl _ | (simp; done) | (simp; omega) | omega))) hB1)
      | (go_at_call 88; (with_reducible refine (shareErr_ok mn md _ HM.out).mono ?_); rintro e w1 ⟨rfl, hB1⟩; obtain ⟨hc1, hf1⟩ := bcell hB1; have hz1 := hB1.size; (try simp at hz1); exact hK _ (Below.trans hS (Below.mono hB1 (by first | exact Nat.le_refl _ | (simp; done) | (simp; omega) | omega))) hB1)
      | exact hK _ (by repeat (first | (with_reducible exact Below.refl _ _) | (with_reducible assumption) | ((with_reducible refine Below.setCell ?_ ?_ _); rotate_left; · (first | exact Nat.le_refl _ | (simp; done) | (simp; omega) | omega)) | ((with_reducible refine Below.alloc ?_ ?_ _); rotate_left; · (first | exact Nat.le_refl _ | (simp; done) | (simp; omega) | omega)) | (with_reducible apply Below.drew) | (with_reducible apply below_drewN') | (refine Below.trans ?_ (Below.mono (by assumption) (by first | exact Nat.le_refl _ | (simp; done) | (simp; omega) | omega))) | exact Below.refl _ _ | assumption)) (by repeat (first | (with_reducible exact Below.refl _ _) | (with_reducible assumption) | ((with_reducible refine Below.setCell ?_ ?_ _); rotate_left; · (first | exact Nat.le_refl _ | (simp; done) | (simp; omega) | omega)) | ((with_reducible refine Below.alloc ?_ ?_ _); rotate_left; · (first | exact Nat.le_refl _ | (simp; done) | (simp; omega) | omega)) | (with_reducible apply Below.drew) | (with_reducible apply below_drewN') | (refine Below.trans ?_ (Below.mono (by assumption) (by first | exact Nat.le_refl _ | (simp; done) | (simp; omega) | omega))) | exact Below.refl _ _ | assumption))
  case ca3R3 => (first | (simp [Act.put]; done) | (simp [Act.put, *]; done))
  try dsimp only
  refine wpW_det (t' := ?ct4R3) 4 (by rfl) (by kernel_rfl) (NQ_free _) (by kernel_rfl) ?cw4R3 ?ch4R3 ?ca4R3 (Eq.refl _) ?cH4R3
  case cw4R3 => (go_simp; done)
  case ch4R3 =>
    intro ds w' hS K hK
    have hc := (bcell hS).1
    have hf := (bcell hS).2
    have hz := hS.size
    try simp at hz
    go_simp
    try go_bits
    first
      | exact hK _ hS (Gr.refl _)
      | (go_at_call 87; (with_reducible refine (directionErr_ok d0 d1 _ (by omega) (by omega)).mono ?_); rintro e w1 ⟨rfl, hB1⟩; obtain ⟨hc1, hf1⟩ := bcell hB1; have hz1 := hB1.size; (try simp at hz1); exact hK _ (Below.trans hS (Below.mono hB1 (by first | exact Nat.le_refl _ | (simp; done) | (simp; omega) | omega))) hB1)
      | (go_at_call 88; (with_reducible refine (shareErr_ok ln ld _ HL.out).mono ?_); rintro e w1 ⟨rfl, hB1⟩; obtain ⟨hc1, hf1⟩ := bcell hB1; have hz1 := hB1.size; (try simp at hz1); exact hK _ (Below.trans hS (Below.mono hB1 (by first | exact Nat.le_refl _ | (simp; done) | (simp; omega) | omega))) hB1)
      | (go_at_call 88; (with_reducible refine (shareErr_ok mn md _ HM.out).mono ?_); rintro e w1 ⟨rfl, hB1⟩; obtain ⟨hc1, hf1⟩ := bcell hB1; have hz1 := hB1.size; (try simp at hz1); exact hK _ (Below.trans hS (Below.mono hB1 (by first | exact Nat.le_refl _ | (simp; done) | (simp; omega) | omega))) hB1)
      | exact hK _ (by repeat (first | (with_reducible exact Below.refl _ _) | (with_reducible assumption) | ((with_reducible refine Below.setCell ?_ ?_ _); rotate_left; · (first | exact Nat.le_refl _ | (simp; done) | (simp; omega) | omega)) | ((with_reducible refine Below.alloc ?_ ?_ _); rotate_left; · (first | exact Nat.le_refl _ | (simp; done) | (simp; omega) | omega)) | (with_reducible apply Below.drew) | (with_reducible apply below_drewN') | (refine Below.trans ?_ (Below.mono (by assumption) (by first | exact Nat.le_refl _ | (simp; done) | (simp; omega) | omega))) | exact Below.refl _ _ | assumption)) (by repeat (first | (with_reducible exact Below.refl _ _) | (with_reducible assumption) | ((with_reducible refine Below.setCell ?_ ?_ _); rotate_left; · (first | exact Nat.le_refl _ | (simp; done) | (simp; omega) | omega)) | ((with_reducible refine Below.alloc ?_ ?_ _); rotate_left; · (first | exact Nat.le_refl _ | (simp; done) | (simp; omega) | omega)) | (with_reducible apply Below.drew) | (with_reducible apply below_drewN') | (refine Below.trans ?_ (Below.mono (by assumption) (by first | exact Nat.le_refl _ | (simp; done) | (simp; omega) | omega))) | exact Below.refl _ _ | assumption))
  case ca4R3 => (first | (simp [Act.put]; done) | (simp [Act.put, *]; done))
  try dsimp only
  refine wpW_det (t' := ?ct5R3) 5 (by rfl) (by kernel_rfl) (NQ_free _) (by kernel_rfl) ?cw5R3 ?ch5R3 ?ca5R3 (Eq.refl _) ?cH5R3
  case cw5R3 => (go_simp; done)
  case ch5R3 =>
    intro ds w' hS K hK
    have hc := (bcell hS).1
    have hf := (bcell hS).2
    have hz := hS.size
    try simp at hz
    go_simp
    try go_bits
    first
      | exact hK _ hS (Gr.refl _)
      | (go_at_call 87; (with_reducible refine (directionErr_ok d0 d1 _ (by omega) (by omega)).mono ?_); rintro e w1 ⟨rfl, hB1⟩; obtain ⟨hc1, hf1⟩ := bcell hB1; have hz1 := hB1.size; (try simp at hz1); exact hK _ (Below.trans hS (Below.mono hB1 (by first | exact Nat.le_refl _ | (simp; done) | (simp; omega) | omega))) hB1)
      | (go_at_call 88; (with_reducible refine (shareErr_ok ln ld _ HL.out).mono ?_); rintro e w1 ⟨rfl, hB1⟩; obtain ⟨hc1, hf1⟩ := bcell hB1; have hz1 := hB1.size; (try simp at hz1); exact hK _ (Below.trans hS (Below.mono hB1 (by first | exact Nat.le_refl _ | (simp; done) | (simp; omega) | omega))) hB1)
      | (go_at_call 88; (with_reducible refine (shareErr_ok mn md _ HM.out).mono ?_); rintro e w1 ⟨rfl, hB1⟩; obtain ⟨hc1, hf1⟩ := bcell hB1; have hz1 := hB1.size; (try simp at hz1); exact hK _ (Below.trans hS (Below.mono hB1 (by first | exact Nat.le_refl _ | (simp; done) | (simp; omega) | omega))) hB1)
      | exact hK _ (by repeat (first | (with_reducible exact Below.refl _ _) | (with_reducible assumption) | ((with_reducible refine Below.setCell ?_ ?_ _); rotate_left; · (first | exact Nat.le_refl _ | (simp; done) | (simp; omega) | omega)) | ((with_reducible refine Below.alloc ?_ ?_ _); rotate_left; · (first | exact Nat.le_refl _ | (simp; done) | (simp; omega) | omega)) | (with_reducible apply Below.drew) | (with_reducible apply below_drewN') | (refine Below.trans ?_ (Below.mono (by assumption) (by first | exact Nat.le_refl _ | (simp; done) | (simp; omega) | omega))) | exact Below.refl _ _ | assumption)) (by repeat (first | (with_reducible exact Below.refl _ _) | (with_reducible assumption) | ((with_reducible refine Below.setCell ?_ ?_ _); rotate_left; · (first | exact Nat.le_refl _ | (simp; done) | (simp; omega) | omega)) | ((with_reducible refine Below.alloc ?_ ?_ _); rotate_left; · (first | exact Nat.le_refl _ | (simp; done) | (simp; omega) | omega)) | (with_reducible apply Below.drew) | (with_reducible apply below_drewN') | (refine Below.trans ?_ (Below.mono (by assumption) (by first | exact Nat.le_refl _ | (simp; done) | (simp; omega) | omega))) | exact Below.refl _ _ | assumption))
  case ca5R3 => (first | (simp [Act.put]; done) | (simp [Act.put, *]; done))
  try dsimp only
  refine wpW_branch [6] (by kernel_rfl) (by simp) ?_
  intro wB hg_wB hS_wB
  refine each_cons ?_ each_nil
  refine wpOp_go (by rfl) (Eq.refl _) (by go_simp; done) ?_
  intro K hK
  go_simp
  try simp only [Act.put]
  have hb := Blk.new wB 31 #[.int .i64 0, .int .i64 0, .int .i64 0]
  refine hK _ _ (Below.alloc hS_wB (Below.size hS_wB) _) ?_
  clear hK K
  refine wpW_branch [7] (by kernel_rfl) (by simp) ?_
  intro wC hg_wC hS_wC
  refine each_cons ?_ each_nil
  refine wpOp_go (by rfl) (Eq.refl _) (by go_simp; done) ?_
  intro K hK
  go_simp
  try simp only [Act.put]
  have hb2 := Blk.gr hb hg_wC
  refine (yFirst_zero (some ⟨wB.heap.size, 0, none⟩) 3 (wB.heap.size + 1) _ ⟨rfl, fun _ => ⟨_, 0, rfl, by omega, fun j u hu => by rw [Nat.zero_add, hb2.cell j, List.getElem?_toArray]; exact hu⟩⟩).mono ?_
  rintro e wq ⟨rfl, rfl⟩
  refine hK _ _ hS_wC ?_
  clear hK K hb hb2
  refine wpW_det (t' := ?ct8R4) 8 (by rfl) (by kernel_rfl) (NQ_free _) (by kernel_rfl) ?cw8R4 ?ch8R4 ?ca8R4 (Eq.refl _) ?cH8R4
  case cw8R4 => (go_simp; done)
  case ch8R4 =>
    intro ds w' hS K hK
    have hc := (bcell hS).1
    have hf := (bcell hS).2
    have hz := hS.size
    try simp at hz
    go_simp
    try go_bits
    first
      | exact hK _ hS (Gr.refl _)
      | exact hK _ (by repeat (first | (with_reducible exact Below.refl _ _) | (with_reducible assumption) | ((with_reducible refine Below.setCell ?_ ?_ _); rotate_left; · (first | exact Nat.le_refl _ | (simp; done) | (simp; omega) | omega)) | ((with_reducible refine Below.alloc ?_ ?_ _); rotate_left; · (first | exact Nat.le_refl _ | (simp; done) | (simp; omega) | omega)) | (with_reducible apply Below.drew) | (with_reducible apply below_drewN') | (refine Below.trans ?_ (Below.mono (by assumption) (by first | exact Nat.le_refl _ | (simp; done) | (simp; omega) | omega))) | exact Below.refl _ _ | assumption)) (by repeat (first | (with_reducible exact Below.refl _ _) | (with_reducible assumption) | ((with_reducible refine Below.setCell ?_ ?_ _); rotate_left; · (first | exact Nat.le_refl _ | (simp; done) | (simp; omega) | omega)) | ((with_reducible refine Below.alloc ?_ ?_ _); rotate_left; · (first | exact Nat.le_refl _ | (simp; done) | (simp; omega) | omega)) | (with_reducible apply Below.drew) | (with_reducible apply below_drewN') | (refine Below.trans ?_ (Below.mono (by assumption) (by first | exact Nat.le_refl _ | (simp; done) | (simp; omega) | omega))) | exact Below.refl _ _ | assumption))
  case ca8R4 => (first | (simp [Act.put]; done) | (simp [Act.put, *]; done))
  try dsimp only
  refine wpW_end (by kernel_rfl) ?_
  intro we1 hg hS
  unfold NQ
  dsimp only
  replace a := a.gr hS
  replace l := l.gr hS
  replace m := m.gr hS
  replace hBB := hBB.trans (Below.mono hS (Below.size hBB))
  clear hg hS
  clear l_a a0 a1' l_l l0 l1 l_m n0 n1
  have l_a := a.lt
  have l_l := l.lt
  have l_m := m.lt
  obtain ⟨a0, a1', _⟩ := blk2y a
  obtain ⟨l0, l1, _⟩ := blk2y l
  obtain ⟨n0, n1, _⟩ := blk2y m
  go_wp2_with (go_at_call 89; refine (ySize_any _ (by omega) _).mono ?_; rintro e w1 ⟨rfl, rfl⟩)
  all_goals
    go_ret2
    refine ⟨?_, hBB⟩
    unfold steepB
    simp [*] <;> try omega
end Go.Proofs.YtfbnpfhnffahdaaGreatDoor

namespace Go.Proofs.YtfbnpfhnffahdaaGreatDoor

theorem fr_lt_le {a b c d e f : Int} (hb : 0 < b) (hd : 0 < d) (hf : 0 < f) (h1 : a * d < c * b) (h2 : c * f ≤ e * d) : a * f < e * b := by
  rcases Int.lt_or_le (a * f) (e * b) with h | h
  · exact h
  · have := frac_trans_le (a := c) (b := d) (c := e) (d := f) (e := a) (f := b) hd hf hb h2 h
    omega
theorem fr_le_lt {a b c d e f : Int} (hb : 0 < b) (hd : 0 < d) (hf : 0 < f) (h1 : a * d ≤ c * b) (h2 : c * f < e * d) : a * f < e * b := by
  rcases Int.lt_or_le (a * f) (e * b) with h | h
  · exact h
  · have := frac_trans_le (a := e) (b := f) (c := a) (d := b) (e := c) (f := d) hf hb hd h h1
    omega

/-- A part has a point between its ends. -/
def Bet (p : GP) (n m : Int) : Prop := p.1.a * m ≤ n * p.1.b ∧ n * p.1.d ≤ p.1.c * m

theorem gapL_none : ∀ (l : List GP) (r1 r2 : Int), 0 < r2 → (gapL (r1, r2) l).2 = false → ∀ n m : Int, n ≤ m → 0 < m → r1 * m ≤ n * r2 → (∃ p ∈ l, Bet p n m) ∨ n * r2 = r1 * m
  | [], r1, r2, hr, h, n, m, hnm, hm, hx => by
    simp only [gapL, decide_eq_false_iff_not] at h
    right
    have h1 : r2 * m ≤ r1 * m := Int.mul_le_mul_of_nonneg_right (by omega) (by omega)
    have h2 : n * r2 ≤ m * r2 := Int.mul_le_mul_of_nonneg_right hnm (by omega)
    have h3 : r2 * m = m * r2 := Int.mul_comm _ _
    omega
  | p :: l, r1, r2, hr, h, n, m, hnm, hm, hx => by
    unfold gapL at h
    dsimp only at h
    split at h
    · simp at h
    · rename_i h1
      have hb := p.2.2.1
      have hd := p.2.2.2
      by_cases ht : n * p.1.d ≤ p.1.c * m
      · exact .inl ⟨p, by simp, frac_trans_le hb hr hm (by omega) hx, ht⟩
      · split at h
        · rename_i h2
          rcases gapL_none l _ _ hd h n m hnm hm (by omega) with ⟨q, hq, hb⟩ | h3
          · exact .inl ⟨q, by simp [hq], hb⟩
          · omega
        · rcases gapL_none l _ _ hr h n m hnm hm hx with ⟨q, hq, hb⟩ | h3
          · exact .inl ⟨q, by simp [hq], hb⟩
          · exact .inr h3
theorem gapL_some : ∀ (l : List GP) (r1 r2 : Int), 0 < r2 → l.Pairwise (fun x y => x.1.a * y.1.b ≤ y.1.a * x.1.b) → ∀ g1 g2 h1 h2 : Int, gapL (r1, r2) l = ((g1, g2, h1, h2), true) →
    r1 * g2 ≤ g1 * r2 ∧ ((g1 = r1 ∧ g2 = r2) ∨ ∃ p ∈ l, g1 = p.1.c ∧ g2 = p.1.d) ∧ ((h1 = 1 ∧ h2 = 1) ∨ ∃ p ∈ l, h1 = p.1.a ∧ h2 = p.1.b) ∧ 0 < g2 ∧ 0 < h2 ∧ g1 * h2 < h1 * g2 ∧ ∀ n m : Int, 0 < m → g1 * m < n * g2 → n * h2 < h1 * m → ∀ p ∈ l, ¬ Bet p n m
  | [], r1, r2, hr, _, g1, g2, h1, h2, h => by
    simp only [gapL, Prod.mk.injEq, decide_eq_true_eq] at h
    obtain ⟨⟨rfl, rfl, rfl, rfl⟩, h3⟩ := h
    exact ⟨Int.le_refl _, .inl ⟨rfl, rfl⟩, .inl ⟨rfl, rfl⟩, hr, by omega, by omega, fun _ _ _ _ _ p hp => by simp at hp⟩
  | p :: l, r1, r2, hr, hs, g1, g2, h1, h2, h => by
    have hb := p.2.2.1
    have hd := p.2.2.2
    rw [List.pairwise_cons] at hs
    unfold gapL at h
    dsimp only at h
    split at h
    · rename_i h3
      simp only [Prod.mk.injEq, and_true] at h
      obtain ⟨rfl, rfl, rfl, rfl⟩ := h
      refine ⟨Int.le_refl _, .inl ⟨rfl, rfl⟩, .inr ⟨p, by simp, rfl, rfl⟩, hr, hb, by omega, fun n m hm k1 k2 q hq hq2 => ?_⟩
      rcases List.mem_cons.1 hq with rfl | hq
      · have := hq2.1; omega
      · have := frac_trans_le (a := p.1.a) (b := p.1.b) (c := q.1.a) (d := q.1.b) (e := n) (f := m) hb q.2.2.1 hm (hs.1 q hq) hq2.1
        omega
    · rename_i h3
      split at h
      · rename_i h4
        obtain ⟨e1, e2, e3, e4, e5, e6, e7⟩ := gapL_some l _ _ hd hs.2 g1 g2 h1 h2 h
        refine ⟨?_, ?_, ?_, e4, e5, e6, fun n m hm k1 k2 q hq hq2 => ?_⟩
        · exact frac_trans_le hr hd e4 (Int.le_of_lt h4) e1
        · rcases e2 with ⟨rfl, rfl⟩ | ⟨q, hq, e⟩
          · exact .inr ⟨p, by simp, rfl, rfl⟩
          · exact .inr ⟨q, by simp [hq], e⟩
        · rcases e3 with e | ⟨q, hq, e⟩
          · exact .inl e
          · exact .inr ⟨q, by simp [hq], e⟩
        · rcases List.mem_cons.1 hq with rfl | hq
          · have h5 := fr_le_lt (a := q.1.c) (b := q.1.d) (c := g1) (d := g2) (e := n) (f := m) hd e4 hm e1 k1
            have := hq2.2
            omega
          · exact e7 n m hm k1 k2 q hq hq2
      · rename_i h4
        obtain ⟨e1, e2, e3, e4, e5, e6, e7⟩ := gapL_some l _ _ hr hs.2 g1 g2 h1 h2 h
        refine ⟨e1, ?_, ?_, e4, e5, e6, fun n m hm k1 k2 q hq hq2 => ?_⟩
        · rcases e2 with e | ⟨q, hq, e⟩
          · exact .inl e
          · exact .inr ⟨q, by simp [hq], e⟩
        · rcases e3 with e | ⟨q, hq, e⟩
          · exact .inl e
          · exact .inr ⟨q, by simp [hq], e⟩
        · rcases List.mem_cons.1 hq with rfl | hq
          · have h6 := frac_trans_le (a := q.1.c) (b := q.1.d) (c := r1) (d := r2) (e := g1) (f := g2) hd hr e4 (by omega) e1
            have h5 := fr_le_lt (a := q.1.c) (b := q.1.d) (c := g1) (d := g2) (e := n) (f := m) hd e4 hm h6 k1
            have := hq2.2
            omega
          · exact e7 n m hm k1 k2 q hq hq2

/-- Whether a point is met. -/
def metAny (ps : List GP) (n m : Int) : Bool := ps.any fun p => p.1.has n m
theorem selG_mem {ps : List GP} {p : GP} : p ∈ selG ps (List.range ps.length) ↔ p ∈ ps ∧ p.1.none = false := by
  unfold selG
  simp only [List.mem_filter, List.mem_filterMap, List.mem_range, Bool.not_eq_true']
  constructor
  · rintro ⟨⟨i, hi, he⟩, h⟩; exact ⟨List.mem_of_getElem? he, h⟩
  · rintro ⟨h, h'⟩
    obtain ⟨i, hi, rfl⟩ := List.mem_iff_getElem.1 h
    exact ⟨⟨i, hi, List.getElem?_eq_getElem hi⟩, h'⟩
theorem has_bet {p : GP} {n m : Int} : p.1.has n m = true ↔ p.1.none = false ∧ Bet p n m := by
  rw [PV.has_iff]; exact Iff.rfl
/-- Without a gap each point is met. -/
theorem gap_none {ps : List GP} {r : Int × Int × Int × Int} (hg : ∀ p ∈ ps, p.1.good) (h : GapOf ps ps.length (r, false)) {n m : Int} (hp : Pt n m) : metAny ps n m = true := by
  obtain ⟨l', hl, hs, he⟩ := h
  obtain ⟨p1, p2, p3, _, _⟩ := hp
  have h0 : (gapL (0, 1) l').2 = false := by rw [← he]
  have fin : ∀ p ∈ l', Bet p n m → metAny ps n m = true := by
    intro p hp hb
    have := selG_mem.1 (hl.mem_iff.1 hp)
    exact List.any_eq_true.2 ⟨p, this.1, has_bet.2 ⟨this.2, hb⟩⟩
  rcases gapL_none l' 0 1 (by omega) h0 n m p2 p3 (by omega) with ⟨p, hp, hb⟩ | h1
  · exact fin p hp hb
  · have hn : n = 0 := by omega
    subst hn
    cases l' with
    | nil => simp [gapL] at h0
    | cons p l =>
      unfold gapL at h0
      split at h0
      · simp at h0
      · rename_i h3
        have hm := selG_mem.1 (hl.mem_iff.1 (List.mem_cons_self (a := p) (l := l)))
        obtain ⟨g1, g2, _⟩ := hg p hm.1 hm.2
        have e1 := Int.mul_nonneg (a := p.1.c) (b := m) g2.1 (by omega)
        refine fin p (by simp) ⟨?_, by omega⟩
        have : p.1.a ≤ 0 := by omega
        have := g1.1
        have : p.1.a = 0 := by omega
        rw [this]; omega
/-- Within a gap no point is met; its ends are points. -/
theorem gap_some {ps : List GP} {a b c d : Int} (hg : ∀ p ∈ ps, p.1.good) (h : GapOf ps ps.length ((a, b, c, d), true)) : Pt a b ∧ Pt c d ∧ ∀ n m : Int, Pt n m → a * m < n * b → n * d < c * m → metAny ps n m = false := by
  obtain ⟨l', hl, hs, he⟩ := h
  obtain ⟨_, e2, e3, e4, e5, e6, e7⟩ := gapL_some l' 0 1 (by omega) hs a b c d he.symm
  have hm : ∀ p ∈ l', p ∈ ps ∧ p.1.none = false := fun p hp => selG_mem.1 (hl.mem_iff.1 hp)
  refine ⟨?_, ?_, fun n m hp k1 k2 => ?_⟩
  · rcases e2 with ⟨rfl, rfl⟩ | ⟨p, hp, rfl, rfl⟩
    · exact ⟨by omega, by omega, by omega, by omega, by decide⟩
    · exact (hg p (hm p hp).1 (hm p hp).2).2.1
  · rcases e3 with ⟨rfl, rfl⟩ | ⟨p, hp, rfl, rfl⟩
    · exact ⟨by omega, by omega, by omega, by omega, by decide⟩
    · exact (hg p (hm p hp).1 (hm p hp).2).1
  · unfold metAny
    rw [List.any_eq_false]
    intro p hpp hh
    obtain ⟨h1, h2⟩ := has_bet.1 hh
    exact e7 n m hp.2.2.1 k1 k2 p (hl.mem_iff.2 (selG_mem.2 ⟨hpp, h1⟩)) h2

theorem at_one (a b n : Int) : atV a b n 1 = a + (b - a) * n := by
  unfold atV rndV
  generalize (b - a) * n = x
  omega
/-- A direct beam that meets an end of a face is as steep as told. -/
theorem steep_met {thick : Int} {f : Fc} {s : Su} {n : Int} (hn : 0 ≤ n) (hl : s.legs = 1) (h : (metV thick f s).has n 1 = true) (h1 : tanE s.ln s.ld = 0) (hd : 1 ≤ atV f.fz f.tz n 1) :
    0 ≤ s.side * (atV f.fx f.tx n 1 - s.at_) ∧ steepB (s.side * (atV f.fx f.tx n 1 - s.at_)) (atV f.fz f.tz n 1) s.ln s.ld s.mn s.md = true := by
  obtain ⟨a1, a2, a3, a4⟩ := tanE_zero h1
  rw [PV.has_iff] at h
  unfold metV at h
  rw [if_neg (by omega)] at h
  rw [metW_has _ _ _ _ _ hn (by omega)] at h
  obtain ⟨_, _, c1, c2, _⟩ := h
  rw [at_one] at hd ⊢
  rw [at_one]
  have e1 : (s.side * (f.fx - s.at_) * s.ld - f.fz * s.ln) * 1 + (s.side * (f.tx - f.fx) * s.ld - (f.tz - f.fz) * s.ln) * n = s.side * (f.fx + (f.tx - f.fx) * n - s.at_) * s.ld - s.ln * (f.fz + (f.tz - f.fz) * n) := by grind
  have e2 : (f.fz * s.mn - s.side * (f.fx - s.at_) * s.md) * 1 + ((f.tz - f.fz) * s.mn - s.side * (f.tx - f.fx) * s.md) * n = s.mn * (f.fz + (f.tz - f.fz) * n) - s.side * (f.fx + (f.tx - f.fx) * n - s.at_) * s.md := by grind
  rw [e1] at c1
  rw [e2] at c2
  generalize s.side * (f.fx + (f.tx - f.fx) * n - s.at_) = A at *
  generalize f.fz + (f.tz - f.fz) * n = D at *
  have hA : 0 ≤ A := by
    rcases Int.lt_or_le A 0 with h | h
    · have := Int.mul_neg_of_neg_of_pos h a3
      have := Int.mul_nonneg (a := s.ln) (b := D) a1 (by omega)
      omega
    · exact h
  refine ⟨hA, ?_⟩
  unfold steepB
  rw [Int.max_eq_left (by omega)]
  simp only [Bool.and_eq_true, decide_eq_true_eq]
  exact ⟨by omega, by omega⟩
end Go.Proofs.YtfbnpfhnffahdaaGreatDoor
