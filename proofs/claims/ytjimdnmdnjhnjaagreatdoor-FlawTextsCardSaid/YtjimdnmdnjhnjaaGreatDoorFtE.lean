/- The law FlawTexts answers true. -/
import Derived.Test.YtjimdnmdnjhnjaaGreatDoorFtD
import Derived.Test.YtjimdnmdnjhnjaaGreatDoorZgFfE
namespace Go.Proofs.YtjimdnmdnjhnjaaGreatDoor
open Go.RowKit Go.Lib

theorem markP_fine (s : ByteArray) (hs : s.size ≤ 1000) : (markP s).1.nm.size ≤ 1000 := by
  unfold markP
  simp only []
  split
  · exact Nat.zero_le _
  · split
    · exact Nat.zero_le _
    · split
      · exact Nat.le_trans (nmOf_size s) hs
      · exact Nat.zero_le _
set_option maxRecDepth 100000 in
set_option maxHeartbeats 8000000 in
theorem flawTexts_any (m : Mk) (s : ByteArray) (w : World) (hL : LibW w) (hI : Hid (markI m)) (hms : m.nm.size ≤ 9223372036854775807) (hss : s.size ≤ 9223372036854775807) :
    Calls Tryz.prog 3 #[.agg (mkC m), .string s] w fun e w' => e = .returned (.bool true) ∧ Below w.heap.size w w' := by
  have HL := Lib.hid hL; clear hL
  have b0 := Blk.new w 25 (mkC m)
  have hB0 : Below w.heap.size w (w.alloc (.cells (mkC m) 25)) := (by repeat (first | (with_reducible exact Below.refl _ _) | (with_reducible assumption) | ((with_reducible refine Below.setCell ?_ ?_ _); rotate_left; · (first | exact Nat.le_refl _ | (simp; done) | (simp; omega) | omega)) | ((with_reducible refine Below.alloc ?_ ?_ _); rotate_left; · (first | exact Nat.le_refl _ | (simp; done) | (simp; omega) | omega)) | (with_reducible apply Below.drew) | (with_reducible apply below_drewN') | (refine Below.trans ?_ (Below.mono (by assumption) (by first | exact Nat.le_refl _ | (simp; done) | (simp; omega) | omega))) | exact Below.refl _ _ | assumption))
  go_enter Tryz.func3, Tryz.ntmps3
  go_wp2_with fail
  refine (awake_any _).mono ?_
  rintro e w1 ⟨rfl, hB1⟩
  have b1 := b0.below hB1 b0.lt
  have hBB := hB0.trans (hB1.mono (by simp))
  have lt1 := b1.lt
  clear b0 hB0 hB1
  obtain ⟨c0, c1, c2, c3, c4, c5, _⟩ := blk6 b1
  by_cases h40 : 40 < m.nm.size
  · have g40 : decide ((40 : Int) < (m.nm.size : Int)) = true := by rw [decide_eq_true_eq]; omega
    go_wp2
    go_ret
    exact ⟨rfl, hBB⟩
  have g40 : decide ((40 : Int) < (m.nm.size : Int)) = false := by rw [decide_eq_false_iff_not]; omega
  by_cases h120 : 120 < s.size
  · have g120 : decide ((120 : Int) < (s.size : Int)) = true := by rw [decide_eq_true_eq]; omega
    go_wp2
    go_ret
    exact ⟨rfl, hBB⟩
  have g120 : decide ((120 : Int) < (s.size : Int)) = false := by rw [decide_eq_false_iff_not]; omega
  have HLW1 := Lib.hid (HL.out.below hBB (Nat.le_refl _))
  have hzB := Below.size hBB
  -- the text
  have htl : (markT m).size ≤ 1000 := by
    unfold markT
    rw [strB_size]
    have := markT_len m hI.out
    omega
  obtain ⟨tx, htx⟩ : ∃ tx, markT m = tx := ⟨_, rfl⟩
  have HF1 : Hid (∀ W', LibW W' → Calls Tryz.prog 5 #[.agg (mkC m)] W' fun e w' => e = .returned (.string tx) ∧ Below W'.heap.size W' w') := Lib.hid fun W' h => by rw [← htx]; exact formatMark_any m hI (by omega) W' h
  have HF2 : Hid (∀ W', Calls Tryz.prog 8 #[.agg (mkC m)] W' fun e w' => e = .returned (.string tx) ∧ Below W'.heap.size W' w') := Lib.hid fun W' => by rw [← htx]; exact refFormatMark_any m hI (by omega) W'
  obtain ⟨M, eM, hq⟩ : ∃ (M : Mk) (eM : Int), markP s = (M, eM) := ⟨_, _, rfl⟩
  have HP1 : Hid (∀ W', LibW W' → Calls Tryz.prog 6 #[.string s] W' fun e w' => e = .returned (.tuple #[.agg (mkC M), .int .i64 eM]) ∧ Below W'.heap.size W' w') := Lib.hid fun W' h => by
    have := parseMark_any s (by omega) W' h
    rwa [hq] at this
  have HP2 : Hid (∀ W', Calls Tryz.prog 7 #[.string s] W' fun e w' => e = .returned (.tuple #[.agg (mkC M), .int .i64 eM]) ∧ Below W'.heap.size W' w') := Lib.hid fun W' => by
    have := refParseMark_any s (by omega) W'
    rwa [hq] at this
  obtain ⟨N, eN, hr⟩ : ∃ (N : Mk) (eN : Int), markP tx = (N, eN) := ⟨_, _, rfl⟩
  have HP3 : Hid (∀ W', LibW W' → Calls Tryz.prog 6 #[.string tx] W' fun e w' => e = .returned (.tuple #[.agg (mkC N), .int .i64 eN]) ∧ Below W'.heap.size W' w') := Lib.hid fun W' h => by
    have := parseMark_any tx (by rw [← htx]; exact htl) W' h
    rwa [hr] at this
  obtain ⟨ev, hev⟩ : ∃ ev, markE m = ev := ⟨_, rfl⟩
  have HBK : Hid (ev = 0 → N = m ∧ eN = 0) := Lib.hid fun h => by
    have := mark_back m (hev.trans h)
    rw [htx, hr] at this
    exact ⟨congrArg Prod.fst this, congrArg Prod.snd this⟩
  have HME : Hid (∀ W', Calls Tryz.prog 9 #[.agg (mkC m)] W' fun e w' => e = .returned (.int .i64 ev) ∧ Below W'.heap.size W' w') := Lib.hid fun W' => by rw [← hev]; exact refMarkErr_any m (by omega) W'
  have HEQ : Hid (∀ (M : Mk) W', (Op.equalIn 10000 25 (.agg (mkC M)) (.agg (mkC M))).run Tryz.prog W' = .ok true W') := Lib.hid fun M W' => eq_mark_same M W'
  clear htx hq hr hev htl h40 h120
  have htt : (tx.toList == tx.toList) = true := by simp
  have hee : (eM != eM) = false := by simp
  go_wp2_with fail
  refine (HF1.out _ HLW1.out).mono ?_
  rintro e w2 ⟨rfl, hB2⟩
  replace b1 := b1.below hB2 lt1
  replace hBB := hBB.trans (hB2.mono hzB)
  replace lt1 := b1.lt
  have HLW2 := Lib.hid (HL.out.below hBB (Nat.le_refl _))
  replace hzB := Below.size hBB
  clear c0 c1 c2 c3 c4 c5 hB2 HLW1
  go_wp2_with fail
  refine (HP1.out _ HLW2.out).mono ?_
  rintro e w3 ⟨rfl, hB3⟩
  replace b1 := b1.below hB3 lt1
  replace hBB := hBB.trans (hB3.mono hzB)
  replace lt1 := b1.lt
  replace hzB := Below.size hBB
  clear hB3 HLW2
  have q1 := Blk.new w3 25 (mkC M)
  have hB4 : Below w3.heap.size w3 (w3.alloc (.cells (mkC M) 25)) := (Below.refl _ _).alloc (Nat.le_refl _) _
  go_wp2_with fail
  refine (HP2.out _).mono ?_
  rintro e w4 ⟨rfl, hB4'⟩
  have hz4 := Below.size hB4'
  simp only [World.size_alloc] at hz4
  replace b1 := (b1.alloc (.cells (mkC M) 25)).below hB4' (by simp; omega)
  replace q1 := q1.below hB4' (by simp)
  replace hBB := (hBB.alloc hzB (.cells (mkC M) 25)).trans (hB4'.mono (by simp; omega))
  replace lt1 := b1.lt
  replace hzB := Below.size hBB
  have ltq1 := q1.lt
  clear hB4' hB4
  obtain ⟨g6, hg6⟩ : ∃ g, w3.heap.size = g := ⟨_, rfl⟩
  rw [hg6] at q1 ltq1 hz4
  rw [hg6]
  clear hg6
  have q2 := Blk.new w4 25 (mkC M)
  have hBB5 := hBB.alloc hzB (.cells (mkC M) 25)
  have B5 := Lib.hid (b1.alloc (.cells (mkC M) 25))
  have Q5 := Lib.hid (q1.alloc (.cells (mkC M) 25))
  have R5 := Lib.hid q2
  obtain ⟨c0, c1, c2, c3, c4, c5, _⟩ := blk6 b1
  go_wp2_with (go_at_call 8; refine (HF2.out _).mono ?_; rintro e w5 ⟨rfl, hB5⟩; have hz5 := Below.size hB5; simp only [World.size_alloc] at hz5; have b5 := B5.out.below hB5 B5.out.lt; have q5 := Q5.out.below hB5 Q5.out.lt; have r5 := R5.out.below hB5 R5.out.lt; have hBB6 := hBB5.trans (hB5.mono (by simp; omega)); have ltb := b5.lt; have ltq := q5.lt; have ltr := r5.lt; obtain ⟨x0, x1, x2, x3, x4, x5, _⟩ := blk6 q5; obtain ⟨y0, y1, y2, y3, y4, y5, _⟩ := blk6 r5; obtain ⟨z0, z1, z2, z3, z4, z5, _⟩ := blk6 b5; have eq5 := HEQ.out M w5; have HL5 := Lib.hid (HL.out.below hBB6 (Nat.le_refl _)); have B6 := Lib.hid b5; clear hB5 c0 c1 c2 c3 c4 c5 b1 q1 q2)
  refine (HP3.out _ HL5.out).mono ?_
  rintro e w6 ⟨rfl, hB6⟩
  have hz6 := Below.size hB6
  have b6 := B6.out.below hB6 ltb
  have lt6 := b6.lt
  have hBB7 := hBB6.trans (hB6.mono (Below.size hBB6))
  have hz7 := Below.size hBB7
  clear x0 x1 x2 x3 x4 x5 y0 y1 y2 y3 y4 y5 z0 z1 z2 z3 z4 z5 eq5 b5 q5 r5 B5 Q5 R5 B6 HL5 hB6 ltb ltq ltr hBB hBB5 lt1 ltq1 hz4 hz5 hz6 hBB6 hzB
  have hBB8 := hBB7.alloc hz7 (.cells (mkC N) 25)
  have B8 := Lib.hid (b6.alloc (.cells (mkC N) 25))
  have R8 := Lib.hid (Blk.new w6 25 (mkC N))
  obtain ⟨c0, c1, c2, c3, c4, c5, _⟩ := blk6 b6
  by_cases hE0 : ev = 0
  · obtain ⟨hN, heN⟩ := HBK.out hE0
    subst hE0
    subst hN
    subst heN
    go_wp2_with (go_at_call 9; refine (HME.out _).mono ?_; rintro e w7 ⟨rfl, hB9⟩; have hz9 := Below.size hB9; simp only [World.size_alloc] at hz9; have b9 := B8.out.below hB9 B8.out.lt; have r9 := R8.out.below hB9 R8.out.lt; have hBB9 := hBB8.trans (hB9.mono (by simp; omega)); have ltb := b9.lt; have ltr := r9.lt; obtain ⟨x0, x1, x2, x3, x4, x5, _⟩ := blk6 b9; obtain ⟨y0, y1, y2, y3, y4, y5, _⟩ := blk6 r9; have eq9 := HEQ.out N w7; clear c0 c1 c2 c3 c4 c5 hB9)
    go_ret
    exact ⟨rfl, hBB9⟩
  · have hEn : (ev != 0) = true := by rw [bne_iff_ne]; exact hE0
    clear hE0
    go_wp2_with (go_at_call 9; refine (HME.out _).mono ?_; rintro e w7 ⟨rfl, hB9⟩; have hz9 := Below.size hB9; simp only [World.size_alloc] at hz9; have hBB9 := hBB8.trans (hB9.mono (by simp; omega)); clear c0 c1 c2 c3 c4 c5 hB9)
    go_ret
    exact ⟨rfl, hBB9⟩
end Go.Proofs.YtjimdnmdnjhnjaaGreatDoor
