/- The law CoverSetups answers true. -/
import Derived.Test.YtkbggcencmjgfaaGreatDoorCkE
import Derived.Test.YtkbggcencmjgfaaGreatDoorZkCwI
import Derived.DeepKeys
namespace Go.Proofs.YtkbggcencmjgfaaGreatDoor
open Go.RowKit Go.Lib

theorem run_eq_int {d : Nat} (a c : Int) (w : World) : (Op.equalIn (d + 1) 3 (.int .i64 a) (.int .i64 c)).run Tryz.prog w = .ok (decide (a = c)) w := by
  have hu : Tryz.prog.underlying 3 = some (.int .i64) := by kernel_rfl
  simp [Op.equalIn, run_underlying hu]
  rfl
theorem run_eq_str {d : Nat} (a c : ByteArray) (w : World) : (Op.equalIn (d + 1) 9 (.string a) (.string c)).run Tryz.prog w = .ok (a == c) w := by
  have hu : Tryz.prog.underlying 9 = some .string := by kernel_rfl
  simp [Op.equalIn, run_underlying hu]
theorem part_int (xs : Array Value) (i : Nat) (a : Value) (h : xs[i]? = some a) (w : World) : (part 3 xs i).run Tryz.prog w = .ok a w := run_part_plain w (by kernel_rfl) h
theorem part_str (xs : Array Value) (i : Nat) (a : Value) (h : xs[i]? = some a) (w : World) : (part 9 xs i).run Tryz.prog w = .ok a w := run_part_plain w (by kernel_rfl) h
theorem eq_frac' (d : Nat) (a b c e : Int) (w : World) : (Op.equalIn (d + 2) 23 (.agg #[.int .i64 a, .int .i64 b]) (.agg #[.int .i64 c, .int .i64 e])).run Tryz.prog w = .ok (decide (a = c) && decide (b = e)) w := by
  have hs : (Tryz.prog.stoodInHeld 23) = false := by kernel_rfl
  unfold Op.equalIn
  by_cases h1 : a = c <;> by_cases h2 : b = e <;>
    simp [run_underlying Tryz.underlying23, hs, part_int, run_eq_int, h1, h2]
theorem byte_refl (a : ByteArray) : (a == a) = true := by
  cases a with
  | mk d => exact beq_self_eq_true d
theorem part_frac (xs : Array Value) (i : Nat) (a b : Value) (h0 : xs[i]? = some a) (h1 : xs[i + 1]? = some b) (w : World) : (part 23 xs i).run Tryz.prog w = .ok (.agg #[a, b]) w := by
  obtain ⟨inf, hi⟩ := Option.isSome_iff_exists.1 (show (Tryz.prog.info? 23).isSome = true by kernel_rfl)
  have hz : inf.size = 2 := by
    have : (Tryz.prog.info? 23).map (·.size) = some 2 := by kernel_rfl
    rw [hi] at this; simpa using this
  have he : xs.extract i (i + 2) = #[a, b] := by
    apply Array.ext_getElem?
    intro j
    rw [Array.getElem?_extract]
    have l1 := (Array.getElem?_eq_some_iff.1 h1).1
    match j with
    | 0 => rw [if_pos (by omega)]; exact h0
    | 1 => rw [if_pos (by omega)]; exact h1
    | j + 2 => rw [if_neg (by omega)]; rfl
  simp [part, isAgg, run_underlying Tryz.underlying23, sizeOf, typeInfo, hi, hz, he]
theorem eq_setup (nm : ByteArray) (s : Su) (w : World) : (Op.equalIn 10000 25 (.agg (suC nm s)) (.agg (suC nm s))).run Tryz.prog w = .ok true w := by
  have hs : (Tryz.prog.stoodInHeld 25) = false := by kernel_rfl
  have r1 := eq_frac' 9997 s.ln s.ld s.ln s.ld w
  have r2 := eq_frac' 9997 s.mn s.md s.mn s.md w
  have r3 := eq_frac' 9997 s.tn s.td s.tn s.td w
  simp only [decide_true, Bool.and_self] at r1 r2 r3
  have p1 := part_frac (suC nm s) 4 (.int .i64 s.ln) (.int .i64 s.ld) rfl rfl w
  have p2 := part_frac (suC nm s) 6 (.int .i64 s.mn) (.int .i64 s.md) rfl rfl w
  have p3 := part_frac (suC nm s) 8 (.int .i64 s.tn) (.int .i64 s.td) rfl rfl w
  unfold suC at p1 p2 p3 ⊢
  unfold Op.equalIn
  simp [run_underlying Tryz.underlying25, hs, part_int, part_str, run_eq_int, run_eq_str, p1, p2, p3, r1, r2, r3, byte_refl nm]
set_option maxRecDepth 100000 in
set_option maxHeartbeats 8000000 in
theorem coverSetups_any (nm : ByteArray) (s0 : Su) (t : ByteArray) (w : World) (hE : Ends w) (hL : LibW w) (hwf : s0.wf) :
    Calls Tryz.prog 3 #[.agg (suC nm s0), .string t] w fun e w' => e = .returned (.bool true) ∧ Below w.heap.size w w' := by
  have HL := Lib.hid hL; clear hL
  have hI : suI s0 := fun v hv => by
    obtain ⟨a1, a2, a3, a4, a5, a6, a7, a8, a9⟩ := hwf
    simp only [suN, List.mem_cons, List.not_mem_nil, or_false] at hv
    simp only [I64] at a1 a2 a3 a4 a5 a6 a7 a8 a9
    omega
  have HI := Lib.hid hI; clear hI
  have b0 := Blk.new w 25 (suC nm s0)
  have hB0 : Below w.heap.size w (w.alloc (.cells (suC nm s0) 25)) := (by repeat (first | (with_reducible exact Below.refl _ _) | (with_reducible assumption) | ((with_reducible refine Below.setCell ?_ ?_ _); rotate_left; · (first | exact Nat.le_refl _ | (simp; done) | (simp; omega) | omega)) | ((with_reducible refine Below.alloc ?_ ?_ _); rotate_left; · (first | exact Nat.le_refl _ | (simp; done) | (simp; omega) | omega)) | (with_reducible apply Below.drew) | (with_reducible apply below_drewN') | (refine Below.trans ?_ (Below.mono (by assumption) (by first | exact Nat.le_refl _ | (simp; done) | (simp; omega) | omega))) | exact Below.refl _ _ | assumption))
  have hE0 : Ends (w.alloc (.cells (suC nm s0) 25)) := hE.below hB0
  have HE0 := Lib.hid hE0; clear hE0
  go_enter Tryz.func3, Tryz.ntmps3
  go_wp2_with fail
  refine (awake_any _ HE0.out).mono ?_
  rintro e w1 ⟨rfl, hB1⟩
  have b1 := b0.below hB1 b0.lt
  have hBB := hB0.trans (hB1.mono (by simp))
  have lt1 := b1.lt
  clear b0 hB0 hB1
  obtain ⟨c0, c1, c2, c3, c4, c5, c6, c7, c8, c9, _⟩ := blkX b1
  by_cases h20 : 20 < nm.size
  · have g20 : decide ((20 : Int) < (nm.size : Int)) = true := by rw [decide_eq_true_eq]; omega
    go_wp2
    go_ret
    exact ⟨rfl, hBB⟩
  have g20 : decide ((20 : Int) < (nm.size : Int)) = false := by rw [decide_eq_false_iff_not]; omega
  by_cases h120 : 120 < t.size
  · have g120 : decide ((120 : Int) < (t.size : Int)) = true := by rw [decide_eq_true_eq]; omega
    go_wp2
    go_ret
    exact ⟨rfl, hBB⟩
  have g120 : decide ((120 : Int) < (t.size : Int)) = false := by rw [decide_eq_false_iff_not]; omega
  have HLW1 := Lib.hid (HL.out.below hBB (Nat.le_refl _))
  have hzB := Below.size hBB
  have htl : (suT nm s0).size ≤ 1000 := by
    unfold suT
    rw [strB_size]
    have := suT_len nm s0 HI.out
    omega
  obtain ⟨tx, htx⟩ : ∃ tx, suT nm s0 = tx := ⟨_, rfl⟩
  have HF1 : Hid (∀ W', LibW W' → Calls Tryz.prog 6 #[.agg (suC nm s0)] W' fun e w' => e = .returned (.string tx) ∧ Below W'.heap.size W' w') := Lib.hid fun W' h => by rw [← htx]; exact formatSetup_any nm s0 HI (by omega) W' h
  have HF2 : Hid (∀ W', Calls Tryz.prog 11 #[.agg (suC nm s0)] W' fun e w' => e = .returned (.string tx) ∧ Below W'.heap.size W' w') := Lib.hid fun W' => by rw [← htx]; exact rFormatSetup_any nm s0 HI (by omega) W'
  obtain ⟨mn, M, eM, hq⟩ : ∃ (mn : ByteArray) (M : Su) (eM : Int), suP t = ((mn, M), eM) := ⟨_, _, _, rfl⟩
  have HP1 : Hid (∀ W', LibW W' → Calls Tryz.prog 7 #[.string t] W' fun e w' => e = .returned (.tuple #[.agg #[.string mn, .int .i64 M.at_, .int .i64 M.side, .int .i64 M.legs, .int .i64 M.ln, .int .i64 M.ld, .int .i64 M.mn, .int .i64 M.md, .int .i64 M.tn, .int .i64 M.td], .int .i64 eM]) ∧ Below W'.heap.size W' w') := Lib.hid fun W' h => by
    have := parseSetup_any t (by omega) W' h
    rw [hq] at this
    exact this
  have HP2 : Hid (∀ W', Calls Tryz.prog 8 #[.string t] W' fun e w' => e = .returned (.tuple #[.agg #[.string mn, .int .i64 M.at_, .int .i64 M.side, .int .i64 M.legs, .int .i64 M.ln, .int .i64 M.ld, .int .i64 M.mn, .int .i64 M.md, .int .i64 M.tn, .int .i64 M.td], .int .i64 eM]) ∧ Below W'.heap.size W' w') := Lib.hid fun W' => by
    have := rParseSetup_any t (by omega) W'
    rw [hq] at this
    exact this
  obtain ⟨nn, N, eN, hr⟩ : ∃ (nn : ByteArray) (N : Su) (eN : Int), suP tx = ((nn, N), eN) := ⟨_, _, _, rfl⟩
  have HP3 : Hid (∀ W', LibW W' → Calls Tryz.prog 7 #[.string tx] W' fun e w' => e = .returned (.tuple #[.agg #[.string nn, .int .i64 N.at_, .int .i64 N.side, .int .i64 N.legs, .int .i64 N.ln, .int .i64 N.ld, .int .i64 N.mn, .int .i64 N.md, .int .i64 N.tn, .int .i64 N.td], .int .i64 eN]) ∧ Below W'.heap.size W' w') := Lib.hid fun W' h => by
    have := parseSetup_any tx (by rw [← htx]; exact htl) W' h
    rw [hr] at this
    exact this
  obtain ⟨ev, hev⟩ : ∃ ev, setupE nm s0 = ev := ⟨_, rfl⟩
  have HBK : Hid (ev = 0 → nn = nm ∧ N = s0 ∧ eN = 0) := Lib.hid fun h => by
    have := su_back nm s0 (hev.trans h)
    rw [htx, hr] at this
    exact ⟨congrArg (·.1.1) this, congrArg (·.1.2) this, congrArg Prod.snd this⟩
  have HME : Hid (∀ W', Calls Tryz.prog 9 #[.agg (suC nm s0)] W' fun e w' => e = .returned (.int .i64 ev) ∧ Below W'.heap.size W' w') := Lib.hid fun W' => by rw [← hev]; exact rCheckSetup_any nm s0 W' (by omega) hwf
  have HMC : Hid (∀ W', Calls Tryz.prog 10 #[.agg (suC nm s0)] W' fun e w' => e = .returned (.int .i64 ev) ∧ Below W'.heap.size W' w') := Lib.hid fun W' => by rw [← hev]; exact checkSetup_any nm s0 W' (by omega) hwf
  have HEQ : Hid (∀ (n : ByteArray) (M : Su) W', (Op.equalIn 10000 25 (.agg (suC n M)) (.agg (suC n M))).run Tryz.prog W' = .ok true W') := Lib.hid fun n M W' => eq_setup n M W'
  clear htx hq hr hev htl h20 h120 hwf
  have htt : (tx.toList == tx.toList) = true := by simp
  have hee : (eM != eM) = false := by simp
  have hvv : (ev != ev) = false := by simp
  go_wp2_with fail
  refine (HF1.out _ HLW1.out).mono ?_
  rintro e w2 ⟨rfl, hB2⟩
  replace b1 := b1.below hB2 lt1
  replace hBB := hBB.trans (hB2.mono hzB)
  replace lt1 := b1.lt
  have HLW2 := Lib.hid (HL.out.below hBB (Nat.le_refl _))
  replace hzB := Below.size hBB
  clear c0 c1 c2 c3 c4 c5 c6 c7 c8 c9 hB2 HLW1
  go_wp2_with fail
  refine (HP1.out _ HLW2.out).mono ?_
  rintro e w3 ⟨rfl, hB3⟩
  replace b1 := b1.below hB3 lt1
  replace hBB := hBB.trans (hB3.mono hzB)
  replace lt1 := b1.lt
  replace hzB := Below.size hBB
  clear hB3 HLW2
  have q1 := Blk.new w3 25 (suC mn M)
  go_wp2_with fail
  refine (HP2.out _).mono ?_
  rintro e w4 ⟨rfl, hB4'⟩
  have hz4 := Below.size hB4'
  simp only [World.size_alloc] at hz4
  replace b1 := (b1.alloc (.cells (suC mn M) 25)).below hB4' (by simp; omega)
  replace q1 := q1.below hB4' (by simp)
  replace hBB := (hBB.alloc hzB (.cells (suC mn M) 25)).trans (hB4'.mono (by simp; omega))
  replace lt1 := b1.lt
  replace hzB := Below.size hBB
  clear hB4'
  obtain ⟨g6, hg6⟩ : ∃ g, w3.heap.size = g := ⟨_, rfl⟩
  rw [hg6] at q1 hz4
  rw [hg6]
  clear hg6
  have q2 := Blk.new w4 25 (suC mn M)
  have hBB5 := hBB.alloc hzB (.cells (suC mn M) 25)
  have B5 := Lib.hid (b1.alloc (.cells (suC mn M) 25))
  have Q5 := Lib.hid (q1.alloc (.cells (suC mn M) 25))
  have R5 := Lib.hid q2
  obtain ⟨c0, c1, c2, c3, c4, c5, c6, c7, c8, c9, _⟩ := blkX b1
  clear b1 q1 q2
  go_wp2_with fail
  refine (HME.out _).mono ?_
  rintro e w5 ⟨rfl, hB5⟩
  have hz5 := Below.size hB5
  simp only [World.size_alloc] at hz5
  have b5 := B5.out.below hB5 B5.out.lt
  have q5 := Q5.out.below hB5 Q5.out.lt
  have r5 := R5.out.below hB5 R5.out.lt
  have hBB6 := hBB5.trans (hB5.mono (by simp; omega))
  have hz6 := Below.size hBB6
  have ltb := b5.lt
  clear c0 c1 c2 c3 c4 c5 c6 c7 c8 c9 B5 Q5 R5 hB5 hBB5
  obtain ⟨c0, c1, c2, c3, c4, c5, c6, c7, c8, c9, _⟩ := blkX b5
  go_wp2_with fail
  refine (HMC.out _).mono ?_
  rintro e w6 ⟨rfl, hB6⟩
  replace b5 := b5.below hB6 b5.lt
  replace q5 := q5.below hB6 q5.lt
  replace r5 := r5.below hB6 r5.lt
  have hBB7 := hBB6.trans (hB6.mono hz6)
  have hz7 := Below.size hBB7
  replace ltb := b5.lt
  clear c0 c1 c2 c3 c4 c5 c6 c7 c8 c9 hB6 hBB6
  obtain ⟨c0, c1, c2, c3, c4, c5, c6, c7, c8, c9, _⟩ := blkX b5
  go_wp2_with (go_at_call 11; refine (HF2.out _).mono ?_; rintro e w7 ⟨rfl, hB7⟩; have b7 := b5.below hB7 b5.lt; have q7 := q5.below hB7 q5.lt; have r7 := r5.below hB7 r5.lt; have hBB8 := hBB7.trans (hB7.mono hz7); have ltb7 := b7.lt; have ltq := q7.lt; have ltr := r7.lt; obtain ⟨x0, x1, x2, x3, x4, x5, x6, x7, x8, x9, _⟩ := blkX q7; obtain ⟨y0, y1, y2, y3, y4, y5, y6, y7, y8, y9, _⟩ := blkX r7; have eq7 := HEQ.out mn M w7; unfold suC at eq7; have HL7 := Lib.hid (HL.out.below hBB8 (Nat.le_refl _)); have B7 := Lib.hid b7; clear hB7 c0 c1 c2 c3 c4 c5 c6 c7 c8 c9 b5 q5 r5)
  refine (HP3.out _ HL7.out).mono ?_
  rintro e w8 ⟨rfl, hB8⟩
  have b8 := B7.out.below hB8 B7.out.lt
  have lt8 := b8.lt
  have hBB9 := hBB8.trans (hB8.mono (Below.size hBB8))
  clear x0 x1 x2 x3 x4 x5 x6 x7 x8 x9 y0 y1 y2 y3 y4 y5 y6 y7 y8 y9 eq7 b7 q7 r7 B7 HL7 hB8 ltb7 ltq ltr hBB8 hBB7
  have hz9 := Below.size hBB9
  have hBBa := hBB9.alloc hz9 (.cells (suC nn N) 25)
  obtain ⟨c0, c1, c2, c3, c4, c5, c6, c7, c8, c9, _⟩ := blkX b8
  have eq9 : ∀ W', (Op.equalIn 10000 25 (.agg (suC nm s0)) (.agg (suC nm s0))).run Tryz.prog W' = .ok true W' := HEQ.out nm s0
  unfold suC at eq9
  by_cases hE0 : ev = 0
  · obtain ⟨h1, h2, h3⟩ := HBK.out hE0
    subst hE0
    subst h1
    subst h2
    subst h3
    go_wp2
    go_ret
    exact ⟨rfl, hBBa⟩
  · have hEn : (ev != 0) = true := by rw [bne_iff_ne]; exact hE0
    clear hE0
    go_wp2
    go_ret
    exact ⟨rfl, hBBa⟩
end Go.Proofs.YtkbggcencmjgfaaGreatDoor
