/- Contract of the law of joints: true. The law CoverTexts answers true. -/
import Derived.DeepKeys
import Derived.Test.YtaekcfancfoccaaGreatDoorZmZkCwL
import Derived.Test.YtaekcfancfoccaaGreatDoorZmZkCwI
import Derived.Test.YtaekcfancfoccaaGreatDoorZmCuY
import Derived.Test.YtaekcfancfoccaaGreatDoorZmCuZ
import Derived.Test.YtaekcfancfoccaaGreatDoorZmCuS
import Derived.Test.YtaekcfancfoccaaGreatDoorZmCuU
import Derived.Test.YtaekcfancfoccaaGreatDoorZmZkCwG
import Derived.Test.YtaekcfancfoccaaGreatDoorZmZkCwH
namespace Go.Proofs.YtaekcfancfoccaaGreatDoor
open Go.RowKit

theorem fewB_ok {j : Jo} (h : fewB j = true) : j.fs.length ≤ 14 ∧ j.nm.size ≤ 20 ∧ ∀ p ∈ j.fs, p.1.size ≤ 20 := by
  unfold fewB at h
  simp only [Bool.and_eq_true, Bool.not_eq_true', Bool.or_eq_false_iff, List.all_eq_true, decide_eq_true_eq, decide_eq_false_iff_not] at h
  exact ⟨by omega, by omega, h.2⟩

end Go.Proofs.YtaekcfancfoccaaGreatDoor

namespace Go.Proofs.YtaekcfancfoccaaGreatDoor
open Go.RowKit Go.Lib

/-! ### the names that a text gives are of a size -/
def JoN (B : Nat) (j : Jo) : Prop := j.nm.size ≤ B ∧ ∀ p ∈ j.fs, p.1.size ≤ B
def stN (B : Nat) : Option Jo → Prop
  | none => True
  | some j => JoN B j
theorem joZ_N (B : Nat) : JoN B joZ := ⟨Nat.zero_le _, fun p hp => by cases hp⟩
theorem wordT_size {ws : List (ByteArray × Int)} {B : Nat} (h : ∀ p ∈ ws, p.1.size ≤ B) (k : Nat) : (wordT ws k).size ≤ B := by
  by_cases hk : k < ws.length
  · rw [wordT_eq hk]; exact h _ (List.getElem_mem hk)
  · unfold wordT
    rw [List.getD_eq_getElem?_getD, List.getElem?_eq_none (by omega)]
    exact Nat.zero_le _
theorem headP_N {ws : List (ByteArray × Int)} {B : Nat} (h : ∀ p ∈ ws, p.1.size ≤ B) : (headP ws).1.1.size ≤ B := by
  unfold headP
  repeat (split; · exact Nat.zero_le _)
  exact wordT_size h 1
theorem faceP_N {j : Jo} {ws : List (ByteArray × Int)} {B : Nat} (h : ∀ p ∈ ws, p.1.size ≤ B) {q : ByteArray × Fc} (hq : (faceP j ws).1 = some q) : q.1.size ≤ B := by
  unfold faceP at hq
  repeat (split at hq; · cases hq)
  have e : (wordT ws 1, fcOf ws) = q := Option.some.inj hq
  rw [← e]
  exact wordT_size h 1
theorem stepP_N {st : Option Jo} {ws : List (ByteArray × Int)} {B : Nat} (hs : stN B st) (h : ∀ p ∈ ws, p.1.size ≤ B) : stN B (stepP st ws).1 := by
  cases st with
  | none => exact ⟨headP_N h, fun p hp => by cases hp⟩
  | some j =>
    show JoN B (joF j (faceP j ws).1)
    cases hq : (faceP j ws).1 with
    | none => exact hs
    | some q =>
      refine ⟨hs.1, fun p hp => ?_⟩
      rcases List.mem_append.1 (show p ∈ j.fs ++ [q] from hp) with hp | hp
      · exact hs.2 p hp
      · obtain rfl : p = q := by simpa using hp
        exact faceP_N h hq
theorem parseL_N {B : Nat} : ∀ (L : List (List UInt8)) (k : Nat) (st : Option Jo), stN B st → (∀ l ∈ L, l.length ≤ B) → JoN B (parseL k st L).1
  | [], k, none, _, _ => by rw [parseL_end0]; exact joZ_N B
  | [], k, some j, hs, _ => by rw [parseL_end1]; exact hs
  | l :: r, k, st, hs, hL => by
    have hr : ∀ l ∈ r, l.length ≤ B := fun x hx => hL x (by simp [hx])
    by_cases hw : lineWs l = []
    · rw [parseL_skip hw]; exact parseL_N r _ _ hs hr
    · by_cases he : (stepP st (lineWs l)).2.2 = 0
      · rw [parseL_go hw he]
        refine parseL_N r _ _ (stepP_N hs (fun p hp => ?_)) hr
        exact (lineWs_size l (by rw [strB_size]; exact hL l (by simp)) p hp).1
      · rw [parseL_bad hw he]; exact joZ_N B
theorem parseT_N (t : ByteArray) : JoN t.size (parseT t).1 := by
  unfold parseT
  split
  · exact joZ_N _
  · exact parseL_N _ _ _ trivial (fun l hl => (cut_small t).2 l (by unfold linesR at hl; split at hl; exact List.dropLast_subset _ hl; exact hl))
theorem JoR.ok {j : Jo} {A : Option Addr} {c : Nat} {w w' : World} (h : JoR j A c w) (hN : JoN 1000000 j) (hg : Gr w w') : JoOk j A c w'.heap.size w' :=
  ⟨Nat.le_trans hN.1 (by omega), fun p hp => Nat.le_trans (hN.2 p hp) (by omega), h.len, h.cap, (h.row.below hg (Nat.le_refl _)).more (Below.size hg), Nat.le_refl _⟩
theorem parseT_print {j : Jo} (h : (jointE j).2 = 0) : parseT (strB (printL j)) = (j, (0, 0), 0) := by
  have h1 := printL_len (PrOk.of h)
  unfold parseT
  rw [if_neg (by rw [strB_size]; omega), strB_data]
  exact parse_print h

/-! ### == of marks and of texts -/
theorem run_eq_int_ {d : Nat} (a c : Int) (w : World) : (Op.equalIn (d + 1) 3 (.int .i64 a) (.int .i64 c)).run Tryz.prog w = .ok (decide (a = c)) w := by
  have hu : Tryz.prog.underlying 3 = some (.int .i64) := by kernel_rfl
  simp [Op.equalIn, run_underlying hu]
  rfl
theorem part_int_ (xs : Array Value) (i : Nat) (a : Value) (h : xs[i]? = some a) (w : World) : (part 3 xs i).run Tryz.prog w = .ok a w := run_part_plain w (by kernel_rfl) h
theorem eq_tm (a b : Int) (w : World) : (Op.equalIn 10000 34 (.agg #[.int .i64 a, .int .i64 b]) (.agg #[.int .i64 a, .int .i64 b])).run Tryz.prog w = .ok true w := by
  have hs : (Tryz.prog.stoodInHeld 34) = false := by kernel_rfl
  unfold Op.equalIn
  simp [run_underlying Tryz.underlying34, hs, part_int_, run_eq_int_]
theorem byte_refl_ (a : ByteArray) : (a == a) = true := by
  cases a with
  | mk d => exact beq_self_eq_true d

set_option maxRecDepth 100000 in
set_option maxHeartbeats 16000000 in
theorem coverTexts_a (j : Jo) (A : Option Addr) (c B : Nat) (t : ByteArray) (w : World) (hn : j.fs.length ≤ c) (hc : c ≤ 9223372036854775807) (hR : Row w B 5 A j.fs.length (fcsC j.fs)) (hB : B ≤ w.heap.size) (hA : A = none → c = 0) (hE : Ends w) (hL : LibW w) (hf : fewB j = true) (ht : t.size ≤ 400) :
    Calls Tryz.prog 3 #[.agg (joC j A c), .string t] w fun e w' => e = .returned (.bool true) ∧ Below w.heap.size w w' := by
  obtain ⟨f1, f2, f3⟩ := fewB_ok hf
  have d1 : decide ((400 : Int) < (t.size : Int)) = false := decide_eq_false (by omega)
  have d3 : decide ((60050 : Int) < (t.size : Int)) = false := decide_eq_false (by omega)
  have HT : Hid (t.size ≤ 60050) := Lib.hid (by omega)
  have HJ : Hid (∀ W, Below w.heap.size w W → JoOk j A c B W) := Lib.hid fun W h => ⟨by omega, fun p hp => by have := f3 p hp; omega, hn, hc, hR.below h hB, Nat.le_trans hB (Below.size h)⟩
  have HLW : Hid (∀ W, Below w.heap.size w W → LibW W) := Lib.hid fun W h => hL.below h (Nat.le_refl _)
  have HFW : Hid (∀ W, Below w.heap.size w W → Calls Tryz.prog 6 #[.agg (joC j A c)] W fun e w' => e = .returned (.bool true) ∧ Below W.heap.size W w') := Lib.hid fun W h => by
    have := few_any j A c B W (hR.below h hB) (Nat.le_trans hB (Below.size h))
    rw [hf] at this; exact this
  have HNM : Hid (j.nm.size ≤ 1000000000000 ∧ ∀ p ∈ j.fs, p.1.size ≤ 1000000000000) := Lib.hid ⟨by omega, fun p hp => by have := f3 p hp; omega⟩
  have HA := Lib.hid hA
  have b0 := Blk.new w 24 (joC j A c)
  have hB0 : Below w.heap.size w (w.alloc (.cells (joC j A c) 24)) := ((Below.refl _ _).alloc (Nat.le_refl _) _)
  have HE0 : Hid (Ends (w.alloc (.cells (joC j A c) 24))) := Lib.hid (hE.below hB0)
  have hNT := parseT_N t
  obtain ⟨J, ⟨ml, mc⟩, er, hpt⟩ : ∃ (J : Jo) (q : Int × Int) (er : Int), parseT t = (J, q, er) := ⟨_, _, _, rfl⟩
  rw [hpt] at hNT
  replace hNT : JoN t.size J := hNT
  have HNJ : Hid (JoN 1000000 J) := Lib.hid ⟨by have := hNT.1; have := HT.out; omega, fun p hp => by have := hNT.2 p hp; have := HT.out; omega⟩
  have HPT1 : Hid (∀ W, LibW W → Calls Tryz.prog 10 #[.string t] W fun e w' => ∃ (A' : Option Addr) (c' : Nat), e = .returned (.tuple #[.agg #[.string J.nm, .int .i64 J.thick, .int .i64 J.zone, .slice A' J.fs.length c'], .agg #[.int .i64 ml, .int .i64 mc], .int .i64 er]) ∧ JoR J A' c' w' ∧ Below W.heap.size W w') := Lib.hid fun W h => by
    have h1 := parse_any t W h
    unfold ParseR at h1
    rw [hpt] at h1
    exact h1
  have HPT2 : Hid (∀ W, Calls Tryz.prog 13 #[.string t] W fun e w' => ∃ (A' : Option Addr) (c' : Nat), e = .returned (.tuple #[.agg #[.string J.nm, .int .i64 J.thick, .int .i64 J.zone, .slice A' J.fs.length c'], .agg #[.int .i64 ml, .int .i64 mc], .int .i64 er]) ∧ JoR J A' c' w' ∧ Below W.heap.size W w') := Lib.hid fun W => by
    have h1 := rParse_any t W
    unfold ParseR at h1
    rw [hpt] at h1
    exact h1
  clear hNT hpt hA hR hL hE hf f2 f3 hn hc hB ht
  unfold joC at *
  go_enter Tryz.func3, Tryz.ntmps3
  go_wp2_with fail
  refine (awake_any _ HE0.out).mono ?_
  rintro e w1 ⟨rfl, hB1⟩
  have b1 := b0.below hB1 b0.lt
  have hBB := hB0.trans (hB1.mono (Below.size hB0))
  clear hB1 b0 hB0 HE0
  have lb := b1.lt
  obtain ⟨t0, t1, t2, t3⟩ := jo_cells b1
  go_wp2_with fail
  refine (HFW.out _ hBB).mono ?_
  rintro e w2 ⟨rfl, hB2⟩
  have b2 := b1.below hB2 lb
  replace hBB := hBB.trans (hB2.mono (Below.size hBB))
  clear hB2 b1 t0 t1 t2 t3 lb HFW
  have lb := b2.lt
  obtain ⟨t0, t1, t2, t3⟩ := jo_cells b2
  go_wp2_with fail
  refine (copyJoint_any j A c B _ (HJ.out _ hBB) HA.out (by omega)).mono ?_
  rintro e w3 ⟨v3, rfl, own3, hB3⟩
  obtain ⟨A3, c3, rfl, R3⟩ := Row.own own3
  have hc3 := cap_of own3
  have b3 := b2.below hB3 lb
  replace hBB := hBB.trans (hB3.mono (Below.size hBB))
  clear hB3 b2 t0 t1 t2 t3 lb own3
  have lb := b3.lt
  obtain ⟨t0, t1, t2, t3⟩ := jo_cells b3
  by_cases h0 : (jointE j).2 = 0
  · have HP1 := Lib.hid (parseT_print h0)
    have HPO := Lib.hid (PrOk.of h0)
    have HTX : Hid (∀ W, Below w.heap.size w W → Calls Tryz.prog 11 #[.agg #[.string j.nm, .int .i64 j.thick, .int .i64 j.zone, .slice A j.fs.length c]] W fun e w' => e = .returned (.string (strB (printL j))) ∧ Below W.heap.size W w') := Lib.hid fun W h => rPrint_any j A c B W HPO.out ⟨(HJ.out W h).len, (HJ.out W h).cap⟩ (HJ.out W h).row (HJ.out W h).base
    have hpr := print_any j A3 c3 w3.heap.size w3 (HLW.out _ hBB) HNM.out.1 HNM.out.2 hc3.1 hc3.2 R3 (Nat.le_refl _)
    have hck := fun W h => rCheckJoint_any j A c B W (HJ.out W h)
    rw [if_pos h0, h0] at hpr
    rw [h0] at hck
    have HPR := Lib.hid hpr
    have HCK := Lib.hid hck
    clear hpr hck
    go_wp2_with fail
    refine HPR.out.mono ?_
    rintro e w4 ⟨rfl, hB4⟩
    have b4 := b3.below hB4 lb
    replace hBB := hBB.trans (hB4.mono (Below.size hBB))
    clear hB4 b3 t0 t1 t2 t3 lb R3 hc3
    have lb := b4.lt
    obtain ⟨t0, t1, t2, t3⟩ := jo_cells b4
    go_wp2_with fail
    refine (HCK.out _ hBB).mono ?_
    rintro e w5 ⟨rfl, hB5⟩
    have b5 := b4.below hB5 lb
    replace hBB := hBB.trans (hB5.mono (Below.size hBB))
    clear hB5 b4 t0 t1 t2 t3 lb
    have lb := b5.lt
    obtain ⟨t0, t1, t2, t3⟩ := jo_cells b5
    have hzB := hBB.size
    have HPB : Hid (∀ W, LibW W → Calls Tryz.prog 10 #[.string (strB (printL j))] W fun e w' => ∃ (A' : Option Addr) (c' : Nat), e = .returned (.tuple #[.agg #[.string j.nm, .int .i64 j.thick, .int .i64 j.zone, .slice A' j.fs.length c'], .agg #[.int .i64 0, .int .i64 0], .int .i64 0]) ∧ JoR j A' c' w' ∧ Below W.heap.size W w') := Lib.hid fun W h => by
      have h1 := parse_any (strB (printL j)) W h
      unfold ParseR at h1
      rw [HP1.out] at h1
      exact h1
    go_wp2_with fail
    refine (HPB.out _ (HLW.out _ hBB)).mono ?_
    rintro e w6 ⟨A6, c6, rfl, hJ6, hB6⟩
    have b6 := b5.below hB6 lb
    replace hBB := hBB.trans (hB6.mono (Below.size hBB))
    clear hB6 b5 t0 t1 t2 t3 lb HPB
    have lb := b6.lt
    obtain ⟨t0, t1, t2, t3⟩ := jo_cells b6
    have gB : (strB (printL j) == strB (printL j)) = true := byte_refl_ _
    have gT := eq_tm 0 0
    generalize strB (printL j) = TX at *
    have hal : Gr w6 ((w6.alloc (.cells #[.string j.nm, .int .i64 j.thick, .int .i64 j.zone, .slice A6 j.fs.length c6] 24)).alloc (.cells #[.int .i64 0, .int .i64 0] 34)) := ((Below.refl _ _).alloc (Nat.le_refl _) _).alloc (by simp) _
    have x1 := (Blk.new w6 24 #[.string j.nm, .int .i64 j.thick, .int .i64 j.zone, .slice A6 j.fs.length c6]).alloc (.cells #[.int .i64 0, .int .i64 0] 34)
    have x2 := Blk.new' (w6.alloc (.cells #[.string j.nm, .int .i64 j.thick, .int .i64 j.zone, .slice A6 j.fs.length c6] 24)) 34 #[.int .i64 0, .int .i64 0] (g := w6.heap.size + 1) (by simp)
    have HX := Lib.hid (And.intro hal (And.intro x1 x2))
    clear hal x1 x2
    go_wp2_with fail
    obtain ⟨hal, x1, x2⟩ := HX.out
    have hBX := hBB.trans (hal.mono (Below.size hBB))
    refine (HTX.out _ hBX).mono ?_
    rintro e w7 ⟨rfl, hB7⟩
    replace x1 := x1.gr hB7
    replace x2 := x2.gr hB7
    replace hal : Gr w6 w7 := Gr.trans hal hB7
    have b7 := b6.gr hal
    replace hBB := hBB.trans (hal.mono (Below.size hBB))
    clear hBX hB7 HX b6 t0 t1 t2 t3 lb HTX
    have lb := b7.lt
    obtain ⟨t0, t1, t2, t3⟩ := jo_cells b7
    have lx1 := x1.lt
    have lx2 := x2.lt
    obtain ⟨y0, y1, y2, y3, yf⟩ := blk4 x1
    obtain ⟨z0, z1⟩ := blk2c x2
    have ok1 : JoOk j A6 c6 w7.heap.size w7 := ⟨HNM.out.1, HNM.out.2, hJ6.len, hJ6.cap, (hJ6.row.below hal (Nat.le_refl _)).more (Below.size hal), Nat.le_refl _⟩
    have ok2 : JoOk j A c w7.heap.size w7 := ⟨HNM.out.1, HNM.out.2, (HJ.out _ hBB).len, (HJ.out _ hBB).cap, (HJ.out _ hBB).row.more (HJ.out _ hBB).base, Nat.le_refl _⟩
    have HOK := Lib.hid (And.intro ok1 ok2)
    have HAL := Lib.hid hal
    clear ok1 ok2 hal hJ6 x1 x2
    go_wp2_with fail
    refine (same_any j A6 A c6 c w7.heap.size _ HOK.out.1 HOK.out.2).mono ?_
    rintro e w8 ⟨rfl, hB8⟩
    replace hBB := hBB.trans (hB8.mono (Below.size hBB))
    clear hB8 b7 t0 t1 t2 t3 lb lx1 lx2 y0 y1 y2 y3 yf z0 z1 HAL HOK gB gT
    go_wp2_with fail
    refine (HPT1.out _ (HLW.out _ hBB)).mono ?_
    rintro e w20 ⟨A8, c8, rfl, hJ8, hB20⟩
    replace hBB := hBB.trans (hB20.mono (Below.size hBB))
    clear hB20
    have hal : Gr w20 ((w20.alloc (.cells #[.string J.nm, .int .i64 J.thick, .int .i64 J.zone, .slice A8 J.fs.length c8] 24)).alloc (.cells #[.int .i64 ml, .int .i64 mc] 34)) := ((Below.refl _ _).alloc (Nat.le_refl _) _).alloc (by simp) _
    have x1 := (Blk.new w20 24 #[.string J.nm, .int .i64 J.thick, .int .i64 J.zone, .slice A8 J.fs.length c8]).alloc (.cells #[.int .i64 ml, .int .i64 mc] 34)
    have x2 := Blk.new' (w20.alloc (.cells #[.string J.nm, .int .i64 J.thick, .int .i64 J.zone, .slice A8 J.fs.length c8] 24)) 34 #[.int .i64 ml, .int .i64 mc] (g := w20.heap.size + 1) (by simp)
    have HX := Lib.hid (And.intro hal (And.intro x1 x2))
    clear hal x1 x2
    go_wp2_with fail
    obtain ⟨hal, x1, x2⟩ := HX.out
    refine (HPT2.out _).mono ?_
    rintro e w21 ⟨A9, c9, rfl, hJ9, hB21⟩
    replace x1 := x1.gr hB21
    replace x2 := x2.gr hB21
    replace hal : Gr w20 w21 := Gr.trans hal hB21
    replace hBB := hBB.trans (hal.mono (Below.size hBB))
    have hal2 : Gr w21 ((w21.alloc (.cells #[.string J.nm, .int .i64 J.thick, .int .i64 J.zone, .slice A9 J.fs.length c9] 24)).alloc (.cells #[.int .i64 ml, .int .i64 mc] 34)) := ((Below.refl _ _).alloc (Nat.le_refl _) _).alloc (by simp) _
    have v1 := (Blk.new w21 24 #[.string J.nm, .int .i64 J.thick, .int .i64 J.zone, .slice A9 J.fs.length c9]).alloc (.cells #[.int .i64 ml, .int .i64 mc] 34)
    have v2 := Blk.new' (w21.alloc (.cells #[.string J.nm, .int .i64 J.thick, .int .i64 J.zone, .slice A9 J.fs.length c9] 24)) 34 #[.int .i64 ml, .int .i64 mc] (g := w21.heap.size + 1) (by simp)
    have HB := Lib.hid (hBB.trans (hal2.mono (Below.size hBB)))
    have HOK := Lib.hid (And.intro (hJ8.ok HNJ.out (Gr.trans hal hal2)) (hJ9.ok HNJ.out hal2))
    clear hJ8 hJ9 hB21 HX
    have u0 := (x1.gr hal2).cell 0
    have u1 := (x1.gr hal2).cell 1
    have u2 := (x1.gr hal2).cell 2
    have u3 := (x1.gr hal2).cell 3
    have lx1 := x1.lt
    have lx2 := x2.lt
    obtain ⟨y0, y1, y2, y3, yf⟩ := blk4 x1
    obtain ⟨z0, z1⟩ := blk2c x2
    have gT := eq_tm ml mc
    clear u0 u1 u2 u3 hal hal2 v1 v2 x1 x2
    go_wp2_with fail
    refine (same_any J A8 A9 c8 c9 _ _ HOK.out.1 HOK.out.2).mono ?_
    rintro e w22 ⟨rfl, hB22⟩
    have HBZ := Lib.hid (HB.out.trans (hB22.mono (Below.size HB.out)))
    go_wp2
    go_ret
    exact ⟨rfl, HBZ.out⟩
  · have g1 : ((jointE j).2 != 0) = true := by simpa using h0
    have g2 : ((jointE j).2 != (jointE j).2) = false := by simp
    have hpr := print_any j A3 c3 w3.heap.size w3 (HLW.out _ hBB) HNM.out.1 HNM.out.2 hc3.1 hc3.2 R3 (Nat.le_refl _)
    have hck := fun W h => rCheckJoint_any j A c B W (HJ.out W h)
    rw [if_neg h0] at hpr
    have HPR := Lib.hid hpr
    have HCK := Lib.hid hck
    clear hpr hck
    generalize (jointE j).2 = ev at *
    generalize (jointE j).1 = e1 at *
    clear h0
    go_wp2_with fail
    refine HPR.out.mono ?_
    rintro e w4 ⟨rfl, hB4⟩
    have b4 := b3.below hB4 lb
    replace hBB := hBB.trans (hB4.mono (Below.size hBB))
    clear hB4 b3 t0 t1 t2 t3 lb R3 hc3
    have lb := b4.lt
    obtain ⟨t0, t1, t2, t3⟩ := jo_cells b4
    go_wp2_with fail
    refine (HCK.out _ hBB).mono ?_
    rintro e w5 ⟨rfl, hB5⟩
    have b5 := b4.below hB5 lb
    replace hBB := hBB.trans (hB5.mono (Below.size hBB))
    clear hB5 b4 t0 t1 t2 t3 lb
    have lb := b5.lt
    obtain ⟨t0, t1, t2, t3⟩ := jo_cells b5
    have hzB := hBB.size
    go_wp2_with fail
    refine (HPT1.out _ (HLW.out _ hBB)).mono ?_
    rintro e w20 ⟨A8, c8, rfl, hJ8, hB20⟩
    replace hBB := hBB.trans (hB20.mono (Below.size hBB))
    clear hB20
    have hal : Gr w20 ((w20.alloc (.cells #[.string J.nm, .int .i64 J.thick, .int .i64 J.zone, .slice A8 J.fs.length c8] 24)).alloc (.cells #[.int .i64 ml, .int .i64 mc] 34)) := ((Below.refl _ _).alloc (Nat.le_refl _) _).alloc (by simp) _
    have x1 := (Blk.new w20 24 #[.string J.nm, .int .i64 J.thick, .int .i64 J.zone, .slice A8 J.fs.length c8]).alloc (.cells #[.int .i64 ml, .int .i64 mc] 34)
    have x2 := Blk.new' (w20.alloc (.cells #[.string J.nm, .int .i64 J.thick, .int .i64 J.zone, .slice A8 J.fs.length c8] 24)) 34 #[.int .i64 ml, .int .i64 mc] (g := w20.heap.size + 1) (by simp)
    have HX := Lib.hid (And.intro hal (And.intro x1 x2))
    clear hal x1 x2
    go_wp2_with fail
    obtain ⟨hal, x1, x2⟩ := HX.out
    refine (HPT2.out _).mono ?_
    rintro e w21 ⟨A9, c9, rfl, hJ9, hB21⟩
    replace x1 := x1.gr hB21
    replace x2 := x2.gr hB21
    replace hal : Gr w20 w21 := Gr.trans hal hB21
    replace hBB := hBB.trans (hal.mono (Below.size hBB))
    have hal2 : Gr w21 ((w21.alloc (.cells #[.string J.nm, .int .i64 J.thick, .int .i64 J.zone, .slice A9 J.fs.length c9] 24)).alloc (.cells #[.int .i64 ml, .int .i64 mc] 34)) := ((Below.refl _ _).alloc (Nat.le_refl _) _).alloc (by simp) _
    have v1 := (Blk.new w21 24 #[.string J.nm, .int .i64 J.thick, .int .i64 J.zone, .slice A9 J.fs.length c9]).alloc (.cells #[.int .i64 ml, .int .i64 mc] 34)
    have v2 := Blk.new' (w21.alloc (.cells #[.string J.nm, .int .i64 J.thick, .int .i64 J.zone, .slice A9 J.fs.length c9] 24)) 34 #[.int .i64 ml, .int .i64 mc] (g := w21.heap.size + 1) (by simp)
    have HB := Lib.hid (hBB.trans (hal2.mono (Below.size hBB)))
    have HOK := Lib.hid (And.intro (hJ8.ok HNJ.out (Gr.trans hal hal2)) (hJ9.ok HNJ.out hal2))
    clear hJ8 hJ9 hB21 HX
    have u0 := (x1.gr hal2).cell 0
    have u1 := (x1.gr hal2).cell 1
    have u2 := (x1.gr hal2).cell 2
    have u3 := (x1.gr hal2).cell 3
    have lx1 := x1.lt
    have lx2 := x2.lt
    obtain ⟨y0, y1, y2, y3, yf⟩ := blk4 x1
    obtain ⟨z0, z1⟩ := blk2c x2
    have gT := eq_tm ml mc
    clear u0 u1 u2 u3 hal hal2 v1 v2 x1 x2
    go_wp2_with fail
    refine (same_any J A8 A9 c8 c9 _ _ HOK.out.1 HOK.out.2).mono ?_
    rintro e w22 ⟨rfl, hB22⟩
    have HBZ := Lib.hid (HB.out.trans (hB22.mono (Below.size HB.out)))
    go_wp2
    go_ret
    exact ⟨rfl, HBZ.out⟩
set_option maxRecDepth 100000 in
set_option maxHeartbeats 16000000 in
theorem coverTexts_b (j : Jo) (A : Option Addr) (c B : Nat) (t : ByteArray) (w : World) (hn : j.fs.length ≤ c) (hc : c ≤ 9223372036854775807) (hR : Row w B 5 A j.fs.length (fcsC j.fs)) (hB : B ≤ w.heap.size) (hA : A = none → c = 0) (hE : Ends w) (hL : LibW w) (hf : fewB j = true) (ht : 60000 < t.size ∧ t.size ≤ 60050) :
    Calls Tryz.prog 3 #[.agg (joC j A c), .string t] w fun e w' => e = .returned (.bool true) ∧ Below w.heap.size w w' := by
  obtain ⟨f1, f2, f3⟩ := fewB_ok hf
  have d1 : decide ((400 : Int) < (t.size : Int)) = true := decide_eq_true (by omega)
  have d2 : decide ((t.size : Int) ≤ 60000) = false := decide_eq_false (by omega)
  have d3 : decide ((60050 : Int) < (t.size : Int)) = false := decide_eq_false (by omega)
  have HT : Hid (t.size ≤ 60050) := Lib.hid (by omega)
  have HJ : Hid (∀ W, Below w.heap.size w W → JoOk j A c B W) := Lib.hid fun W h => ⟨by omega, fun p hp => by have := f3 p hp; omega, hn, hc, hR.below h hB, Nat.le_trans hB (Below.size h)⟩
  have HLW : Hid (∀ W, Below w.heap.size w W → LibW W) := Lib.hid fun W h => hL.below h (Nat.le_refl _)
  have HFW : Hid (∀ W, Below w.heap.size w W → Calls Tryz.prog 6 #[.agg (joC j A c)] W fun e w' => e = .returned (.bool true) ∧ Below W.heap.size W w') := Lib.hid fun W h => by
    have := few_any j A c B W (hR.below h hB) (Nat.le_trans hB (Below.size h))
    rw [hf] at this; exact this
  have HNM : Hid (j.nm.size ≤ 1000000000000 ∧ ∀ p ∈ j.fs, p.1.size ≤ 1000000000000) := Lib.hid ⟨by omega, fun p hp => by have := f3 p hp; omega⟩
  have HA := Lib.hid hA
  have b0 := Blk.new w 24 (joC j A c)
  have hB0 : Below w.heap.size w (w.alloc (.cells (joC j A c) 24)) := ((Below.refl _ _).alloc (Nat.le_refl _) _)
  have HE0 : Hid (Ends (w.alloc (.cells (joC j A c) 24))) := Lib.hid (hE.below hB0)
  have hNT := parseT_N t
  obtain ⟨J, ⟨ml, mc⟩, er, hpt⟩ : ∃ (J : Jo) (q : Int × Int) (er : Int), parseT t = (J, q, er) := ⟨_, _, _, rfl⟩
  rw [hpt] at hNT
  replace hNT : JoN t.size J := hNT
  have HNJ : Hid (JoN 1000000 J) := Lib.hid ⟨by have := hNT.1; have := HT.out; omega, fun p hp => by have := hNT.2 p hp; have := HT.out; omega⟩
  have HPT1 : Hid (∀ W, LibW W → Calls Tryz.prog 10 #[.string t] W fun e w' => ∃ (A' : Option Addr) (c' : Nat), e = .returned (.tuple #[.agg #[.string J.nm, .int .i64 J.thick, .int .i64 J.zone, .slice A' J.fs.length c'], .agg #[.int .i64 ml, .int .i64 mc], .int .i64 er]) ∧ JoR J A' c' w' ∧ Below W.heap.size W w') := Lib.hid fun W h => by
    have h1 := parse_any t W h
    unfold ParseR at h1
    rw [hpt] at h1
    exact h1
  have HPT2 : Hid (∀ W, Calls Tryz.prog 13 #[.string t] W fun e w' => ∃ (A' : Option Addr) (c' : Nat), e = .returned (.tuple #[.agg #[.string J.nm, .int .i64 J.thick, .int .i64 J.zone, .slice A' J.fs.length c'], .agg #[.int .i64 ml, .int .i64 mc], .int .i64 er]) ∧ JoR J A' c' w' ∧ Below W.heap.size W w') := Lib.hid fun W => by
    have h1 := rParse_any t W
    unfold ParseR at h1
    rw [hpt] at h1
    exact h1
  clear hNT hpt hA hR hL hE hf f2 f3 hn hc hB ht
  unfold joC at *
  go_enter Tryz.func3, Tryz.ntmps3
  go_wp2_with fail
  refine (awake_any _ HE0.out).mono ?_
  rintro e w1 ⟨rfl, hB1⟩
  have b1 := b0.below hB1 b0.lt
  have hBB := hB0.trans (hB1.mono (Below.size hB0))
  clear hB1 b0 hB0 HE0
  have lb := b1.lt
  obtain ⟨t0, t1, t2, t3⟩ := jo_cells b1
  go_wp2_with fail
  refine (HFW.out _ hBB).mono ?_
  rintro e w2 ⟨rfl, hB2⟩
  have b2 := b1.below hB2 lb
  replace hBB := hBB.trans (hB2.mono (Below.size hBB))
  clear hB2 b1 t0 t1 t2 t3 lb HFW
  have lb := b2.lt
  obtain ⟨t0, t1, t2, t3⟩ := jo_cells b2
  go_wp2_with fail
  refine (copyJoint_any j A c B _ (HJ.out _ hBB) HA.out (by omega)).mono ?_
  rintro e w3 ⟨v3, rfl, own3, hB3⟩
  obtain ⟨A3, c3, rfl, R3⟩ := Row.own own3
  have hc3 := cap_of own3
  have b3 := b2.below hB3 lb
  replace hBB := hBB.trans (hB3.mono (Below.size hBB))
  clear hB3 b2 t0 t1 t2 t3 lb own3
  have lb := b3.lt
  obtain ⟨t0, t1, t2, t3⟩ := jo_cells b3
  by_cases h0 : (jointE j).2 = 0
  · have HP1 := Lib.hid (parseT_print h0)
    have HPO := Lib.hid (PrOk.of h0)
    have HTX : Hid (∀ W, Below w.heap.size w W → Calls Tryz.prog 11 #[.agg #[.string j.nm, .int .i64 j.thick, .int .i64 j.zone, .slice A j.fs.length c]] W fun e w' => e = .returned (.string (strB (printL j))) ∧ Below W.heap.size W w') := Lib.hid fun W h => rPrint_any j A c B W HPO.out ⟨(HJ.out W h).len, (HJ.out W h).cap⟩ (HJ.out W h).row (HJ.out W h).base
    have hpr := print_any j A3 c3 w3.heap.size w3 (HLW.out _ hBB) HNM.out.1 HNM.out.2 hc3.1 hc3.2 R3 (Nat.le_refl _)
    have hck := fun W h => rCheckJoint_any j A c B W (HJ.out W h)
    rw [if_pos h0, h0] at hpr
    rw [h0] at hck
    have HPR := Lib.hid hpr
    have HCK := Lib.hid hck
    clear hpr hck
    go_wp2_with fail
    refine HPR.out.mono ?_
    rintro e w4 ⟨rfl, hB4⟩
    have b4 := b3.below hB4 lb
    replace hBB := hBB.trans (hB4.mono (Below.size hBB))
    clear hB4 b3 t0 t1 t2 t3 lb R3 hc3
    have lb := b4.lt
    obtain ⟨t0, t1, t2, t3⟩ := jo_cells b4
    go_wp2_with fail
    refine (HCK.out _ hBB).mono ?_
    rintro e w5 ⟨rfl, hB5⟩
    have b5 := b4.below hB5 lb
    replace hBB := hBB.trans (hB5.mono (Below.size hBB))
    clear hB5 b4 t0 t1 t2 t3 lb
    have lb := b5.lt
    obtain ⟨t0, t1, t2, t3⟩ := jo_cells b5
    have hzB := hBB.size
    have HPB : Hid (∀ W, LibW W → Calls Tryz.prog 10 #[.string (strB (printL j))] W fun e w' => ∃ (A' : Option Addr) (c' : Nat), e = .returned (.tuple #[.agg #[.string j.nm, .int .i64 j.thick, .int .i64 j.zone, .slice A' j.fs.length c'], .agg #[.int .i64 0, .int .i64 0], .int .i64 0]) ∧ JoR j A' c' w' ∧ Below W.heap.size W w') := Lib.hid fun W h => by
      have h1 := parse_any (strB (printL j)) W h
      unfold ParseR at h1
      rw [HP1.out] at h1
      exact h1
    go_wp2_with fail
    refine (HPB.out _ (HLW.out _ hBB)).mono ?_
    rintro e w6 ⟨A6, c6, rfl, hJ6, hB6⟩
    have b6 := b5.below hB6 lb
    replace hBB := hBB.trans (hB6.mono (Below.size hBB))
    clear hB6 b5 t0 t1 t2 t3 lb HPB
    have lb := b6.lt
    obtain ⟨t0, t1, t2, t3⟩ := jo_cells b6
    have gB : (strB (printL j) == strB (printL j)) = true := byte_refl_ _
    have gT := eq_tm 0 0
    generalize strB (printL j) = TX at *
    have hal : Gr w6 ((w6.alloc (.cells #[.string j.nm, .int .i64 j.thick, .int .i64 j.zone, .slice A6 j.fs.length c6] 24)).alloc (.cells #[.int .i64 0, .int .i64 0] 34)) := ((Below.refl _ _).alloc (Nat.le_refl _) _).alloc (by simp) _
    have x1 := (Blk.new w6 24 #[.string j.nm, .int .i64 j.thick, .int .i64 j.zone, .slice A6 j.fs.length c6]).alloc (.cells #[.int .i64 0, .int .i64 0] 34)
    have x2 := Blk.new' (w6.alloc (.cells #[.string j.nm, .int .i64 j.thick, .int .i64 j.zone, .slice A6 j.fs.length c6] 24)) 34 #[.int .i64 0, .int .i64 0] (g := w6.heap.size + 1) (by simp)
    have HX := Lib.hid (And.intro hal (And.intro x1 x2))
    clear hal x1 x2
    go_wp2_with fail
    obtain ⟨hal, x1, x2⟩ := HX.out
    have hBX := hBB.trans (hal.mono (Below.size hBB))
    refine (HTX.out _ hBX).mono ?_
    rintro e w7 ⟨rfl, hB7⟩
    replace x1 := x1.gr hB7
    replace x2 := x2.gr hB7
    replace hal : Gr w6 w7 := Gr.trans hal hB7
    have b7 := b6.gr hal
    replace hBB := hBB.trans (hal.mono (Below.size hBB))
    clear hBX hB7 HX b6 t0 t1 t2 t3 lb HTX
    have lb := b7.lt
    obtain ⟨t0, t1, t2, t3⟩ := jo_cells b7
    have lx1 := x1.lt
    have lx2 := x2.lt
    obtain ⟨y0, y1, y2, y3, yf⟩ := blk4 x1
    obtain ⟨z0, z1⟩ := blk2c x2
    have ok1 : JoOk j A6 c6 w7.heap.size w7 := ⟨HNM.out.1, HNM.out.2, hJ6.len, hJ6.cap, (hJ6.row.below hal (Nat.le_refl _)).more (Below.size hal), Nat.le_refl _⟩
    have ok2 : JoOk j A c w7.heap.size w7 := ⟨HNM.out.1, HNM.out.2, (HJ.out _ hBB).len, (HJ.out _ hBB).cap, (HJ.out _ hBB).row.more (HJ.out _ hBB).base, Nat.le_refl _⟩
    have HOK := Lib.hid (And.intro ok1 ok2)
    have HAL := Lib.hid hal
    clear ok1 ok2 hal hJ6 x1 x2
    go_wp2_with fail
    refine (same_any j A6 A c6 c w7.heap.size _ HOK.out.1 HOK.out.2).mono ?_
    rintro e w8 ⟨rfl, hB8⟩
    replace hBB := hBB.trans (hB8.mono (Below.size hBB))
    clear hB8 b7 t0 t1 t2 t3 lb lx1 lx2 y0 y1 y2 y3 yf z0 z1 HAL HOK gB gT
    go_wp2_with fail
    refine (HPT1.out _ (HLW.out _ hBB)).mono ?_
    rintro e w20 ⟨A8, c8, rfl, hJ8, hB20⟩
    replace hBB := hBB.trans (hB20.mono (Below.size hBB))
    clear hB20
    have hal : Gr w20 ((w20.alloc (.cells #[.string J.nm, .int .i64 J.thick, .int .i64 J.zone, .slice A8 J.fs.length c8] 24)).alloc (.cells #[.int .i64 ml, .int .i64 mc] 34)) := ((Below.refl _ _).alloc (Nat.le_refl _) _).alloc (by simp) _
    have x1 := (Blk.new w20 24 #[.string J.nm, .int .i64 J.thick, .int .i64 J.zone, .slice A8 J.fs.length c8]).alloc (.cells #[.int .i64 ml, .int .i64 mc] 34)
    have x2 := Blk.new' (w20.alloc (.cells #[.string J.nm, .int .i64 J.thick, .int .i64 J.zone, .slice A8 J.fs.length c8] 24)) 34 #[.int .i64 ml, .int .i64 mc] (g := w20.heap.size + 1) (by simp)
    have HX := Lib.hid (And.intro hal (And.intro x1 x2))
    clear hal x1 x2
    go_wp2_with fail
    obtain ⟨hal, x1, x2⟩ := HX.out
    refine (HPT2.out _).mono ?_
    rintro e w21 ⟨A9, c9, rfl, hJ9, hB21⟩
    replace x1 := x1.gr hB21
    replace x2 := x2.gr hB21
    replace hal : Gr w20 w21 := Gr.trans hal hB21
    replace hBB := hBB.trans (hal.mono (Below.size hBB))
    have hal2 : Gr w21 ((w21.alloc (.cells #[.string J.nm, .int .i64 J.thick, .int .i64 J.zone, .slice A9 J.fs.length c9] 24)).alloc (.cells #[.int .i64 ml, .int .i64 mc] 34)) := ((Below.refl _ _).alloc (Nat.le_refl _) _).alloc (by simp) _
    have v1 := (Blk.new w21 24 #[.string J.nm, .int .i64 J.thick, .int .i64 J.zone, .slice A9 J.fs.length c9]).alloc (.cells #[.int .i64 ml, .int .i64 mc] 34)
    have v2 := Blk.new' (w21.alloc (.cells #[.string J.nm, .int .i64 J.thick, .int .i64 J.zone, .slice A9 J.fs.length c9] 24)) 34 #[.int .i64 ml, .int .i64 mc] (g := w21.heap.size + 1) (by simp)
    have HB := Lib.hid (hBB.trans (hal2.mono (Below.size hBB)))
    have HOK := Lib.hid (And.intro (hJ8.ok HNJ.out (Gr.trans hal hal2)) (hJ9.ok HNJ.out hal2))
    clear hJ8 hJ9 hB21 HX
    have u0 := (x1.gr hal2).cell 0
    have u1 := (x1.gr hal2).cell 1
    have u2 := (x1.gr hal2).cell 2
    have u3 := (x1.gr hal2).cell 3
    have lx1 := x1.lt
    have lx2 := x2.lt
    obtain ⟨y0, y1, y2, y3, yf⟩ := blk4 x1
    obtain ⟨z0, z1⟩ := blk2c x2
    have gT := eq_tm ml mc
    clear u0 u1 u2 u3 hal hal2 v1 v2 x1 x2
    go_wp2_with fail
    refine (same_any J A8 A9 c8 c9 _ _ HOK.out.1 HOK.out.2).mono ?_
    rintro e w22 ⟨rfl, hB22⟩
    have HBZ := Lib.hid (HB.out.trans (hB22.mono (Below.size HB.out)))
    go_wp2
    go_ret
    exact ⟨rfl, HBZ.out⟩
  · have g1 : ((jointE j).2 != 0) = true := by simpa using h0
    have g2 : ((jointE j).2 != (jointE j).2) = false := by simp
    have hpr := print_any j A3 c3 w3.heap.size w3 (HLW.out _ hBB) HNM.out.1 HNM.out.2 hc3.1 hc3.2 R3 (Nat.le_refl _)
    have hck := fun W h => rCheckJoint_any j A c B W (HJ.out W h)
    rw [if_neg h0] at hpr
    have HPR := Lib.hid hpr
    have HCK := Lib.hid hck
    clear hpr hck
    generalize (jointE j).2 = ev at *
    generalize (jointE j).1 = e1 at *
    clear h0
    go_wp2_with fail
    refine HPR.out.mono ?_
    rintro e w4 ⟨rfl, hB4⟩
    have b4 := b3.below hB4 lb
    replace hBB := hBB.trans (hB4.mono (Below.size hBB))
    clear hB4 b3 t0 t1 t2 t3 lb R3 hc3
    have lb := b4.lt
    obtain ⟨t0, t1, t2, t3⟩ := jo_cells b4
    go_wp2_with fail
    refine (HCK.out _ hBB).mono ?_
    rintro e w5 ⟨rfl, hB5⟩
    have b5 := b4.below hB5 lb
    replace hBB := hBB.trans (hB5.mono (Below.size hBB))
    clear hB5 b4 t0 t1 t2 t3 lb
    have lb := b5.lt
    obtain ⟨t0, t1, t2, t3⟩ := jo_cells b5
    have hzB := hBB.size
    go_wp2_with fail
    refine (HPT1.out _ (HLW.out _ hBB)).mono ?_
    rintro e w20 ⟨A8, c8, rfl, hJ8, hB20⟩
    replace hBB := hBB.trans (hB20.mono (Below.size hBB))
    clear hB20
    have hal : Gr w20 ((w20.alloc (.cells #[.string J.nm, .int .i64 J.thick, .int .i64 J.zone, .slice A8 J.fs.length c8] 24)).alloc (.cells #[.int .i64 ml, .int .i64 mc] 34)) := ((Below.refl _ _).alloc (Nat.le_refl _) _).alloc (by simp) _
    have x1 := (Blk.new w20 24 #[.string J.nm, .int .i64 J.thick, .int .i64 J.zone, .slice A8 J.fs.length c8]).alloc (.cells #[.int .i64 ml, .int .i64 mc] 34)
    have x2 := Blk.new' (w20.alloc (.cells #[.string J.nm, .int .i64 J.thick, .int .i64 J.zone, .slice A8 J.fs.length c8] 24)) 34 #[.int .i64 ml, .int .i64 mc] (g := w20.heap.size + 1) (by simp)
    have HX := Lib.hid (And.intro hal (And.intro x1 x2))
    clear hal x1 x2
    go_wp2_with fail
    obtain ⟨hal, x1, x2⟩ := HX.out
    refine (HPT2.out _).mono ?_
    rintro e w21 ⟨A9, c9, rfl, hJ9, hB21⟩
    replace x1 := x1.gr hB21
    replace x2 := x2.gr hB21
    replace hal : Gr w20 w21 := Gr.trans hal hB21
    replace hBB := hBB.trans (hal.mono (Below.size hBB))
    have hal2 : Gr w21 ((w21.alloc (.cells #[.string J.nm, .int .i64 J.thick, .int .i64 J.zone, .slice A9 J.fs.length c9] 24)).alloc (.cells #[.int .i64 ml, .int .i64 mc] 34)) := ((Below.refl _ _).alloc (Nat.le_refl _) _).alloc (by simp) _
    have v1 := (Blk.new w21 24 #[.string J.nm, .int .i64 J.thick, .int .i64 J.zone, .slice A9 J.fs.length c9]).alloc (.cells #[.int .i64 ml, .int .i64 mc] 34)
    have v2 := Blk.new' (w21.alloc (.cells #[.string J.nm, .int .i64 J.thick, .int .i64 J.zone, .slice A9 J.fs.length c9] 24)) 34 #[.int .i64 ml, .int .i64 mc] (g := w21.heap.size + 1) (by simp)
    have HB := Lib.hid (hBB.trans (hal2.mono (Below.size hBB)))
    have HOK := Lib.hid (And.intro (hJ8.ok HNJ.out (Gr.trans hal hal2)) (hJ9.ok HNJ.out hal2))
    clear hJ8 hJ9 hB21 HX
    have u0 := (x1.gr hal2).cell 0
    have u1 := (x1.gr hal2).cell 1
    have u2 := (x1.gr hal2).cell 2
    have u3 := (x1.gr hal2).cell 3
    have lx1 := x1.lt
    have lx2 := x2.lt
    obtain ⟨y0, y1, y2, y3, yf⟩ := blk4 x1
    obtain ⟨z0, z1⟩ := blk2c x2
    have gT := eq_tm ml mc
    clear u0 u1 u2 u3 hal hal2 v1 v2 x1 x2
    go_wp2_with fail
    refine (same_any J A8 A9 c8 c9 _ _ HOK.out.1 HOK.out.2).mono ?_
    rintro e w22 ⟨rfl, hB22⟩
    have HBZ := Lib.hid (HB.out.trans (hB22.mono (Below.size HB.out)))
    go_wp2
    go_ret
    exact ⟨rfl, HBZ.out⟩
set_option maxRecDepth 100000 in
set_option maxHeartbeats 8000000 in
theorem coverTexts_few (j : Jo) (A : Option Addr) (c B : Nat) (t : ByteArray) (w : World) (hR : Row w B 5 A j.fs.length (fcsC j.fs)) (hB : B ≤ w.heap.size) (hE : Ends w) (hf : fewB j = false)  :
    Calls Tryz.prog 3 #[.agg (joC j A c), .string t] w fun e w' => e = .returned (.bool true) ∧ Below w.heap.size w w' := by
  skip
  have HFW : Hid (∀ W, Below w.heap.size w W → Calls Tryz.prog 6 #[.agg (joC j A c)] W fun e w' => e = .returned (.bool false) ∧ Below W.heap.size W w') := Lib.hid fun W h => by
    have := few_any j A c B W (hR.below h hB) (Nat.le_trans hB (Below.size h))
    rw [hf] at this; exact this
  have b0 := Blk.new w 24 (joC j A c)
  have hB0 : Below w.heap.size w (w.alloc (.cells (joC j A c) 24)) := ((Below.refl _ _).alloc (Nat.le_refl _) _)
  have HE0 : Hid (Ends (w.alloc (.cells (joC j A c) 24))) := Lib.hid (hE.below hB0)
  clear hR hE hf hB
  unfold joC at *
  go_enter Tryz.func3, Tryz.ntmps3
  go_wp2_with fail
  refine (awake_any _ HE0.out).mono ?_
  rintro e w1 ⟨rfl, hB1⟩
  have b1 := b0.below hB1 b0.lt
  have hBB := hB0.trans (hB1.mono (Below.size hB0))
  clear hB1 b0 hB0 HE0
  have lb := b1.lt
  obtain ⟨t0, t1, t2, t3⟩ := jo_cells b1
  go_wp2_with fail
  refine (HFW.out _ hBB).mono ?_
  rintro e w2 ⟨rfl, hB2⟩
  replace hBB := hBB.trans (hB2.mono (Below.size hBB))
  go_wp2
  go_ret
  exact ⟨rfl, hBB⟩
set_option maxRecDepth 100000 in
set_option maxHeartbeats 8000000 in
theorem coverTexts_mid (j : Jo) (A : Option Addr) (c B : Nat) (t : ByteArray) (w : World) (hR : Row w B 5 A j.fs.length (fcsC j.fs)) (hB : B ≤ w.heap.size) (hE : Ends w) (hf : fewB j = true) (ht : 400 < t.size ∧ t.size ≤ 60000) :
    Calls Tryz.prog 3 #[.agg (joC j A c), .string t] w fun e w' => e = .returned (.bool true) ∧ Below w.heap.size w w' := by
  have d1 : decide ((400 : Int) < (t.size : Int)) = true := decide_eq_true (by omega)
  have d2 : decide ((t.size : Int) ≤ 60000) = true := decide_eq_true (by omega)
  have HFW : Hid (∀ W, Below w.heap.size w W → Calls Tryz.prog 6 #[.agg (joC j A c)] W fun e w' => e = .returned (.bool true) ∧ Below W.heap.size W w') := Lib.hid fun W h => by
    have := few_any j A c B W (hR.below h hB) (Nat.le_trans hB (Below.size h))
    rw [hf] at this; exact this
  have b0 := Blk.new w 24 (joC j A c)
  have hB0 : Below w.heap.size w (w.alloc (.cells (joC j A c) 24)) := ((Below.refl _ _).alloc (Nat.le_refl _) _)
  have HE0 : Hid (Ends (w.alloc (.cells (joC j A c) 24))) := Lib.hid (hE.below hB0)
  clear hR hE hf hB
  unfold joC at *
  go_enter Tryz.func3, Tryz.ntmps3
  go_wp2_with fail
  refine (awake_any _ HE0.out).mono ?_
  rintro e w1 ⟨rfl, hB1⟩
  have b1 := b0.below hB1 b0.lt
  have hBB := hB0.trans (hB1.mono (Below.size hB0))
  clear hB1 b0 hB0 HE0
  have lb := b1.lt
  obtain ⟨t0, t1, t2, t3⟩ := jo_cells b1
  go_wp2_with fail
  refine (HFW.out _ hBB).mono ?_
  rintro e w2 ⟨rfl, hB2⟩
  replace hBB := hBB.trans (hB2.mono (Below.size hBB))
  go_wp2
  go_ret
  exact ⟨rfl, hBB⟩
set_option maxRecDepth 100000 in
set_option maxHeartbeats 8000000 in
theorem coverTexts_big (j : Jo) (A : Option Addr) (c B : Nat) (t : ByteArray) (w : World) (hR : Row w B 5 A j.fs.length (fcsC j.fs)) (hB : B ≤ w.heap.size) (hE : Ends w) (hf : fewB j = true) (ht : 60050 < t.size) :
    Calls Tryz.prog 3 #[.agg (joC j A c), .string t] w fun e w' => e = .returned (.bool true) ∧ Below w.heap.size w w' := by
  have d1 : decide ((400 : Int) < (t.size : Int)) = true := decide_eq_true (by omega)
  have d2 : decide ((t.size : Int) ≤ 60000) = false := decide_eq_false (by omega)
  have d3 : decide ((60050 : Int) < (t.size : Int)) = true := decide_eq_true (by omega)
  have HFW : Hid (∀ W, Below w.heap.size w W → Calls Tryz.prog 6 #[.agg (joC j A c)] W fun e w' => e = .returned (.bool true) ∧ Below W.heap.size W w') := Lib.hid fun W h => by
    have := few_any j A c B W (hR.below h hB) (Nat.le_trans hB (Below.size h))
    rw [hf] at this; exact this
  have b0 := Blk.new w 24 (joC j A c)
  have hB0 : Below w.heap.size w (w.alloc (.cells (joC j A c) 24)) := ((Below.refl _ _).alloc (Nat.le_refl _) _)
  have HE0 : Hid (Ends (w.alloc (.cells (joC j A c) 24))) := Lib.hid (hE.below hB0)
  clear hR hE hf hB
  unfold joC at *
  go_enter Tryz.func3, Tryz.ntmps3
  go_wp2_with fail
  refine (awake_any _ HE0.out).mono ?_
  rintro e w1 ⟨rfl, hB1⟩
  have b1 := b0.below hB1 b0.lt
  have hBB := hB0.trans (hB1.mono (Below.size hB0))
  clear hB1 b0 hB0 HE0
  have lb := b1.lt
  obtain ⟨t0, t1, t2, t3⟩ := jo_cells b1
  go_wp2_with fail
  refine (HFW.out _ hBB).mono ?_
  rintro e w2 ⟨rfl, hB2⟩
  replace hBB := hBB.trans (hB2.mono (Below.size hBB))
  go_wp2
  go_ret
  exact ⟨rfl, hBB⟩
theorem coverTexts_any (j : Jo) (A : Option Addr) (c B : Nat) (t : ByteArray) (w : World) (hn : j.fs.length ≤ c) (hc : c ≤ 9223372036854775807) (hR : Row w B 5 A j.fs.length (fcsC j.fs)) (hB : B ≤ w.heap.size) (hA : A = none → c = 0) (hE : Ends w) (hL : LibW w) :
    Calls Tryz.prog 3 #[.agg (joC j A c), .string t] w fun e w' => e = .returned (.bool true) ∧ Below w.heap.size w w' := by
  cases hf : fewB j with
  | false => exact coverTexts_few j A c B t w hR hB hE hf
  | true =>
    by_cases h1 : t.size ≤ 400
    · exact coverTexts_a j A c B t w hn hc hR hB hA hE hL hf h1
    · by_cases h2 : t.size ≤ 60000
      · exact coverTexts_mid j A c B t w hR hB hE hf ⟨by omega, h2⟩
      · by_cases h3 : t.size ≤ 60050
        · exact coverTexts_b j A c B t w hn hc hR hB hA hE hL hf ⟨by omega, h3⟩
        · exact coverTexts_big j A c B t w hR hB hE hf (by omega)
end Go.Proofs.YtaekcfancfoccaaGreatDoor
