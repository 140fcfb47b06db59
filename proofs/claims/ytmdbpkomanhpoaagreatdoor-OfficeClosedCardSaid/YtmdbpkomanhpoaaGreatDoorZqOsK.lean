/- Contracts of the boxes of codes: the greatest numbers of quantities. Contracts: which boxes of codes are right, by the program and by the reference. Contracts: the rows of codes: which rows are right; the rows of a code in one slice; which codes are right. -/
import Derived.Lib.AppendZerosOnto
import Derived.Lib.Walk
import Derived.Test.YtmdbpkomanhpoaaGreatDoorZqOsB
import Derived.Test.YtmdbpkomanhpoaaGreatDoorZqOsG
import Derived.Test.YtmdbpkomanhpoaaGreatDoorZqCvM
import Derived.Test.YtmdbpkomanhpoaaGreatDoorZqCvU
namespace Go.Proofs.YtmdbpkomanhpoaaGreatDoor
open Go.RowKit

/-- The greatest number of a quantity. -/
def grt (q : Nat) : Int := [9, 20000, 20000, 20000, 100000, 200].getD q 0

theorem grt_at (q : Nat) (hq : q < 6) : ∀ w : World, (Instr.index 92 (.agg #[.int .i64 9, .int .i64 20000, .int .i64 20000, .int .i64 20000, .int .i64 100000, .int .i64 200]) (.int .i64 q)).run Tryz.prog w = .ok (.int .i64 (grt q)) w := by
  obtain rfl | rfl | rfl | rfl | rfl | rfl : q = 0 ∨ q = 1 ∨ q = 2 ∨ q = 3 ∨ q = 4 ∨ q = 5 := by omega
  all_goals
    intro w
    kernel_rfl

set_option maxHeartbeats 400000 in
set_option maxRecDepth 8000 in
theorem greatest_any (q : Nat) (hq : q < 6) (w : World) :
    Calls Tryz.prog 53 #[.int .i64 q] w fun e w' => e = .returned (.int .i64 (grt q)) ∧ w = w' := by
  have hi := grt_at q hq
  clear hq
  go_enter Tryz.func53, Tryz.ntmps53
  go_wp2
  go_ret
  exact ⟨rfl, rfl⟩
end Go.Proofs.YtmdbpkomanhpoaaGreatDoor

namespace Go.Proofs.YtmdbpkomanhpoaaGreatDoor
open Go.RowKit

/-- The cells of a box: the ends of its ranges. -/
abbrev bxC (b : Nat → Int) : Array Value := #[.int .i64 (b 0), .int .i64 (b 1), .int .i64 (b 2), .int .i64 (b 3), .int .i64 (b 4), .int .i64 (b 5), .int .i64 (b 6), .int .i64 (b 7), .int .i64 (b 8), .int .i64 (b 9), .int .i64 (b 10), .int .i64 (b 11)]
theorem bxC_at (b : Nat → Int) {j : Nat} (hj : j < 12) : (bxC b)[j]? = some (.int .i64 (b j)) := by
  obtain rfl | rfl | rfl | rfl | rfl | rfl | rfl | rfl | rfl | rfl | rfl | rfl : j = 0 ∨ j = 1 ∨ j = 2 ∨ j = 3 ∨ j = 4 ∨ j = 5 ∨ j = 6 ∨ j = 7 ∨ j = 8 ∨ j = 9 ∨ j = 10 ∨ j = 11 := by omega
  all_goals rfl
/-- The error of a range of a box. -/
def boxQ (b : Nat → Int) (q : Nat) : Int := if wi (b (q * 2)) 0 (grt q) = false then 2 else if wi (b (q * 2 + 1)) 0 (grt q) = false then 2 else if b (q * 2 + 1) < b (q * 2) then 9 else 0
/-- The error of a box. -/
def boxE (b : Nat → Int) : Int := (firstE (boxQ b) 6).2
theorem boxE_bad {b : Nat → Int} {q : Nat} (hq : q < 6) (h : FineTo (boxQ b) q) (he : boxQ b q ≠ 0) : boxE b = boxQ b q := by unfold boxE; rw [firstE_bad h hq he]
theorem boxE_end {b : Nat → Int} (h : FineTo (boxQ b) 6) : boxE b = 0 := by unfold boxE; rw [firstE_end h]
/-- What can be so of a range of a box. -/
theorem boxQ_cases (b : Nat → Int) (q : Nat) : (wi (b (q * 2)) 0 (grt q) = false ∧ boxQ b q = 2) ∨ (wi (b (q * 2)) 0 (grt q) = true ∧ wi (b (q * 2 + 1)) 0 (grt q) = false ∧ boxQ b q = 2) ∨
    (wi (b (q * 2)) 0 (grt q) = true ∧ wi (b (q * 2 + 1)) 0 (grt q) = true ∧ b (q * 2 + 1) < b (q * 2) ∧ boxQ b q = 9) ∨ (wi (b (q * 2)) 0 (grt q) = true ∧ wi (b (q * 2 + 1)) 0 (grt q) = true ∧ ¬ b (q * 2 + 1) < b (q * 2) ∧ boxQ b q = 0) := by
  unfold boxQ
  cases wi (b (q * 2)) 0 (grt q)
  · exact .inl ⟨rfl, rfl⟩
  · cases wi (b (q * 2 + 1)) 0 (grt q)
    · exact .inr (.inl ⟨rfl, rfl, rfl⟩)
    · by_cases h : b (q * 2 + 1) < b (q * 2)
      · exact .inr (.inr (.inl ⟨rfl, rfl, h, by rw [if_neg (by simp), if_neg (by simp), if_pos h]⟩))
      · exact .inr (.inr (.inr ⟨rfl, rfl, h, by rw [if_neg (by simp), if_neg (by simp), if_neg h]⟩))

/-- What the quantities' variable holds. -/
structure Quant (w : World) : Prop where
  lt : 3 < w.heap.size
  c0 : w.cell? ⟨3, 0, none⟩ = some (.int .i64 9)
  c1 : w.cell? ⟨3, 1, none⟩ = some (.int .i64 20000)
  c2 : w.cell? ⟨3, 2, none⟩ = some (.int .i64 20000)
  c3 : w.cell? ⟨3, 3, none⟩ = some (.int .i64 20000)
  c4 : w.cell? ⟨3, 4, none⟩ = some (.int .i64 100000)
  c5 : w.cell? ⟨3, 5, none⟩ = some (.int .i64 200)
theorem Quant.below {w w' : World} {B : Nat} (h : Quant w) (hb : Below B w w') (hB : w.heap.size ≤ B) : Quant w' := by
  obtain ⟨l, h0, h1, h2, h3, h4, h5⟩ := h
  have k : ∀ j, w'.cell? ⟨3, j, none⟩ = w.cell? ⟨3, j, none⟩ := fun j => hb.cell (p := ⟨3, j, none⟩) (by simp only; omega)
  exact ⟨Nat.lt_of_lt_of_le l hb.size, (k _).trans h0, (k _).trans h1, (k _).trans h2, (k _).trans h3, (k _).trans h4, (k _).trans h5⟩

set_option maxRecDepth 100000 in
set_option maxHeartbeats 1000000 in
theorem cdCheckBox_any (b : Nat → Int) (w : World) (hQ : Quant w) :
    Calls Tryz.prog 155 #[.agg (bxC b)] w fun e w' => e = .returned (.int .i64 (boxE b)) ∧ Below w.heap.size w w' := by
  have hl := hQ.lt
  obtain ⟨_, q0, q1, q2, q3, q4, q5⟩ := hQ
  have b0 := Blk.new w 101 (bxC b)
  have hB0 : Below w.heap.size w (w.alloc (.cells (bxC b) 101)) := (by repeat (first | (with_reducible exact Below.refl _ _) | (with_reducible assumption) | ((with_reducible refine Below.setCell ?_ ?_ _); rotate_left; · (first | exact Nat.le_refl _ | (simp; done) | (simp; omega) | omega)) | ((with_reducible refine Below.alloc ?_ ?_ _); rotate_left; · (first | exact Nat.le_refl _ | (simp; done) | (simp; omega) | omega)) | (with_reducible apply Below.drew) | (with_reducible apply below_drewN') | (refine Below.trans ?_ (Below.mono (by assumption) (by first | exact Nat.le_refl _ | (simp; done) | (simp; omega) | omega))) | exact Below.refl _ _ | assumption))
  have hAT : Hid (∀ j, j < 12 → (bxC b)[j]? = some (.int .i64 (b j))) := Lib.hid fun j hj => bxC_at b hj
  have hGA := Lib.hid grt_at
  have hBC := Lib.hid (boxQ_cases b)
  go_enter Tryz.func155, Tryz.ntmps155
  go_wp2
  go_loopw [7] (fun i wr => ∃ q : Nat, q ≤ 6 ∧ i = .int .i64 q ∧ Hid (FineTo (boxQ b) q) ∧ Below (w.heap.size + 1) (w.alloc (.cells (bxC b) 101)) wr) (fun i _ => 6 - (intOf i).toNat)
  case atStart => exact ⟨0, Nat.zero_le _, rfl, Lib.hid (FineTo.zero _), (by repeat (first | (with_reducible exact Below.refl _ _) | (with_reducible assumption) | ((with_reducible refine Below.setCell ?_ ?_ _); rotate_left; · (first | exact Nat.le_refl _ | (simp; done) | (simp; omega) | omega)) | ((with_reducible refine Below.alloc ?_ ?_ _); rotate_left; · (first | exact Nat.le_refl _ | (simp; done) | (simp; omega) | omega)) | (with_reducible apply Below.drew) | (with_reducible apply below_drewN') | (refine Below.trans ?_ (Below.mono (by assumption) (by first | exact Nat.le_refl _ | (simp; done) | (simp; omega) | omega))) | exact Below.refl _ _ | assumption))⟩
  case round =>
    obtain ⟨q, hq, rfl, HI, hBB⟩ := hrel
    by_cases hlt : q < 6
    · have hgr := hGA.out q hlt
      have b1 := b0.below hBB (by omega)
      have c0 := (b1.cell (q * 2)).trans (hAT.out _ (by omega))
      have c1 := (b1.cell (q * 2 + 1)).trans (hAT.out _ (by omega))
      have hzz := Below.size hBB
      simp only [World.size_alloc] at hzz
      have b2 := Blk.new wr 68 #[.int .i64 (b (q * 2)), .int .i64 (b (q * 2 + 1))]
      have hBW : Below (w.heap.size + 1) (w.alloc (.cells (bxC b) 101)) (wr.alloc (.cells #[.int .i64 (b (q * 2)), .int .i64 (b (q * 2 + 1))] 68)) := Below.alloc hBB hzz _
      have hBX : Below w.heap.size w (wr.alloc (.cells #[.int .i64 (b (q * 2)), .int .i64 (b (q * 2 + 1))] 68)) := hB0.trans (hBW.mono (by omega))
      have HC := hBC.out q
      have HBAD : Hid (boxQ b q ≠ 0 → boxE b = boxQ b q) := Lib.hid (fun he => boxE_bad hlt HI.out he)
      have HNX : Hid (boxQ b q = 0 → FineTo (boxQ b) (q + 1)) := Lib.hid (fun he => HI.out.step he)
      obtain ⟨G, hG⟩ : ∃ G, grt q = G := ⟨_, rfl⟩
      rw [hG] at hgr HC
      clear hG hAT hGA hBC b0 b1
      generalize b (q * 2) = lo at *
      generalize b (q * 2 + 1) = hi at *
      rcases HC with ⟨x1, x⟩ | ⟨x1, x2, x⟩ | ⟨x1, x2, x3, x⟩ | ⟨x1, x2, x3, x⟩
      · have HX : Hid (boxE b = 2) := Lib.hid ((HBAD.out (by rw [x]; simp)).trans x)
        clear HBAD HNX x
        go_wp2_with (go_at_call 170; refine (cdWithin_any _ _ _ _).mono ?_; rintro e w1 ⟨rfl, rfl⟩)
        go_ret
        exact ⟨by rw [HX.out]; rfl, hBX⟩
      · have HX : Hid (boxE b = 2) := Lib.hid ((HBAD.out (by rw [x]; simp)).trans x)
        clear HBAD HNX x
        go_wp2_with (go_at_call 170; refine (cdWithin_any _ _ _ _).mono ?_; rintro e w1 ⟨rfl, rfl⟩)
        go_ret
        exact ⟨by rw [HX.out]; rfl, hBX⟩
      · have HX : Hid (boxE b = 9) := Lib.hid ((HBAD.out (by rw [x]; simp)).trans x)
        clear HBAD HNX x
        go_wp2_with (go_at_call 170; refine (cdWithin_any _ _ _ _).mono ?_; rintro e w1 ⟨rfl, rfl⟩)
        go_ret
        exact ⟨by rw [HX.out]; rfl, hBX⟩
      · have HX := Lib.hid (HNX.out x)
        clear HBAD HNX x
        go_wp2_with (go_at_call 170; refine (cdWithin_any _ _ _ _).mono ?_; rintro e w1 ⟨rfl, rfl⟩)
        refine ⟨⟨q + 1, by omega, by go_num, HX, hBW⟩, by simp [intOf]; omega⟩
    · obtain rfl : q = 6 := by omega
      have HX : Hid (boxE b = 0) := Lib.hid (boxE_end HI.out)
      go_wp2
      go_ret
      exact ⟨by rw [HX.out]; rfl, hB0.trans (hBB.mono (by omega))⟩

end Go.Proofs.YtmdbpkomanhpoaaGreatDoor

namespace Go.Proofs.YtmdbpkomanhpoaaGreatDoor
open Go.RowKit

/-- A row of a code. -/
structure Rw where
  b : Nat → Int
  dec : Int
abbrev rwC (r : Rw) : Array Value := #[.int .i64 (r.b 0), .int .i64 (r.b 1), .int .i64 (r.b 2), .int .i64 (r.b 3), .int .i64 (r.b 4), .int .i64 (r.b 5), .int .i64 (r.b 6), .int .i64 (r.b 7), .int .i64 (r.b 8), .int .i64 (r.b 9), .int .i64 (r.b 10), .int .i64 (r.b 11), .int .i64 r.dec]
def rwF (r : Rw) : List Value := [.int .i64 (r.b 0), .int .i64 (r.b 1), .int .i64 (r.b 2), .int .i64 (r.b 3), .int .i64 (r.b 4), .int .i64 (r.b 5), .int .i64 (r.b 6), .int .i64 (r.b 7), .int .i64 (r.b 8), .int .i64 (r.b 9), .int .i64 (r.b 10), .int .i64 (r.b 11), .int .i64 r.dec]
theorem rwF_len (r : Rw) : (rwF r).length = 13 := rfl
theorem rwCells {w : World} {B : Nat} {A : Option Addr} {l : List Rw} (h : Row w B 13 A l.length (rowsC rwF l)) {k : Nat} (hk : k < l.length) :
    ∃ g o, A = some ⟨g, o, none⟩ ∧ g < B ∧ w.cell? ⟨g, o + k * 13, none⟩ = some (.int .i64 (l[k].b 0)) ∧ w.cell? ⟨g, o + k * 13 + 1, none⟩ = some (.int .i64 (l[k].b 1)) ∧ w.cell? ⟨g, o + k * 13 + 2, none⟩ = some (.int .i64 (l[k].b 2)) ∧ w.cell? ⟨g, o + k * 13 + 3, none⟩ = some (.int .i64 (l[k].b 3)) ∧ w.cell? ⟨g, o + k * 13 + 4, none⟩ = some (.int .i64 (l[k].b 4)) ∧ w.cell? ⟨g, o + k * 13 + 5, none⟩ = some (.int .i64 (l[k].b 5)) ∧ w.cell? ⟨g, o + k * 13 + 6, none⟩ = some (.int .i64 (l[k].b 6)) ∧ w.cell? ⟨g, o + k * 13 + 7, none⟩ = some (.int .i64 (l[k].b 7)) ∧ w.cell? ⟨g, o + k * 13 + 8, none⟩ = some (.int .i64 (l[k].b 8)) ∧ w.cell? ⟨g, o + k * 13 + 9, none⟩ = some (.int .i64 (l[k].b 9)) ∧ w.cell? ⟨g, o + k * 13 + 10, none⟩ = some (.int .i64 (l[k].b 10)) ∧ w.cell? ⟨g, o + k * 13 + 11, none⟩ = some (.int .i64 (l[k].b 11)) ∧ w.cell? ⟨g, o + k * 13 + 12, none⟩ = some (.int .i64 (l[k].dec)) := by
  obtain ⟨g, o, hA, hb, hc⟩ := h.at_ rwF_len hk
  exact ⟨g, o, hA, hb, hc 0 _ (by omega) rfl, hc 1 _ (by omega) rfl, hc 2 _ (by omega) rfl, hc 3 _ (by omega) rfl, hc 4 _ (by omega) rfl, hc 5 _ (by omega) rfl, hc 6 _ (by omega) rfl, hc 7 _ (by omega) rfl, hc 8 _ (by omega) rfl, hc 9 _ (by omega) rfl, hc 10 _ (by omega) rfl, hc 11 _ (by omega) rfl, hc 12 _ (by omega) rfl⟩
theorem rowsC_one (l : List Rw) : ∀ u ∈ rowsC rwF l, u.oneCell' = true := by
  intro u hu
  simp only [rowsC, List.mem_flatMap] at hu
  obtain ⟨p, _, hp⟩ := hu
  simp [rwF] at hp
  rcases hp with rfl | rfl | rfl | rfl | rfl | rfl | rfl | rfl | rfl | rfl | rfl | rfl | rfl <;> rfl
theorem infoRw : (Tryz.prog.info? 106).map (fun i => (i.zero, i.size, i.bytes)) = some (some (.agg #[.int .i64 0, .int .i64 0, .int .i64 0, .int .i64 0, .int .i64 0, .int .i64 0, .int .i64 0, .int .i64 0, .int .i64 0, .int .i64 0, .int .i64 0, .int .i64 0, .int .i64 0]), 13, 104) := by kernel_rfl
/-- A slice that the call itself made, read as a row. -/
theorem Row.ownd {w : World} {base e size n : Nat} {v : Value} {xs : List Value} (h : w.ownsRow base e size v n xs) : ∃ A cap, v = .slice A n cap ∧ n ≤ cap ∧ cap ≤ 9223372036854775807 ∧ Row w w.heap.size size A n xs := by
  have h0 := h
  obtain ⟨hl, ⟨hv, rfl⟩ | ⟨g, cap, cur, hv, hb, hh, hcap, hmax, hsz, htk⟩⟩ := h
  · subst hv
    exact ⟨none, 0, rfl, Nat.le_refl _, by omega, by simpa using hl, fun h => absurd h (by omega)⟩
  · obtain ⟨A, c, e1, _, hc⟩ := own_shape h0
    rw [hv] at e1
    cases e1
    refine ⟨_, cap, hv, hcap, by unfold maxLen at hmax; omega, hl, fun hn => ?_⟩
    obtain ⟨g', e2, _, hg, hcs, _⟩ := hc hn
    cases e2
    refine ⟨g, 0, rfl, hg, fun j u hu => ?_⟩
    have hj : j < n * size := by rw [← hl]; exact (List.getElem?_eq_some_iff.1 hu).1
    rw [Nat.zero_add, hcs j hj, hu]

/-- The error of a row. -/
def rowE (r : Rw) : Int := if boxE r.b = 0 then (if wi r.dec 0 2 = false then 15 else 0) else boxE r.b

set_option maxRecDepth 100000 in
set_option maxHeartbeats 1000000 in
theorem cdRowErr_any (r : Rw) (w : World) (hQ : Quant w) :
    Calls Tryz.prog 117 #[.agg (rwC r)] w fun e w' => e = .returned (.int .i64 (rowE r)) ∧ Below w.heap.size w w' := by
  have b0 := Blk.new w 106 (rwC r)
  have hB0 : Below w.heap.size w (w.alloc (.cells (rwC r) 106)) := (by repeat (first | (with_reducible exact Below.refl _ _) | (with_reducible assumption) | ((with_reducible refine Below.setCell ?_ ?_ _); rotate_left; · (first | exact Nat.le_refl _ | (simp; done) | (simp; omega) | omega)) | ((with_reducible refine Below.alloc ?_ ?_ _); rotate_left; · (first | exact Nat.le_refl _ | (simp; done) | (simp; omega) | omega)) | (with_reducible apply Below.drew) | (with_reducible apply below_drewN') | (refine Below.trans ?_ (Below.mono (by assumption) (by first | exact Nat.le_refl _ | (simp; done) | (simp; omega) | omega))) | exact Below.refl _ _ | assumption))
  have HQ := Lib.hid hQ; clear hQ
  by_cases h0 : boxE r.b = 0
  · have h1 : (boxE r.b != 0) = false := by simpa using h0
    have HE : Hid (rowE r = if wi r.dec 0 2 = false then 15 else 0) := by unfold rowE; rw [if_pos h0]; rfl
    have H0 := Lib.hid h0; clear h0
    go_enter Tryz.func117, Tryz.ntmps117
    go_wp2_with fail
    refine (cdCheckBox_any r.b _ (HQ.out.below hB0 (Nat.le_refl _))).mono ?_
    rw [H0.out]
    rintro e w1 ⟨rfl, hB1⟩
    have b1 := b0.below hB1 b0.lt
    have hc := b1.cell 12
    have hBB := hB0.trans (hB1.mono (by simp))
    clear hB1 b0
    cases hq : wi r.dec 0 2
    · rw [hq] at HE
      go_wp2_with (go_at_call 156; refine (cdIsDecision_any _ _).mono ?_; rintro e w1 ⟨rfl, rfl⟩)
      go_ret
      exact ⟨by rw [HE.out]; rfl, hBB⟩
    · rw [hq] at HE
      go_wp2_with (go_at_call 156; refine (cdIsDecision_any _ _).mono ?_; rintro e w1 ⟨rfl, rfl⟩)
      go_ret
      exact ⟨by rw [HE.out]; rfl, hBB⟩
  · have h1 : (boxE r.b != 0) = true := by simpa using h0
    have HE : Hid (rowE r = boxE r.b) := by unfold rowE; rw [if_neg h0]; rfl
    have H0 := Lib.hid h0; clear h0
    go_enter Tryz.func117, Tryz.ntmps117
    go_wp2_with fail
    refine (cdCheckBox_any r.b _ (HQ.out.below hB0 (Nat.le_refl _))).mono ?_
    rintro e w1 ⟨rfl, hB1⟩
    have hBB := hB0.trans (hB1.mono (by simp))
    go_wp2
    go_ret
    exact ⟨by rw [HE.out]; rfl, hBB⟩

/-! ### room for rows -/
set_option maxRecDepth 100000 in
set_option maxHeartbeats 1000000 in
theorem growRows_any (n : Nat) (hn : n ≤ 1000000) (w : World) :
    Calls Tryz.prog 182 #[.slice none 0 0, .int .i64 n] w fun e w' => ∃ v, e = .returned v ∧ w'.ownsRow w.heap.size 106 13 v 0 [] ∧ Below w.heap.size w w' := by
  by_cases h0 : n = 0
  · subst h0
    go_enter Tryz.func182, Tryz.ntmps182
    go_wp2
    go_ret
    exact ⟨_, rfl, World.ownsRow_nil _ _ _ _, Below.refl _ _⟩
  · obtain ⟨i0, hi, hz0, hz1, hz2⟩ := info_parts infoRw
    have hpos : 0 < n := by omega
    have hposI : (0 : Int) < (n : Int) := by omega
    have H0 := Lib.hid h0; clear h0
    have hr : ∀ ty, (Builtin.append_ #[23, 3] ty #[.slice none 0 0, .int .i64 (n : Int)]).run Tryz.prog w = .ok (.slice (some ⟨w.heap.size, 0, none⟩) (0 + n) (grownCap w (0 + n) 0 106)) (w.drew.alloc (.cells ((#[] : Array Value) ++ Builtin.zeroCells (Value.agg #[.int .i64 0, .int .i64 0, .int .i64 0, .int .i64 0, .int .i64 0, .int .i64 0, .int .i64 0, .int .i64 0, .int .i64 0, .int .i64 0, .int .i64 0, .int .i64 0, .int .i64 0]).cells n ++ Builtin.zeroCells (Value.agg #[.int .i64 0, .int .i64 0, .int .i64 0, .int .i64 0, .int .i64 0, .int .i64 0, .int .i64 0, .int .i64 0, .int .i64 0, .int .i64 0, .int .i64 0, .int .i64 0, .int .i64 0]).cells (grownCap w (0 + n) 0 106 - (0 + n))) 106)) := fun ty =>
      Lib.run_append_grow_zeros (P := Tryz.prog) w 23 3 ty 106 i0 _ .i64 .i64 Tryz.underlying23 Tryz.underlying3 hi hz0 none 0 0 [] (run_firstCells_none w.drew i0.size 0 0 0) n hpos (by rw [hz1]; omega) (by omega) (by omega) (by rw [hz2]; omega)
        (by rw [hz2]; exact growslice_fits (by omega) (by omega))
    have hG := grownCap_ge w (0 + n) 0 106
    have hM := grownCap_le_maxLen w (0 + n) 0 106 (by unfold maxLen; omega)
    obtain ⟨G, hGe⟩ : ∃ G, grownCap w (0 + n) 0 106 = G := ⟨_, rfl⟩
    rw [hGe] at hG hM
    simp only [hGe] at hr
    obtain ⟨cur, hcur⟩ : ∃ cur, (#[] : Array Value) ++ Builtin.zeroCells (Value.agg #[.int .i64 0, .int .i64 0, .int .i64 0, .int .i64 0, .int .i64 0, .int .i64 0, .int .i64 0, .int .i64 0, .int .i64 0, .int .i64 0, .int .i64 0, .int .i64 0, .int .i64 0]).cells n ++ Builtin.zeroCells (Value.agg #[.int .i64 0, .int .i64 0, .int .i64 0, .int .i64 0, .int .i64 0, .int .i64 0, .int .i64 0, .int .i64 0, .int .i64 0, .int .i64 0, .int .i64 0, .int .i64 0, .int .i64 0]).cells (G - (0 + n)) = cur := ⟨_, rfl⟩
    have hsz : cur.size = G * 13 := by
      rw [← hcur]
      simp [size_zeroCells, Value.cells]
      omega
    simp only [hcur] at hr
    clear hcur hGe
    have own : (w.drew.alloc (.cells cur 106)).ownsRow w.heap.size 106 13 (.slice (some ⟨w.heap.size, 0, none⟩) 0 G) 0 [] :=
      World.ownsRow_made (base := w.heap.size) (e := 106) (size := 13) w.drew cur G (Nat.le_refl _) hM hsz
    have HO := Lib.hid own; clear own
    have hG' : n ≤ G := by omega
    have hM' : G ≤ 9223372036854775807 := by unfold maxLen at hM; omega
    clear hM hG hsz
    go_enter Tryz.func182, Tryz.ntmps182
    go_wp2_with (at_builtin; refine Lib.wpList_append_run _ rfl _ _ _ _ rfl _ _ rfl rfl _ _ (hr _) ?_)
    go_ret
    exact ⟨_, rfl, HO.out, (by repeat (first | (with_reducible exact Below.refl _ _) | (with_reducible assumption) | ((with_reducible refine Below.setCell ?_ ?_ _); rotate_left; · (first | exact Nat.le_refl _ | (simp; done) | (simp; omega) | omega)) | ((with_reducible refine Below.alloc ?_ ?_ _); rotate_left; · (first | exact Nat.le_refl _ | (simp; done) | (simp; omega) | omega)) | (with_reducible apply Below.drew) | (with_reducible apply below_drewN') | (refine Below.trans ?_ (Below.mono (by assumption) (by first | exact Nat.le_refl _ | (simp; done) | (simp; omega) | omega))) | exact Below.refl _ _ | assumption))⟩
end Go.Proofs.YtmdbpkomanhpoaaGreatDoor
