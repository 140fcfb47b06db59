/- Contracts: the rows of codes: which rows are right; the rows of a code in one slice; which codes are right. -/
import Derived.Lib.AppendZerosOnto
import Derived.Lib.Walk
import Derived.Test.YtlbpogklkkninaaGreatDoorZoOsJ
import Derived.Test.YtlbpogklkkninaaGreatDoorZoCvM
import Derived.Test.YtlbpogklkkninaaGreatDoorZoCvU
namespace Go.Proofs.YtlbpogklkkninaaGreatDoor
open Go.RowKit

/-- A row of a code. -/
structure Rw where
  b : Nat → Int
  dec : Int
abbrev rwC (r : Rw) : Array Value := #[.int .i64 (r.b 0), .int .i64 (r.b 1), .int .i64 (r.b 2), .int .i64 (r.b 3), .int .i64 (r.b 4), .int .i64 (r.b 5), .int .i64 (r.b 6), .int .i64 (r.b 7), .int .i64 (r.b 8), .int .i64 (r.b 9), .int .i64 (r.b 10), .int .i64 (r.b 11), .int .i64 r.dec]
def rwF (r : Rw) : List Value := [.int .i64 (r.b 0), .int .i64 (r.b 1), .int .i64 (r.b 2), .int .i64 (r.b 3), .int .i64 (r.b 4), .int .i64 (r.b 5), .int .i64 (r.b 6), .int .i64 (r.b 7), .int .i64 (r.b 8), .int .i64 (r.b 9), .int .i64 (r.b 10), .int .i64 (r.b 11), .int .i64 r.dec]
theorem rwF_len (r : Rw) : (rwF r).length = 13 := rfl
theorem rwCells {w : World} {B : Nat} {A : Option Addr} {l : List Rw} (h : Row w B 13 A l.length (rowsC rwF l)) {k : Nat} (hk : k < l.length) :
    ∃ g o, A = some ⟨g, o, none⟩ ∧ g < B ∧ w.cell? ⟨g, o + k * 13, none⟩ = some (.int .i64 (l[k].b 0)) ∧ w.cell? ⟨g, o + k * 13 + 1, none⟩ = some (.int .i64 (l[k].b 1)) ∧ w.cell? ⟨g, o + k * 13 + 2, none⟩ = some (.int .i64 (l[k].b 2)) ∧ w.cell? ⟨g, o + k * 13 + 3, none⟩ = some (.int .i64 (l[k].b 3)) ∧ w.cell? ⟨g, o + k * 13 + 4, none⟩ = some (.int .i64 (l[k].b 4)) ∧ w.cell? ⟨g, o + k * 13 + 5, none⟩ = some (.int .i64 (l[k].b 5)) ∧ w.cell? ⟨g, o + k * 13 + 6, none⟩ = some (.int .i64 (l[k].b 6)) ∧ w.cell? ⟨g, o + k * 13 + 7, none⟩ = some (.int .i64 (l[k].b 7)) ∧ w.cell? ⟨g, o + k * 13 + 8, none⟩ = some (.int .i64 (l[k].b 8)) ∧ w.cell? ⟨g, o + k * 13 + 9, none⟩ = some (.int .i64 (l[k].b 9)) ∧ w.cell? ⟨g, o + k * 13 + 10, none⟩ = some (.int .i64 (l[k].b 10)) ∧ w.cell? ⟨g, o + k * 13 + 11, none⟩ = some (.int .i64 (l[k].b 11)) ∧ w.cell? ⟨g, o + k * 13 + 12, none⟩ = some (.int .i64 (l[k].dec)) := by
  obtain ⟨g, o, hA, hb, hc⟩ := h.at_ rwF_len hk
  exact ⟨g, o, hA, hb, hc 0 _ (by omega) rfl, hc 1 _ (by omega) rfl, hc 2 _ (by omega) rfl, hc 3 _ (by omega) rfl, hc 4 _ (by omega) rfl, hc 5 _ (by omega) rfl, hc 6 _ (by omega) rfl, hc 7 _ (by omega) rfl, hc 8 _ (by omega) rfl, hc 9 _ (by omega) rfl, hc 10 _ (by omega) rfl, hc 11 _ (by omega) rfl, hc 12 _ (by omega) rfl⟩
theorem rowsC_one (l : List Rw) : ∀ u ∈ rowsC rwF l, u.oneCell' = true := by
  intro u hu
  simp only [rowsC, List.mem_flatMap] at hu
  obtain ⟨p, _, hp⟩ := hu
  simp [rwF] at hp
  rcases hp with rfl | rfl | rfl | rfl | rfl | rfl | rfl | rfl | rfl | rfl | rfl | rfl | rfl <;> rfl
theorem infoRw : (Tryz.prog.info? 110).map (fun i => (i.zero, i.size, i.bytes)) = some (some (.agg #[.int .i64 0, .int .i64 0, .int .i64 0, .int .i64 0, .int .i64 0, .int .i64 0, .int .i64 0, .int .i64 0, .int .i64 0, .int .i64 0, .int .i64 0, .int .i64 0, .int .i64 0]), 13, 104) := by kernel_rfl
/-- A slice that the call itself made, read as a row. -/
theorem Row.ownd {w : World} {base e size n : Nat} {v : Value} {xs : List Value} (h : w.ownsRow base e size v n xs) : ∃ A cap, v = .slice A n cap ∧ n ≤ cap ∧ cap ≤ 9223372036854775807 ∧ Row w w.heap.size size A n xs := by
  have h0 := h
  obtain ⟨hl, ⟨hv, rfl⟩ | ⟨g, cap, cur, hv, hb, hh, hcap, hmax, hsz, htk⟩⟩ := h
  · subst hv
    exact ⟨none, 0, rfl, Nat.le_refl _, by omega, by simpa using hl, fun h => absurd h (by omega)⟩
  · obtain ⟨A, c, e1, _, hc⟩ := own_shape h0
    rw [hv] at e1
    cases e1
    refine ⟨_, cap, hv, hcap, by unfold maxLen at hmax; omega, hl, fun hn => ?_⟩
    obtain ⟨g', e2, _, hg, hcs, _⟩ := hc hn
    cases e2
    refine ⟨g, 0, rfl, hg, fun j u hu => ?_⟩
    have hj : j < n * size := by rw [← hl]; exact (List.getElem?_eq_some_iff.1 hu).1
    rw [Nat.zero_add, hcs j hj, hu]

/-- The error of a row. -/
def rowE (r : Rw) : Int := if boxE r.b = 0 then (if wi r.dec 0 2 = false then 15 else 0) else boxE r.b

set_option maxRecDepth 100000 in
set_option maxHeartbeats 1000000 in
theorem cdRowErr_any (r : Rw) (w : World) (hQ : Quant w) :
    Calls Tryz.prog 45 #[.agg (rwC r)] w fun e w' => e = .returned (.int .i64 (rowE r)) ∧ Below w.heap.size w w' := by
  have b0 := Blk.new w 110 (rwC r)
  have hB0 : Below w.heap.size w (w.alloc (.cells (rwC r) 110)) := (by repeat (first | (with_reducible exact Below.refl _ _) | (with_reducible assumption) | ((with_reducible refine Below.setCell ?_ ?_ _); rotate_left; · (first | exact Nat.le_refl _ | (simp; done) | (simp; omega) | omega)) | ((with_reducible refine Below.alloc ?_ ?_ _); rotate_left; · (first | exact Nat.le_refl _ | (simp; done) | (simp; omega) | omega)) | (with_reducible apply Below.drew) | (with_reducible apply below_drewN') | (refine Below.trans ?_ (Below.mono (by assumption) (by first | exact Nat.le_refl _ | (simp; done) | (simp; omega) | omega))) | exact Below.refl _ _ | assumption))
  have HQ := Lib.hid hQ; clear hQ
  by_cases h0 : boxE r.b = 0
  · have h1 : (boxE r.b != 0) = false := by simpa using h0
    have HE : Hid (rowE r = if wi r.dec 0 2 = false then 15 else 0) := by unfold rowE; rw [if_pos h0]; rfl
    have H0 := Lib.hid h0; clear h0
    go_enter Tryz.func45, Tryz.ntmps45
    go_wp2_with fail
    refine (cdCheckBox_any r.b _ (HQ.out.below hB0 (Nat.le_refl _))).mono ?_
    rw [H0.out]
    rintro e w1 ⟨rfl, hB1⟩
    have b1 := b0.below hB1 b0.lt
    have hc := b1.cell 12
    have hBB := hB0.trans (hB1.mono (by simp))
    clear hB1 b0
    cases hq : wi r.dec 0 2
    · rw [hq] at HE
      go_wp2_with (go_at_call 74; refine (cdIsDecision_any _ _).mono ?_; rintro e w1 ⟨rfl, rfl⟩)
      go_ret
      exact ⟨by rw [HE.out]; rfl, hBB⟩
    · rw [hq] at HE
      go_wp2_with (go_at_call 74; refine (cdIsDecision_any _ _).mono ?_; rintro e w1 ⟨rfl, rfl⟩)
      go_ret
      exact ⟨by rw [HE.out]; rfl, hBB⟩
  · have h1 : (boxE r.b != 0) = true := by simpa using h0
    have HE : Hid (rowE r = boxE r.b) := by unfold rowE; rw [if_neg h0]; rfl
    have H0 := Lib.hid h0; clear h0
    go_enter Tryz.func45, Tryz.ntmps45
    go_wp2_with fail
    refine (cdCheckBox_any r.b _ (HQ.out.below hB0 (Nat.le_refl _))).mono ?_
    rintro e w1 ⟨rfl, hB1⟩
    have hBB := hB0.trans (hB1.mono (by simp))
    go_wp2
    go_ret
    exact ⟨by rw [HE.out]; rfl, hBB⟩

set_option maxRecDepth 100000 in
set_option maxHeartbeats 1000000 in
theorem rRowErr_any (r : Rw) (w : World) :
    Calls Tryz.prog 54 #[.agg (rwC r)] w fun e w' => e = .returned (.int .i64 (rowE r)) ∧ Below w.heap.size w w' := by
  have b0 := Blk.new w 110 (rwC r)
  have hB0 : Below w.heap.size w (w.alloc (.cells (rwC r) 110)) := (by repeat (first | (with_reducible exact Below.refl _ _) | (with_reducible assumption) | ((with_reducible refine Below.setCell ?_ ?_ _); rotate_left; · (first | exact Nat.le_refl _ | (simp; done) | (simp; omega) | omega)) | ((with_reducible refine Below.alloc ?_ ?_ _); rotate_left; · (first | exact Nat.le_refl _ | (simp; done) | (simp; omega) | omega)) | (with_reducible apply Below.drew) | (with_reducible apply below_drewN') | (refine Below.trans ?_ (Below.mono (by assumption) (by first | exact Nat.le_refl _ | (simp; done) | (simp; omega) | omega))) | exact Below.refl _ _ | assumption))
  by_cases h0 : boxE r.b = 0
  · have h1 : (boxE r.b != 0) = false := by simpa using h0
    have HE : Hid (rowE r = if wi r.dec 0 2 = false then 15 else 0) := by unfold rowE; rw [if_pos h0]; rfl
    have H0 := Lib.hid h0; clear h0
    go_enter Tryz.func54, Tryz.ntmps54
    go_wp2_with fail
    refine (rCheckBox_any r.b _).mono ?_
    rw [H0.out]
    rintro e w1 ⟨rfl, hB1⟩
    have b1 := b0.below hB1 b0.lt
    have hc := b1.cell 12
    have hBB := hB0.trans (hB1.mono (by simp))
    clear hB1 b0
    cases hq : wi r.dec 0 2
    · rw [hq] at HE
      go_wp2_with (go_at_call 77; refine (rIsDecision_any _ _).mono ?_; rintro e w1 ⟨rfl, rfl⟩)
      go_ret
      exact ⟨by rw [HE.out]; rfl, hBB⟩
    · rw [hq] at HE
      go_wp2_with (go_at_call 77; refine (rIsDecision_any _ _).mono ?_; rintro e w1 ⟨rfl, rfl⟩)
      go_ret
      exact ⟨by rw [HE.out]; rfl, hBB⟩
  · have h1 : (boxE r.b != 0) = true := by simpa using h0
    have HE : Hid (rowE r = boxE r.b) := by unfold rowE; rw [if_neg h0]; rfl
    have H0 := Lib.hid h0; clear h0
    go_enter Tryz.func54, Tryz.ntmps54
    go_wp2_with fail
    refine (rCheckBox_any r.b _).mono ?_
    rintro e w1 ⟨rfl, hB1⟩
    have hBB := hB0.trans (hB1.mono (by simp))
    go_wp2
    go_ret
    exact ⟨by rw [HE.out]; rfl, hBB⟩

/-! ### room for rows -/
set_option maxRecDepth 100000 in
set_option maxHeartbeats 1000000 in
theorem growRows_any (n : Nat) (hn : n ≤ 1000000) (w : World) :
    Calls Tryz.prog 88 #[.slice none 0 0, .int .i64 n] w fun e w' => ∃ v, e = .returned v ∧ w'.ownsRow w.heap.size 110 13 v 0 [] ∧ Below w.heap.size w w' := by
  by_cases h0 : n = 0
  · subst h0
    go_enter Tryz.func88, Tryz.ntmps88
    go_wp2
    go_ret
    exact ⟨_, rfl, World.ownsRow_nil _ _ _ _, Below.refl _ _⟩
  · obtain ⟨i0, hi, hz0, hz1, hz2⟩ := info_parts infoRw
    have hpos : 0 < n := by omega
    have hposI : (0 : Int) < (n : Int) := by omega
    have H0 := Lib.hid h0; clear h0
    have hr : ∀ ty, (Builtin.append_ #[23, 3] ty #[.slice none 0 0, .int .i64 (n : Int)]).run Tryz.prog w = .ok (.slice (some ⟨w.heap.size, 0, none⟩) (0 + n) (grownCap w (0 + n) 0 110)) (w.drew.alloc (.cells ((#[] : Array Value) ++ Builtin.zeroCells (Value.agg #[.int .i64 0, .int .i64 0, .int .i64 0, .int .i64 0, .int .i64 0, .int .i64 0, .int .i64 0, .int .i64 0, .int .i64 0, .int .i64 0, .int .i64 0, .int .i64 0, .int .i64 0]).cells n ++ Builtin.zeroCells (Value.agg #[.int .i64 0, .int .i64 0, .int .i64 0, .int .i64 0, .int .i64 0, .int .i64 0, .int .i64 0, .int .i64 0, .int .i64 0, .int .i64 0, .int .i64 0, .int .i64 0, .int .i64 0]).cells (grownCap w (0 + n) 0 110 - (0 + n))) 110)) := fun ty =>
      Lib.run_append_grow_zeros (P := Tryz.prog) w 23 3 ty 110 i0 _ .i64 .i64 Tryz.underlying23 Tryz.underlying3 hi hz0 none 0 0 [] (run_firstCells_none w.drew i0.size 0 0 0) n hpos (by rw [hz1]; omega) (by omega) (by omega) (by rw [hz2]; omega)
        (by rw [hz2]; exact growslice_fits (by omega) (by omega))
    have hG := grownCap_ge w (0 + n) 0 110
    have hM := grownCap_le_maxLen w (0 + n) 0 110 (by unfold maxLen; omega)
    obtain ⟨G, hGe⟩ : ∃ G, grownCap w (0 + n) 0 110 = G := ⟨_, rfl⟩
    rw [hGe] at hG hM
    simp only [hGe] at hr
    obtain ⟨cur, hcur⟩ : ∃ cur, (#[] : Array Value) ++ Builtin.zeroCells (Value.agg #[.int .i64 0, .int .i64 0, .int .i64 0, .int .i64 0, .int .i64 0, .int .i64 0, .int .i64 0, .int .i64 0, .int .i64 0, .int .i64 0, .int .i64 0, .int .i64 0, .int .i64 0]).cells n ++ Builtin.zeroCells (Value.agg #[.int .i64 0, .int .i64 0, .int .i64 0, .int .i64 0, .int .i64 0, .int .i64 0, .int .i64 0, .int .i64 0, .int .i64 0, .int .i64 0, .int .i64 0, .int .i64 0, .int .i64 0]).cells (G - (0 + n)) = cur := ⟨_, rfl⟩
    have hsz : cur.size = G * 13 := by
      rw [← hcur]
      simp [size_zeroCells, Value.cells]
      omega
    simp only [hcur] at hr
    clear hcur hGe
    have own : (w.drew.alloc (.cells cur 110)).ownsRow w.heap.size 110 13 (.slice (some ⟨w.heap.size, 0, none⟩) 0 G) 0 [] :=
      World.ownsRow_made (base := w.heap.size) (e := 110) (size := 13) w.drew cur G (Nat.le_refl _) hM hsz
    have HO := Lib.hid own; clear own
    have hG' : n ≤ G := by omega
    have hM' : G ≤ 9223372036854775807 := by unfold maxLen at hM; omega
    clear hM hG hsz
    go_enter Tryz.func88, Tryz.ntmps88
    go_wp2_with (at_builtin; refine Lib.wpList_append_run _ rfl _ _ _ _ rfl _ _ rfl rfl _ _ (hr _) ?_)
    go_ret
    exact ⟨_, rfl, HO.out, (by repeat (first | (with_reducible exact Below.refl _ _) | (with_reducible assumption) | ((with_reducible refine Below.setCell ?_ ?_ _); rotate_left; · (first | exact Nat.le_refl _ | (simp; done) | (simp; omega) | omega)) | ((with_reducible refine Below.alloc ?_ ?_ _); rotate_left; · (first | exact Nat.le_refl _ | (simp; done) | (simp; omega) | omega)) | (with_reducible apply Below.drew) | (with_reducible apply below_drewN') | (refine Below.trans ?_ (Below.mono (by assumption) (by first | exact Nat.le_refl _ | (simp; done) | (simp; omega) | omega))) | exact Below.refl _ _ | assumption))⟩
end Go.Proofs.YtlbpogklkkninaaGreatDoor
