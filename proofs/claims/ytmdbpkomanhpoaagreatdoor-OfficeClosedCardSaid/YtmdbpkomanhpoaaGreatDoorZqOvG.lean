/- The set-up of the examples (couplantlaw10.Weld): the walk. Plain mathematics of tracks: the ranges that the reference walks through are the canonical ones. Contracts of the reference's parts for tracks: equal ranges, a position that is scanned. The log of the examples (couplantlaw10.Days), and facts of its run. The examples of the document are so (couplantlaw10.awake). -/
import Derived.Laws.AppendOwnNone
import Derived.Test.YtmdbpkomanhpoaaGreatDoorZqOvD
import Derived.Test.YtmdbpkomanhpoaaGreatDoorZqCtPlain
import Derived.Test.YtmdbpkomanhpoaaGreatDoorZqCvV
import Derived.Test.YtmdbpkomanhpoaaGreatDoorZqOvC
namespace Go.Proofs.YtmdbpkomanhpoaaGreatDoor
open Go.RowKit Go.Lib

set_option maxRecDepth 100000 in
set_option maxHeartbeats 4000000 in
theorem weld_any (w : World) : Calls Tryz.prog 15 #[] w fun e w' => ∃ m, e = .returned (.agg (seC weldS m)) ∧ SeOk weldS m w'.heap.size w' ∧ Below w.heap.size w w' := by
  have br := Blk.new w 33 #[.slice none 0 0, .string ⟨#[]⟩, .slice none 0 0, .slice none 0 0, .int .i64 0, .slice none 0 0, .int .i64 0, .int .i64 0, .int .i64 0, .int .i64 0, .int .i64 0, .int .i64 0, .slice none 0 0]
  have hB0 : Below w.heap.size w (w.alloc (.cells #[.slice none 0 0, .string ⟨#[]⟩, .slice none 0 0, .slice none 0 0, .int .i64 0, .slice none 0 0, .int .i64 0, .int .i64 0, .int .i64 0, .int .i64 0, .int .i64 0, .int .i64 0, .slice none 0 0] 33)) := (Below.refl _ _).alloc (Nat.le_refl _) _
  go_enter Tryz.func15, Tryz.ntmps15
  go_wp2_with fail
  refine (whole_any _).mono ?_
  rintro e w1 ⟨rfl, hB1⟩
  replace br := br.below hB1 br.lt
  have hBB : Below w.heap.size w w1 := hB0.trans (hB1.mono hB0.size)
  replace br := br.alloc (.cells (bxC weldTop) 101 (0, 0))
  have bx := Blk.new w1 101 (bxC weldTop)
  have hB2 := hBB.alloc hBB.size (.cells (bxC weldTop) 101 (0, 0))
  have hgx : w.heap.size ≤ w1.heap.size := hBB.size
  obtain ⟨x0, x1, x2, x3, x4, x5, x6, x7, x8, x9, x10, x11, xf⟩ := blk12o bx
  have lx := bx.lt
  clear hB0 hB1 hBB x0 x1 x2 x3 x4 x5 x6 x7 x8 x9
  have hne : w.heap.size ≠ w1.heap.size := Blk.ne_ br bx (by decide)
  generalize hW2 : w1.alloc (.cells (bxC weldTop) 101) = W2 at *
  go_upto_region 3 with fail
  clear hW2
  generalize w1.heap.size = gx at *
  have bl : Blk ((W2.setCell ⟨gx, 10, none⟩ (.int .i64 0)).setCell ⟨gx, 11, none⟩ (.int .i64 9)) gx 101 (bxC weldLow) := by
    have h := (bx.set_ 10 (.int .i64 0)).set_ 11 (.int .i64 9)
    rw [show ((bxC weldTop).setIfInBounds 10 (.int .i64 0)).setIfInBounds 11 (.int .i64 9) = bxC weldLow from by kernel_rfl] at h
    exact h
  refine weldReg3 (w := w) (gr := w.heap.size) (gx := gx) ((hB2.setCell (p := ⟨gx, 10, none⟩) hgx _).setCell (p := ⟨gx, 11, none⟩) hgx _) (Nat.le_refl _) ((br.far (p := ⟨gx, 10, none⟩) hne _).far (p := ⟨gx, 11, none⟩) hne _) bl _ ?_
  intro t5 t6 t7 t8 t9 t10 t11 t12 t13 t14 t15 t16 t17 t18 t19 t20 t21 t22 t23 m w' hs hb hBw
  clear br bx bl hB2 hne hgx xf lx x10 x11
  obtain ⟨y0, y1, y2, y3, y4, y5, y6, y7, y8, y9, y10, y11, y12, yf⟩ := blk13 hb
  have HS := Lib.hid (And.intro hs hBw)
  clear hs hBw hb
  go_wp2
  refine bodyPost_ret (v := .agg (seC weldS m)) ?_ rfl ⟨m, rfl, HS.out⟩
  simp [results, Tryz.results15, go_sem, y0, y1, y2, y3, y4, y5, y6, y7, y8, y9, y10, y11, y12]
end Go.Proofs.YtmdbpkomanhpoaaGreatDoor

namespace CtPlain

/-- A position is surely scanned by one of the readings. -/
def Sc (slip reach : Int) (ps : List Int) (x : Int) : Bool := ps.any fun p => decide (p + slip - reach ≤ x) && decide (x ≤ p - slip + reach)

end CtPlain

namespace Go.Proofs.YtmdbpkomanhpoaaGreatDoor
open Go.RowKit

theorem rngsC_cells {w : World} {l : List (Int × Int)} {A : Option Addr} {B : Nat} (h : Row w B 2 A l.length (rngsC l)) {k : Nat} (hk : k < l.length) :
    ∃ g o, A = some ⟨g, o, none⟩ ∧ g < B ∧ w.cell? ⟨g, o + k * 2, none⟩ = some (.int .i64 l[k].1) ∧ w.cell? ⟨g, o + k * 2 + 1, none⟩ = some (.int .i64 l[k].2) := by
  obtain ⟨g, o, e, hg, hc⟩ := h.2 (by omega)
  have hr := rngsC_get l k l[k] (List.getElem?_eq_getElem hk)
  exact ⟨g, o, e, hg, hc _ _ hr.1, by rw [Nat.add_assoc]; exact hc _ _ hr.2⟩

set_option maxRecDepth 100000 in
set_option maxHeartbeats 1000000 in
theorem ranges_any (l m : List (Int × Int)) (A A' : Option Addr) (c c' B : Nat) (w : World) (hl : l.length ≤ 1000000000) (hm : m.length ≤ 1000000000) (hR : Row w B 2 A l.length (rngsC l)) (hR' : Row w B 2 A' m.length (rngsC m)) (hB : B ≤ w.heap.size) :
    Calls Tryz.prog 18 #[.slice A l.length c, .slice A' m.length c'] w fun e w' => e = .returned (.bool (decide (l = m))) ∧ Below w.heap.size w w' := by
  by_cases hlm : l.length = m.length
  · have h1 : ((l.length : Int) != (m.length : Int)) = false := by simp [hlm]
    have HL := Lib.hid hlm; clear hlm
    go_enter Tryz.func18, Tryz.ntmps18
    go_wp2
    clear h1
    go_loopw [5] (fun i wr => ∃ k : Nat, k ≤ l.length ∧ i = .int .i64 k ∧ Hid (l.take k = m.take k) ∧ Below w.heap.size w wr) (fun i _ => l.length - (intOf i).toNat)
    case atStart => exact ⟨0, Nat.zero_le _, rfl, rfl, Below.refl _ _⟩
    case round =>
      obtain ⟨k, hk, rfl, HK, hBr⟩ := hrel
      by_cases hlt : k < l.length
      · have hlt' : k < m.length := by have := HL.out; omega
        obtain ⟨g, o, hA, hg, r0, r1⟩ := rngsC_cells (hR.below hBr hB) hlt
        obtain ⟨g', o', hA', hg', s0, s1⟩ := rngsC_cells (hR'.below hBr hB) hlt'
        subst hA hA'
        have hsr := Below.size hBr
        have lg : g < wr.heap.size := by omega
        have lg' : g' < wr.heap.size := by omega
        have k0 : (0 : Int) ≤ (k : Int) := by omega
        have k1 : (k : Int) < (l.length : Int) := by omega
        have k2 : (k : Int) < (m.length : Int) := by omega
        have HD := Lib.hid (show l[k] = m[k] ↔ l[k].1 = m[k].1 ∧ l[k].2 = m[k].2 from ⟨fun h => by rw [h]; exact ⟨rfl, rfl⟩, fun h => Prod.ext h.1 h.2⟩)
        have HT := Lib.hid (show l[k] = m[k] → l.take (k + 1) = m.take (k + 1) from fun h => by
          have := HK.out
          rw [List.take_succ_eq_append_getElem hlt, List.take_succ_eq_append_getElem hlt', this, h])
        have HN := Lib.hid (show l[k] ≠ m[k] → decide (l = m) = false from fun h => by
          simp only [decide_eq_false_iff_not]; intro e; subst e; exact h rfl)
        generalize l[k] = p at *
        generalize m[k] = q at *
        obtain ⟨p1, p2⟩ := p
        obtain ⟨q1, q2⟩ := q
        simp only at r0 r1 s0 s1 HD
        by_cases e1 : p1 = q1
        · by_cases e2 : p2 = q2
          · have b1 : (p1 == q1) = true := by simpa using e1
            have b2 : (p2 == q2) = true := by simpa using e2
            have E1 := Lib.hid e1; have E2 := Lib.hid e2; clear e1 e2
            go_wp2_with fail
            refine wp_region_b 9 (by kernel_rfl) (by kernel_rfl) ?_; simp only [List.take, List.drop]
            repeat (first
              | (apply StepsD.run
                 · go_simp
                   done
                 · intro w' hS K hK
                   have hc := (bcell hS).1
                   have hf := (bcell hS).2
                   have hz := hS.size
                   try simp at hz
                   go_simp
                   try go_bits
                   first
                     | exact hK _ hS
                     | exact hK _ (by repeat (first | (with_reducible exact Below.refl _ _) | (with_reducible assumption) | ((with_reducible refine Below.setCell ?_ ?_ _); rotate_left; · (first | exact Nat.le_refl _ | (simp; done) | (simp; omega) | omega)) | ((with_reducible refine Below.alloc ?_ ?_ _); rotate_left; · (first | exact Nat.le_refl _ | (simp; done) | (simp; omega) | omega)) | (with_reducible apply Below.drew) | (with_reducible apply below_drewN') | (refine Below.trans ?_ (Below.mono (by assumption) (by first | exact Nat.le_refl _ | (simp; done) | (simp; omega) | omega))) | exact Below.refl _ _ | assumption))
                 · simp [Act.put]
                   done)
              | (apply StepsD.pass
                 · first | (go_simp; done) | rfl
                 · simp only [Act.put, List.setIfInBounds_toArray, List.set_cons_succ, List.set_cons_zero]
                   rfl))
            refine StepsD.done ?_
            intro w' hS
            go_wp2
            go_roundw
            case rel => exact ⟨k + 1, by omega, by go_num, Lib.hid (HT.out (HD.out.2 ⟨E1.out, E2.out⟩)), hBr.trans (hS.mono hsr)⟩
            case measure => simp [intOf]; omega
          · have b1 : (p1 == q1) = true := by simpa using e1
            have b2 : (p2 == q2) = false := by simpa using e2
            have E1 := Lib.hid e1; have E2 := Lib.hid e2; clear e1 e2
            go_wp2_with fail
            refine wp_region_b 9 (by kernel_rfl) (by kernel_rfl) ?_; simp only [List.take, List.drop]
            repeat (first
              | (apply StepsD.run
                 · go_simp
                   done
                 · intro w' hS K hK
                   have hc := (bcell hS).1
                   have hf := (bcell hS).2
                   have hz := hS.size
                   try simp at hz
                   go_simp
                   try go_bits
                   first
                     | exact hK _ hS
                     | exact hK _ (by repeat (first | (with_reducible exact Below.refl _ _) | (with_reducible assumption) | ((with_reducible refine Below.setCell ?_ ?_ _); rotate_left; · (first | exact Nat.le_refl _ | (simp; done) | (simp; omega) | omega)) | ((with_reducible refine Below.alloc ?_ ?_ _); rotate_left; · (first | exact Nat.le_refl _ | (simp; done) | (simp; omega) | omega)) | (with_reducible apply Below.drew) | (with_reducible apply below_drewN') | (refine Below.trans ?_ (Below.mono (by assumption) (by first | exact Nat.le_refl _ | (simp; done) | (simp; omega) | omega))) | exact Below.refl _ _ | assumption))
                 · simp [Act.put]
                   done)
              | (apply StepsD.pass
                 · first | (go_simp; done) | rfl
                 · simp only [Act.put, List.setIfInBounds_toArray, List.set_cons_succ, List.set_cons_zero]
                   rfl))
            refine StepsD.done ?_
            intro w' hS
            go_wp2
            go_ret
            exact ⟨by rw [HN.out (fun h => E2.out (HD.out.1 h).2)]; rfl, hBr.trans (hS.mono hsr)⟩
        · have b1 : (p1 == q1) = false := by simpa using e1
          have E1 := Lib.hid e1; clear e1
          go_wp2_with fail
          refine wp_region_b 9 (by kernel_rfl) (by kernel_rfl) ?_; simp only [List.take, List.drop]
          repeat (first
            | (apply StepsD.run
               · go_simp
                 done
               · intro w' hS K hK
                 have hc := (bcell hS).1
                 have hf := (bcell hS).2
                 have hz := hS.size
                 try simp at hz
                 go_simp
                 try go_bits
                 first
                   | exact hK _ hS
                   | exact hK _ (by repeat (first | (with_reducible exact Below.refl _ _) | (with_reducible assumption) | ((with_reducible refine Below.setCell ?_ ?_ _); rotate_left; · (first | exact Nat.le_refl _ | (simp; done) | (simp; omega) | omega)) | ((with_reducible refine Below.alloc ?_ ?_ _); rotate_left; · (first | exact Nat.le_refl _ | (simp; done) | (simp; omega) | omega)) | (with_reducible apply Below.drew) | (with_reducible apply below_drewN') | (refine Below.trans ?_ (Below.mono (by assumption) (by first | exact Nat.le_refl _ | (simp; done) | (simp; omega) | omega))) | exact Below.refl _ _ | assumption))
               · simp [Act.put]
                 done)
            | (apply StepsD.pass
               · first | (go_simp; done) | rfl
               · simp only [Act.put, List.setIfInBounds_toArray, List.set_cons_succ, List.set_cons_zero]
                 rfl))
          refine StepsD.done ?_
          intro w' hS
          go_wp2
          go_ret
          exact ⟨by rw [HN.out (fun h => E1.out (HD.out.1 h).1)]; rfl, hBr.trans (hS.mono hsr)⟩
      · obtain rfl : k = l.length := by omega
        have HE : Hid (decide (l = m) = true) := by
          refine Lib.hid ?_
          have := HK.out
          rw [List.take_length, HL.out, List.take_length] at this
          simpa using this
        go_wp2
        go_ret
        exact ⟨by rw [HE.out]; rfl, hBr⟩
  · have h1 : ((l.length : Int) != (m.length : Int)) = true := by simp; omega
    have HE : Hid (decide (l = m) = false) := by
      refine Lib.hid ?_
      simp only [decide_eq_false_iff_not]; intro e; subst e; exact hlm rfl
    go_enter Tryz.func18, Tryz.ntmps18
    go_wp2
    go_ret
    exact ⟨by rw [HE.out]; rfl, (by repeat (first | (with_reducible exact Below.refl _ _) | (with_reducible assumption) | ((with_reducible refine Below.setCell ?_ ?_ _); rotate_left; · (first | exact Nat.le_refl _ | (simp; done) | (simp; omega) | omega)) | ((with_reducible refine Below.alloc ?_ ?_ _); rotate_left; · (first | exact Nat.le_refl _ | (simp; done) | (simp; omega) | omega)) | (with_reducible apply Below.drew) | (with_reducible apply below_drewN') | (refine Below.trans ?_ (Below.mono (by assumption) (by first | exact Nat.le_refl _ | (simp; done) | (simp; omega) | omega))) | exact Below.refl _ _ | assumption))⟩

end Go.Proofs.YtmdbpkomanhpoaaGreatDoor

namespace Go.Proofs.YtmdbpkomanhpoaaGreatDoor
open Go.RowKit Go.Lib

theorem days_facts : ∃ bb q sec, (replV weldS daysL).1.ms = [⟨⟨#[109, 49]⟩, bb, 7, q, 1, 0, 0, sec⟩] := by
  obtain ⟨x, hx⟩ : ∃ x, (replV weldS daysL).1.ms = [x] := List.length_eq_one_iff.1 days_one
  have h := days_mark
  rw [hx] at h ⊢
  obtain ⟨⟨⟨d⟩⟩, bb, po, q, sta, row, dec, sec⟩ := x
  simp only [List.map_cons, List.map_nil, List.cons.injEq, Prod.mk.injEq, and_true] at h
  obtain ⟨h1, rfl, rfl, rfl, rfl⟩ := h
  subst h1
  exact ⟨bb, q, sec, rfl⟩
theorem days_value : replV weldS daysL = ((replV weldS daysL).1, 0, 0) := Prod.ext rfl (Prod.ext days_right1 days_right)
theorem day1_value : replV weldS (daysL.take 1) = ((replV weldS (daysL.take 1)).1, 0, 0) := Prod.ext rfl day1_right
set_option maxRecDepth 100000 in
set_option maxHeartbeats 4000000 in
theorem days_any (w : World) : Calls Tryz.prog 16 #[] w fun e w' => ∃ g, e = .returned (.slice (some ⟨g, 0, none⟩) 4 4) ∧ Blk w' g 36 (rowsC enF daysL).toArray ∧ Below w.heap.size w w' := by
  go_enter Tryz.func16, Tryz.ntmps16
  go_wp2
  go_ret
  exact ⟨_, rfl, Blk.new _ _ _, (Below.refl _ _).alloc (Nat.le_refl _) _⟩
theorem days_ok {w : World} {g : Nat} (b : Blk w g 36 (rowsC enF daysL).toArray) (c : Nat) : LogOk daysL (some ⟨g, 0, none⟩) c w.heap.size w :=
  ⟨rowOfB b rfl, Nat.le_refl _, by decide, by decide⟩
theorem day1_ok {w : World} {g : Nat} (b : Blk w g 36 (rowsC enF daysL).toArray) (c : Nat) : LogOk (daysL.take 1) (some ⟨g, 0, none⟩) c w.heap.size w :=
  ⟨⟨rfl, fun _ => ⟨g, 0, rfl, b.lt, fun j u hu => by
    rw [Nat.zero_add, b.cell j, List.getElem?_toArray]
    match j, hu with
    | 0, h => exact h
    | 1, h => exact h
    | _ + 2, h => simp [daysL, rowsC, enF] at h⟩⟩, Nat.le_refl _, by decide, by decide⟩
theorem ca_a : CaOk ⟨#[97]⟩ := fun W => by
  refine (Tryz.strings_ContainsAny_laid ⟨#[97]⟩ ⟨#[32, 10]⟩ W (by decide) (by decide) (fun j b h => ?_) (fun j b h => ?_)).mono fun e w' ⟨he, hb⟩ => ⟨by rw [he]; rfl, hb⟩
  · have hm : b ∈ ([97] : List UInt8) := List.mem_of_getElem? h
    simp at hm
    subst hm
    decide
  · have hm : b ∈ ([32, 10] : List UInt8) := List.mem_of_getElem? h
    simp at hm
    rcases hm with rfl | rfl <;> decide
end Go.Proofs.YtmdbpkomanhpoaaGreatDoor

namespace Go.Proofs.YtmdbpkomanhpoaaGreatDoor
open Go.RowKit Go.Lib

set_option maxRecDepth 100000 in
set_option maxHeartbeats 4000000 in
theorem awake10_any (w : World) (hL : LibW w) (hQ : Quant w) (hT : Tz w) (hW : WordsW w) : Calls Tryz.prog 4 #[] w fun e w' => e = .returned (.bool true) ∧ Below w.heap.size w w' := by
  have HF : Hid (∀ W, Below w.heap.size w W → LibW W ∧ Quant W ∧ Tz W ∧ WordsW W) := Lib.hid fun W h => ⟨hL.below h (Nat.le_refl _), hQ.below h (Nat.le_refl _), hT.below h (Nat.le_refl _), hW.below h (Nat.le_refl _)⟩
  clear hL hQ hT hW
  go_enter Tryz.func4, Tryz.ntmps4
  go_wp2_with fail
  refine (weld_any _).mono ?_
  rintro e w1 ⟨m, rfl, hs1, hB1⟩
  have HS1 := Lib.hid hs1; clear hs1
  go_wp2_with fail
  refine (days_any _).mono ?_
  rintro e w2 ⟨g2, rfl, b2, hB2⟩
  have hB3 : Below w.heap.size w w2 := hB1.trans (hB2.mono hB1.size)
  obtain ⟨bb, q, sec, hms⟩ := days_facts
  have HR : Hid (Calls Tryz.prog 14 #[.agg (seC weldS m), .slice (some ⟨g2, 0, none⟩) 4 4] w2 fun e w' => e = .returned (.tuple #[.string (strB (accL ⟨#[109, 49]⟩ 7 0 ++ (anewL ++ verdL))), .int .i64 0]) ∧ Below w2.heap.size w2 w') :=
    Lib.hid (report_one weldS m w1.heap.size daysL (some ⟨g2, 0, none⟩) 4 w2.heap.size w2 (HS1.out.below hB2 (Nat.le_refl _)) (days_ok b2 4) (HF.out _ hB3).1 (HF.out _ hB3).2.1 (HF.out _ hB3).2.2.1 (HF.out _ hB3).2.2.2 _ _ bb sec 7 0 q days_value hms (by decide) (by decide) (by decide +kernel) days_anew days_verdict)
  rw [days_text] at HR
  clear hms hB1 hB2 b2 HS1
  go_wp2_with fail
  refine HR.out.mono ?_
  rintro e w3 ⟨rfl, hB4⟩
  have hB5 : Below w.heap.size w w3 := hB3.trans (hB4.mono hB3.size)
  clear HR hB4 hB3
  have hB6 := hB5.alloc hB5.size (.cells #[.string ⟨#[97]⟩, .string ⟨#[]⟩] 36 (0, 0))
  have be := Blk.new w3 36 #[.string ⟨#[97]⟩, .string ⟨#[]⟩]
  have HSL : Hid (Calls Tryz.prog 17 #[.slice (some ⟨w3.heap.size, 0, none⟩) 1 1] (w3.alloc (.cells #[.string ⟨#[97]⟩, .string ⟨#[]⟩] 36)) fun e w' => e = .returned (.tuple #[.int .i64 (sealL [(⟨#[97]⟩, ⟨#[]⟩)] 1), .int .i64 0]) ∧ Below (w3.alloc (.cells #[.string ⟨#[97]⟩, .string ⟨#[]⟩] 36)).heap.size (w3.alloc (.cells #[.string ⟨#[97]⟩, .string ⟨#[]⟩] 36)) w') :=
    Lib.hid (seal_ok [(⟨#[97]⟩, ⟨#[]⟩)] (some ⟨w3.heap.size, 0, none⟩) 1 _ _ ⟨rowOfB be rfl, Nat.le_refl _, by decide, by decide⟩ (fun x hx => by obtain rfl := List.mem_singleton.1 hx; exact ca_a) (HF.out _ hB6).1 (by decide) ent_a)
  rw [seal_a] at HSL
  clear be
  go_wp2_with fail
  refine HSL.out.mono ?_
  rintro e w4 ⟨rfl, hB7⟩
  have hB8 : Below w.heap.size w w4 := hB6.trans (hB7.mono hB6.size)
  clear hB5 hB6 hB7 HSL
  go_wp2_with fail
  refine (weld_any _).mono ?_
  rintro e w5 ⟨m5, rfl, hs1, hB1⟩
  have HS1 := Lib.hid hs1; clear hs1
  go_wp2_with fail
  refine (days_any _).mono ?_
  rintro e w6 ⟨g6, rfl, b6, hB2⟩
  have hB3 : Below w.heap.size w w6 := hB8.trans ((hB1.trans (hB2.mono hB1.size)).mono hB8.size)
  have HAN : Hid (Calls Tryz.prog 10 #[.agg (seC weldS m5), .slice (some ⟨g6, 0, none⟩) 1 4] w6 fun e w' => ∃ v, e = .returned (.tuple #[v, .int .i64 0]) ∧ w'.ownsRow w6.heap.size 68 2 v (anewR weldS.tk (readsL (replV weldS (daysL.take 1)).1.sc)).length (rngsC (anewR weldS.tk (readsL (replV weldS (daysL.take 1)).1.sc))) ∧ Below w6.heap.size w6 w') :=
    Lib.hid (anewOf_right weldS m5 w5.heap.size (daysL.take 1) (some ⟨g6, 0, none⟩) 4 w6.heap.size w6 (HS1.out.below hB2 (Nat.le_refl _)) (day1_ok b6 4) (HF.out _ hB3).1 (HF.out _ hB3).2.1 (HF.out _ hB3).2.2.1 _ day1_value)
  rw [day1_anew] at HAN
  clear b6 HS1 hB1 hB2 hB8
  go_wp2_with fail
  refine HAN.out.mono ?_
  rintro e w7 ⟨v, rfl, hv, hB9⟩
  have hB10 : Below w.heap.size w w7 := hB3.trans (hB9.mono hB3.size)
  clear HAN hB9 hB3
  obtain ⟨A7, c7, rfl, _, _, hR⟩ := Row.ownd hv
  have hal : Gr w7 (w7.alloc (.cells #[.int .i64 0, .int .i64 20] 68)) := (Below.refl _ _).alloc (Nat.le_refl _) _
  have br := Blk.new w7 68 #[.int .i64 0, .int .i64 20]
  have hB11 := hB10.alloc hB10.size (.cells #[.int .i64 0, .int .i64 20] 68 (0, 0))
  have HRG := Lib.hid (ranges_any [(0, 20)] [(0, 20)] A7 (some ⟨w7.heap.size, 0, none⟩) c7 1 _ (w7.alloc (.cells #[.int .i64 0, .int .i64 20] 68)) (by decide) (by decide) ((hR.below hal (Nat.le_refl _)).more (Nat.le_of_lt br.lt)) (rowOfB br rfl) (Nat.le_refl _))
  rw [show decide (([(0, 20)] : List (Int × Int)) = [(0, 20)]) = true from by decide] at HRG
  clear hv hR hal br
  simp only [List.length_cons, List.length_nil, Nat.zero_add] at HRG ⊢
  go_wp2_with fail
  refine HRG.out.mono ?_
  rintro e w8 ⟨rfl, hB12⟩
  have hB13 : Below w.heap.size w w8 := hB11.trans (hB12.mono hB11.size)
  clear hB11 hB12 hB10 HRG
  go_wp2
  go_ret
  exact ⟨rfl, hB13⟩
end Go.Proofs.YtmdbpkomanhpoaaGreatDoor
