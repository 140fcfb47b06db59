/- The law TopScannedAnew. -/
import Derived.Test.YtfgeipapmdhneaaDoorTsJ
import Derived.Test.YtfgeipapmdhneaaDoorTsD
import Derived.Test.YtfgeipapmdhneaaDoorTsO
import Derived.Test.YtfgeipapmdhneaaDoorZsCwA
import Derived.Test.YtfgeipapmdhneaaDoorZsCyB
import Derived.Test.YtfgeipapmdhneaaDoorZsCwO
namespace Go.Proofs.YtfgeipapmdhneaaDoor
open Go.RowKit Go.Lib Go.Shelf

theorem frC_at : ∀ (ps : List Int) (vs : List Value) (i : Nat) (h : i < ps.length), ps.length = vs.length → (frC ps vs)[i * 3]? = some (.int .i64 ps[i])
  | p :: ps, v :: vs, 0, _, _ => rfl
  | p :: ps, v :: vs, i + 1, h, e => by
    have := frC_at ps vs i (by simpa using h) (by simpa using e)
    rw [show (i + 1) * 3 = i * 3 + 3 by omega]
    simpa [frC] using this
theorem frC_cell {w : World} {A : Option Addr} {B k i : Nat} {ps : List Int} {vs : List Value} (h : Row w B 3 A k (frC ps vs)) (hp : ps.length = k) (hv : vs.length = k) (hi : i < k) : ∃ g o, A = some ⟨g, o, none⟩ ∧ g < B ∧ w.cell? ⟨g, o + i * 3, none⟩ = some (.int .i64 (ps[i]'(by omega))) := by
  obtain ⟨g, o, e, hg, hc⟩ := h.2 (by omega)
  exact ⟨g, o, e, hg, hc _ _ (frC_at ps vs i (by omega) (by omega))⟩
theorem intsC_snoc (zs : List Int) (k : Nat) (h : k < zs.length) : intsC (zs.take (k + 1)) = intsC (zs.take k) ++ [.int .i64 zs[k]] := by
  rw [List.take_succ_eq_append_getElem h, intsC, List.map_append]; rfl
theorem Row.takeI {w : World} {B : Nat} {A : Option Addr} {n : Nat} {zs : List Int} (h : Row w B 1 A zs.length (intsC zs)) (hn : n ≤ zs.length) : Row w B 1 A (zs.take n).length (intsC (zs.take n)) := by
  refine ⟨by simp [intsC], fun h0 => ?_⟩
  rw [List.length_take] at h0
  obtain ⟨g, o, e, hg, hc⟩ := h.2 (by omega)
  refine ⟨g, o, e, hg, fun j v hj => hc j v ?_⟩
  have hj2 := (List.getElem?_eq_some_iff.1 hj).1
  simp only [intsC, List.length_map, List.length_take] at hj2
  rw [intsC, List.map_take, List.getElem?_take] at hj
  rwa [if_pos (by omega)] at hj

theorem saCap {w : World} {base e size n cap : Nat} {A : Option Addr} {xs : List Value} (h : w.ownsRow base e size (.slice A n cap) n xs) : cap ≤ 9223372036854775807 ∧ n ≤ cap ∧ (A = none → cap = 0) := by
  rcases h.2 with ⟨h1, rfl⟩ | ⟨g, cap', cur, h1, _, _, hn, hm, _⟩
  · simp at h1; omega
  · simp at h1
    obtain ⟨rfl, rfl⟩ := h1
    exact ⟨by simpa [maxLen] using hm, hn, by simp⟩
theorem openE_sub {t : Tk} {zs ys : List Int} (h : openE t zs = 0) (hs : ∀ p ∈ ys, p ∈ zs) (hl : ys.length ≤ zs.length) : openE t ys = 0 := by
  obtain ⟨h1, h2, h3⟩ := openE_zero h
  unfold openE readE
  rw [if_pos h1, if_neg (by omega), if_pos]
  rw [List.all_eq_true]
  intro p hp
  have := h3 p (hs p hp)
  simp [wi, this]
theorem anewR_ok {t : Tk} {zs : List Int} (h : openE t zs = 0) : anewR t zs = anewV t zs := by unfold anewR; rw [if_pos h]

set_option maxRecDepth 100000 in
set_option maxHeartbeats 8000000 in
theorem scannedAnew_any (t : Tk) (zs : List Int) (A : Option Addr) (c B : Nat) (cut : Int) (w : World) (hi : ∀ p ∈ zs, I64 p) (hR : Row w B 1 A zs.length (intsC zs)) (hB : B ≤ w.heap.size) (hA : A = none → c = 0) (hn : zs.length ≤ c) (hE : Ends w) :
    Calls Tryd.prog 3 #[.agg (tkC t), .slice A zs.length c, .int .i64 cut] w fun e w' => e = .returned (.bool true) ∧ Below w.heap.size w w' := by
  have HE := Lib.hid hE
  have HA := Lib.hid hA
  have HN := Lib.hid hn
  have HII := Lib.hid (And.intro hi (And.intro hR hB))
  clear hE hA hn hi hR hB
  obtain ⟨i0, hi, hz0, hz1, hz2⟩ := info_parts infoInt
  go_enter Tryd.func3, Tryd.ntmps3
  go_wp2_with fail
  have bt0 := Blk.new w 23 (tkC t)
  have hB0 : Below w.heap.size w (w.alloc (.cells (tkC t) 23)) := (Below.refl _ _).alloc (Nat.le_refl _) _
  refine (covering_any _ (HE.out.below hB0)).mono ?_
  rintro e w1 ⟨rfl, hB1⟩
  have bt1 := bt0.below hB1 bt0.lt
  replace hB0 := hB0.trans (hB1.mono (by simp))
  have c0 : w1.cell? ⟨w.heap.size, 0, none⟩ = some (.int .i64 t.frm) := bt1.cell 0
  have c1 : w1.cell? ⟨w.heap.size, 1, none⟩ = some (.int .i64 t.til) := bt1.cell 1
  have c2 : w1.cell? ⟨w.heap.size, 2, none⟩ = some (.int .i64 t.slip) := bt1.cell 2
  have c3 : w1.cell? ⟨w.heap.size, 3, none⟩ = some (.int .i64 t.reach) := bt1.cell 3
  have l1 := bt1.lt
  clear bt0 hB1
  by_cases hlen : 6 < zs.length
  · have hlI : (6 : Int) < (zs.length : Int) := by omega
    go_wp2_with fail
    go_ret
    exact ⟨rfl, hB0⟩
  · have hlI : ¬ (6 : Int) < (zs.length : Int) := by omega
    have HI : Hid (InOk zs A c B w) := Lib.hid ⟨by omega, HII.out.1, HII.out.2.1, HII.out.2.2⟩
    clear HII
    have HB := Lib.hid hB0
    clear hB0
    obtain ⟨te, hte⟩ : ∃ x, trackE t = x := ⟨_, rfl⟩
    obtain ⟨re, hre⟩ : ∃ x, readE zs = x := ⟨_, rfl⟩
    have HTE := Lib.hid hte
    have HRE := Lib.hid hre
    clear hte hre
    go_wp2_with fail
    refine (rCheckTrack_any t _).mono ?_
    rintro e w2 ⟨rfl, hB2⟩
    rw [HTE.out]
    have HB2 : Hid (Below w.heap.size w w2) := Lib.hid (HB.out.trans (hB2.mono (Below.size HB.out)))
    have bt2 := bt1.below hB2 l1
    clear hB2 bt1 c0 c1 c2 c3 l1 HB
    have c0 : w2.cell? ⟨w.heap.size, 0, none⟩ = some (.int .i64 t.frm) := bt2.cell 0
    have c1 : w2.cell? ⟨w.heap.size, 1, none⟩ = some (.int .i64 t.til) := bt2.cell 1
    have c2 : w2.cell? ⟨w.heap.size, 2, none⟩ = some (.int .i64 t.slip) := bt2.cell 2
    have c3 : w2.cell? ⟨w.heap.size, 3, none⟩ = some (.int .i64 t.reach) := bt2.cell 3
    have l2 := bt2.lt
    by_cases ht : te = 0
    · subst ht
      have hI2 : InOk zs A c B w2 := ⟨HI.out.1, HI.out.2, HI.out.3.below (HB2.out.mono HI.out.4) (Nat.le_refl _), Nat.le_trans HI.out.4 (Below.size HB2.out)⟩
      have HI2 := Lib.hid hI2
      clear hI2
      go_wp2_with fail
      refine (rReadingsErr_any zs A c B w2 HI2.out).mono ?_
      rintro e w3 ⟨rfl, hB3⟩
      rw [HRE.out]
      by_cases hr : re = 0
      · subst hr
        have HB3 : Hid (Below w.heap.size w w3) := Lib.hid (HB2.out.trans (hB3.mono (Below.size HB2.out)))
        have bt3 := bt2.below hB3 l2
        clear hB3 c0 c1 c2 c3 l2 bt2 HB2 HI2
        go_wp2_with fail
        have HO : Hid (trackE t = 0 ∧ openE t zs = 0) := Lib.hid (by have h1 := HTE.out; have h2 := HRE.out; refine ⟨h1, ?_⟩; unfold openE; rw [if_pos h1]; exact h2)
        have HZ : Hid (∀ p ∈ zs, -2000000 ≤ p ∧ p ≤ 2000000) := Lib.hid (openE_zero HO.out.2).2.2
        clear HTE HRE
        have hlI : (zs.length : Int) ≤ 6 := by omega
        have hle : zs.length ≤ 6 := by omega
        clear hlen
        unfold tkC at bt3
        go_loopw [7, 8] (fun s7 s8 wr => ∃ i : Nat, s8 = .int .i64 i ∧ i ≤ zs.length ∧ s7 = .string (strB (framesB (zs.take i))) ∧ Below w.heap.size w wr ∧ Blk wr w.heap.size 23 #[.int .i64 t.frm, .int .i64 t.til, .int .i64 t.slip, .int .i64 t.reach]) (fun _ s8 _ => zs.length - (RowKit.intOf s8).toNat)
        case atStart => exact ⟨0, rfl, Nat.zero_le _, rfl, HB3.out, bt3⟩
        case round =>
          clear bt3 HB3
          obtain ⟨i, rfl, hil, rfl, hB, bt⟩ := hrel
          have HB := Lib.hid hB
          clear hB
          by_cases hlt : i < zs.length
          · obtain ⟨g, o, hAe, hg, hc⟩ := (HI.out.row.below (HB.out.mono HI.out.base) (Nat.le_refl _)).2 (by omega)
            have hci := hc i _ (intsC_get zs i hlt)
            have hlg : g < wr.heap.size := by have := HI.out.base; have := Below.size HB.out; omega
            have hltI : (i : Int) < (zs.length : Int) := by omega
            have HP : Hid (-1000000000 ≤ zs[i] ∧ zs[i] ≤ 1000000000) := Lib.hid (by have := HZ.out _ (List.getElem_mem hlt); omega)
            obtain ⟨X, hX⟩ : ∃ X, strB (framesB (zs.take i)) = X := ⟨_, rfl⟩
            have hXs : X.size = 138 * i := by rw [← hX, strB_size, framesB_length, List.length_take]; omega
            obtain ⟨Y, hY⟩ : ∃ Y, strB (frameB zs[i]) = Y := ⟨_, rfl⟩
            have hYs : Y.size = 138 := by rw [← hY, strB_size, frameB_length]
            have HXY : Hid (X ++ Y = strB (framesB (zs.take (i + 1)))) := Lib.hid (by
              rw [← hX, ← hY, strB_append, List.take_succ_eq_append_getElem hlt, framesB_snoc])
            rw [hX]
            have HY := Lib.hid hY
            clear hX hY hc
            subst hAe
            go_upto_region 9 with fail
            refine saReg9 hci hlg hlt hle HP.out _ ?_
            intro t46 t47 t48 t49 t50 t51 t52 t53 t54 t55 t56 wx hGx
            rw [HY.out]
            have HBx : Hid (Below w.heap.size w wx) := Lib.hid (HB.out.trans (Below.mono hGx (Below.size HB.out)))
            replace bt := bt.gr hGx
            clear hci hlg hGx
            go_wp2_with fail
            exact ⟨⟨i + 1, by go_num, by omega, by rw [HXY.out], HBx.out, bt⟩, by simp [RowKit.intOf]; omega⟩
          · obtain rfl : i = zs.length := by omega
            rw [List.take_length]
            obtain ⟨X, hX⟩ : ∃ X, strB (framesB zs) = X := ⟨_, rfl⟩
            have hXs : X.size = 138 * zs.length := by rw [← hX, strB_size, framesB_length]
            have HXD : Hid (X.data.toList = framesB zs) := Lib.hid (by rw [← hX]; rfl)
            rw [hX]
            clear hX
            obtain ⟨m, hm, hm2⟩ : ∃ m : Nat, cut % (138 * (zs.length : Int) + 1) = (m : Int) ∧ m ≤ 138 * zs.length :=
              ⟨(cut % (138 * (zs.length : Int) + 1)).toNat, by have := Int.emod_nonneg cut (show (138 * (zs.length : Int) + 1) ≠ 0 by omega); omega, by have := Int.emod_lt_of_pos cut (show 0 < 138 * (zs.length : Int) + 1 by omega); omega⟩
            have HM := Lib.hid hm
            have hmI : (m : Int) ≤ (X.size : Int) := by omega
            have hmI2 : (m : Int) ≤ 138 * (zs.length : Int) := by omega
            clear hm
            go_wp2_with fail
            refine (mod_any _ _ ⟨by omega, by omega⟩ _).mono ?_
            rintro e wq ⟨rfl, rfl⟩
            rw [HM.out]
            go_wp2_with fail
            have hXe : (X.extract 0 m).data.toList = (framesB zs).take m := by
              rw [← HXD.out]
              simp only [ByteArray.data_extract, Array.toList_extract, List.extract_eq_take_drop, List.drop_zero, Nat.sub_zero]
            refine (frames_any (X.extract 0 m) zs m hXe hm2 (fun p hp => by have := HZ.out p hp; omega) hle _).mono ?_
            rintro e w5 ⟨v5, vs, rfl, hvs, own5, hB5⟩
            obtain ⟨k, hk⟩ : ∃ k, m / 138 = k := ⟨_, rfl⟩
            rw [hk] at hvs own5 ⊢
            have hkn : k ≤ zs.length := by omega
            obtain ⟨A5, c5, rfl, hR5⟩ := Row.own own5
            have HB5 : Hid (Below w.heap.size w w5) := Lib.hid (HB.out.trans (hB5.mono (Below.size HB.out)))
            replace bt := bt.gr hB5
            have kI : (k : Int) ≤ (zs.length : Int) := by omega
            have kI2 : (k : Int) ≤ 6 := by omega
            have kI3 : (0 : Int) ≤ 138 * (k : Int) := by omega
            clear hXe hk hmI hmI2 hm2 HM HXD hXs own5 HB hB5
            have d1 : decide (zs.length < k) = false := decide_eq_false (by omega)
            have d2 : decide (138 * (k : Int) < 0) = false := decide_eq_false (by omega)
            go_wp2_with fail
            clear kI3 d1 d2
            go_loopw [14, 15] (fun s14 s15 wx => ∃ i : Nat, s15 = .int .i64 i ∧ i ≤ k ∧ wx.ownsRow w5.heap.size 3 1 s14 i (intsC (zs.take i)) ∧ Gr w5 wx) (fun _ s15 _ => k - (RowKit.intOf s15).toNat)
            case atStart => exact ⟨0, rfl, Nat.zero_le _, World.ownsRow_nil _ _ _ _, Gr.refl _⟩
            case round =>
              obtain ⟨i, rfl, hik, own14, hG⟩ := hrel
              have hsr := Below.size hG
              by_cases hlt : i < k
              · obtain ⟨g5, o5, hA5, hg5, r5⟩ := frC_cell (hR5.below hG (Nat.le_refl _)) (by rw [List.length_take]; omega) hvs hlt
                rw [List.getElem_take] at r5
                have hS5 := Below.size HB5.out
                have hBB := HI.out.base
                obtain ⟨g, o, hAe, hg, hc⟩ := (HI.out.row.below ((HB5.out.trans (Below.mono hG hS5)).mono hBB) (Nat.le_refl _)).2 (by omega)
                have hci := hc i _ (intsC_get zs i (by omega))
                clear hc
                subst hA5 hAe
                have lg : g < wr.heap.size := by omega
                have lg5 : g5 < wr.heap.size := by omega
                have i0' : (0 : Int) ≤ (i : Int) := by omega
                have i1 : (i : Int) < (k : Int) := by omega
                have i2 : (i : Int) < (zs.length : Int) := by omega
                have HZT := Lib.hid (intsC_snoc zs i (by omega))
                generalize zs[i]'(by omega) = z at *
                have HG := Lib.hid hG
                have HO14 := Lib.hid (fun n => own_below own14 (below_drewN' (Below.refl wr.heap.size wr) n))
                clear hS5 hBB hg hg5 hsr own14 hG
                go_wp2_with fail
                go_quiet (fail)
                go_wp2_with (at_builtin; refine wpList_append_own _ rfl _ _ 24 rfl w5.heap.size 3 i0 (.int .i64 0) 1 8 Tryd.underlying24 hi hz0 hz1 hz2 rfl (by decide) _ _ _ rfl ((HO14.out _).alloc _) ⟨wr.heap.size, 0, none⟩ 1 1 [.int .i64 z] rfl rfl ?c1 ?c2 ?c3 ?c4 ?c5 ?_)
                case c1 => exact cell_one_new _ _ _
                case c2 => simp [Value.oneCell']
                case c3 => unfold maxLen; omega
                case c4 => omega
                case c5 => simp; have := Below.size HG.out; omega
                intro v' w6 hown' hgrow _
                have hB' : Gr w5 w6 := ((below_drewN' HG.out _).alloc (by simp; exact Below.size HG.out) _).grown hgrow (by simp; have := Below.size HG.out; omega) (fun g e => ((HO14.out 0).lt g e).1)
                go_wp2_with fail
                go_roundw
                case rel => exact ⟨i + 1, by go_num, by omega, by rw [HZT.out]; exact hown', hB'⟩
                case measure => simp [RowKit.intOf]; omega
              · obtain rfl : i = k := by omega
                obtain ⟨A14, c14, rfl, hR14⟩ := Row.own own14
                have hcap := saCap own14
                have HB7 : Hid (Below w.heap.size w wr) := Lib.hid (HB5.out.trans (Below.mono hG (Below.size HB5.out)))
                have HOy : Hid (openE t (zs.take i) = 0) := Lib.hid (openE_sub HO.out.2 (fun p hp => List.mem_of_mem_take hp) (by rw [List.length_take]; omega))
                have HWi : Hid (∀ r ∈ anewR t zs, ∃ q ∈ anewR t (zs.take i), q.1 ≤ r.1 ∧ r.2 ≤ q.2) := Lib.hid (by
                  rw [anewR_ok HO.out.2, anewR_ok HOy.out]
                  exact anew_within t zs (zs.take i) (trackE_zero HO.out.1).2.2.2.2 (fun p hp => List.mem_of_mem_take hp))
                have hLa : (anewR t zs).length ≤ 7 := by rw [anewR_ok HO.out.2]; have := anew_length t zs; omega
                have hLy : (anewR t (zs.take i)).length ≤ 7 := by rw [anewR_ok HOy.out]; have := anew_length t (zs.take i); rw [List.length_take] at this; omega
                have HI24 : Hid (∀ w', Below w.heap.size w w' → InOk (zs.take i) A c B w') := Lib.hid fun w' h => ⟨by rw [List.length_take]; omega, fun p hp => HI.out.i64 p (List.mem_of_mem_take hp), (HI.out.row.below (h.mono HI.out.base) (Nat.le_refl _)).takeI hkn, Nat.le_trans HI.out.base (Below.size h)⟩
                have HI25 : Hid (∀ w', Below w.heap.size w w' → InOk zs A c B w') := Lib.hid fun w' h => ⟨HI.out.len, HI.out.i64, HI.out.row.below (h.mono HI.out.base) (Nat.le_refl _), Nat.le_trans HI.out.base (Below.size h)⟩
                have hyl : (zs.take i).length = i := by rw [List.length_take]; omega
                have HI23 : Hid (∀ w', Gr wr w' → InOk (zs.take i) A14 c14 wr.heap.size w') := Lib.hid fun w' h => ⟨by rw [List.length_take]; omega, fun p hp => HI.out.i64 p (List.mem_of_mem_take hp), by rw [hyl]; exact hR14.below h (Nat.le_refl _), Below.size h⟩
                have HA14 := Lib.hid hcap.2.2
                replace bt := bt.gr hG
                clear own14 hcap hR14 hR5 hvs HZ
                generalize zs.take i = ys at *
                subst hyl
                have hyn := hkn
                have HE1 := Lib.hid HO.out.2
                clear HO
                go_upto_region 23 with fail
                refine saReg23 (t := t) (ys := ys) bt HI23 HA14 _ ?_
                intro t116 t117 t118 t119 t120 t121 t122 A16 c16 w8 hR16 hG8
                rw [HOy.out]
                replace bt := bt.gr hG8
                have HB8 : Hid (Below w.heap.size w w8) := Lib.hid (HB7.out.trans (Below.mono hG8 (Below.size HB7.out)))
                clear HI23 HA14
                go_upto_region 24 with fail
                refine saReg24 (t := t) (ys := ys) bt (Lib.hid fun w' h => HI24.out w' (HB8.out.trans (Below.mono h (Below.size HB8.out)))) HA hyn HN.out _ ?_
                intro t123 t124 t125 t126 t127 t128 t129 t130 t131 t132 A18 c18 w9 hR18 hG9
                rw [HOy.out]
                replace bt := bt.gr hG9
                have HB9 : Hid (Below w.heap.size w w9) := Lib.hid (HB8.out.trans (Below.mono hG9 (Below.size HB8.out)))
                clear HI24
                go_upto_region 25 with fail
                refine saReg25 (t := t) (ys := zs) bt (Lib.hid fun w' h => HI25.out w' (HB9.out.trans (Below.mono h (Below.size HB9.out)))) HA _ ?_
                intro t133 t134 t135 t136 t137 t138 t139 A20 c20 w10 hR20 hG10
                rw [HE1.out]
                have hS9 := Below.size hG9
                have hS10 := Below.size hG10
                replace hR16 := ((hR16.below hG9 (Nat.le_refl _)).below (Below.mono hG10 hS9) (Nat.le_refl _)).more (Nat.le_trans hS9 hS10)
                replace hR18 := (hR18.below hG10 (Nat.le_refl _)).more hS10
                have HB10 : Hid (Below w.heap.size w w10) := Lib.hid (HB9.out.trans (Below.mono hG10 (Below.size HB9.out)))
                clear HI25 bt hG9 hG10 hS9 hS10 HOy HE1
                generalize anewR t ys = M at *
                generalize anewR t zs = L at *
                have iM : (M.length : Int) ≤ 7 := by omega
                have iL : (L.length : Int) ≤ 7 := by omega
                go_wp2_with fail
                refine (ranges_any M M A16 A18 c16 c18 w10.heap.size _ (by omega) (by omega) hR16 hR18 (Nat.le_refl _)).mono ?_
                rw [decide_eq_true (rfl : M = M)]
                rintro e w11 ⟨rfl, hB11⟩
                replace hR16 := hR16.below hB11 (Nat.le_refl _)
                replace hR20 := hR20.below hB11 (Nat.le_refl _)
                have hS11 := Below.size hB11
                have HB11 : Hid (Below w.heap.size w w11) := Lib.hid (HB10.out.trans (hB11.mono (Below.size HB10.out)))
                clear hR18 hB11
                go_wp2_with fail
                have hl := saOut (c := c20) (c' := c16) hR20 hR16 hS11 hLa hLy
                unfold bodyOf at hl
                conv at hl in (Option.getD _ Code.skip) => whnf
                refine hl HWi _ ?_
                clear hl
                intro t6 t23 t24 t166 t167 t168 t169 t170 t171 t172 t173 t174 t175 t176 t177 t178 t179 t180 t181 t182 t183 t184 t185 t186 t187 t188 t189 t190 t191 t192 t193 t194 t195 t196 t197 t198 t199 t200 t201 t202 t203 w12 hG12
                have HB12 : Hid (Below w.heap.size w w12) := Lib.hid (HB11.out.trans (Below.mono hG12 (Below.size HB11.out)))
                clear hG12
                go_wp2_with fail
                go_ret
                exact ⟨rfl, HB12.out⟩
      · have hr2 : (re != 0) = true := by simpa using hr
        have hr3 : (re == 0) = false := by simpa using hr
        have HB3 : Hid (Below w.heap.size w w3) := Lib.hid (HB2.out.trans (hB3.mono (Below.size HB2.out)))
        go_wp2_with fail
        go_ret
        exact ⟨rfl, HB3.out⟩
    · have ht2 : (te != 0) = true := by simpa using ht
      have ht3 : (te == 0) = false := by simpa using ht
      go_wp2_with fail
      go_ret
      exact ⟨rfl, HB2.out⟩
end Go.Proofs.YtfgeipapmdhneaaDoor
