/- Contract: the reference's check of pairs, whole. -/
import Derived.Test.YtidgeagpgllkeaaGreatZdFpL
namespace Go.Proofs.YtidgeagpgllkeaaGreat
open Go.RowKit

theorem contains_any_map (l : List (Int × Int)) (f : Int × Int → Int) (x : Int) : (l.map f).contains x = l.any (fun q => decide (f q = x)) := by
  induction l with
  | nil => rfl
  | cons a l ih =>
    rw [List.map_cons, List.contains_cons, List.any_cons, ih]
    congr 1
    rw [Bool.eq_iff_iff]
    simp
    exact eq_comm
def prN (e : Int) (P : List (Int × Int)) : Int := if e = 0 then (P.length : Int) else 0

set_option maxRecDepth 100000 in
set_option maxHeartbeats 8000000 in
theorem refCheckPairs_any (l0 l1 : List Mk) (A0 A1 A2 : Option Addr) (c0 c1 c2 B : Nat) (slack : Int) (P : List (Int × Int)) (w : World) (h0 : MkOk l0 A0 B w) (h1 : MkOk l1 A1 B w) (hP : Row w B 2 A2 P.length (cellsC P)) (hB : B ≤ w.heap.size) (HS0 : Hid (∀ m ∈ l0, MkS m)) (HS1 : Hid (∀ m ∈ l1, MkS m)) (hn0 : l0.length ≤ 1000) (hn1 : l1.length ≤ 1000) (hPn : P.length ≤ 1000) :
    Calls Tryz.prog 77 #[.slice A0 l0.length c0, .slice A1 l1.length c1, .int .i64 slack, .slice A2 P.length c2] w fun e w' => e = .returned (.tuple #[.int .i64 (prN (pairsE l0.length l1.length (relV l0 l1 slack) P) P), .int .i64 (pairsE l0.length l1.length (relV l0 l1 slack) P)]) ∧ Below w.heap.size w w' := by
  obtain ⟨E, hE⟩ : ∃ E, pairsE l0.length l1.length (relV l0 l1 slack) P = E := ⟨_, rfl⟩
  obtain ⟨NN, hNN⟩ : ∃ N, prN E P = N := ⟨_, rfl⟩
  rw [hE, hNN]
  have HBAD : Hid (∀ (k : Nat) (p : Int × Int) (e : Int), (∀ j, j < k → pairsB l0.length l1.length (relV l0 l1 slack) P j = 0) → P[k]? = some p → pairB l0.length l1.length (relV l0 l1 slack) (P.take k) p = e → e ≠ 0 → E = e ∧ NN = 0) := Lib.hid (fun k p e hz hp he hn => by
    have hk : k < P.length := (List.getElem?_eq_some_iff.1 hp).1
    have h1 : E = e := by
      rw [← hE]
      unfold pairsE
      rw [firstBad_at hz (by rw [pairsB_at hp, he]; exact hn) hk, pairsB_at hp, he]
    exact ⟨h1, by rw [← hNN]; unfold prN; rw [h1, if_neg hn]⟩)
  have HGOOD : Hid ((∀ j, j < P.length → pairsB l0.length l1.length (relV l0 l1 slack) P j = 0) → E = 0 ∧ NN = P.length) := Lib.hid (fun hz => by
    have h1 : E = 0 := by rw [← hE]; exact firstBad_pre hz
    exact ⟨h1, by rw [← hNN]; unfold prN; rw [h1]; rfl⟩)
  clear hE hNN
  go_enter Tryz.func77, Tryz.ntmps77
  go_wp2
  go_loopw [10, 11, 12] (fun s10 s11 s12 wr => ∃ (k : Nat) (vF vS : Value), k ≤ P.length ∧ vF = s10 ∧ vS = s11 ∧ s12 = .int .i64 k ∧ Hid (∀ j, j < k → pairsB l0.length l1.length (relV l0 l1 slack) P j = 0) ∧ TwoI w k vF vS ((P.take k).map (·.1)) ((P.take k).map (·.2)) wr) (fun _ _ s12 _ => P.length - (intOf s12).toNat)
  case atStart => exact ⟨0, _, _, Nat.zero_le _, rfl, rfl, by go_num, Lib.hid (fun j hj => by omega), TwoI.start w⟩
  case round =>
    obtain ⟨k, vF, vS, hk, rfl, rfl, rfl, HZ, M⟩ := hrel
    have hx := M.below
    have hzx := Below.size hx
    by_cases hlt : k < P.length
    · obtain ⟨g, o, hA, hg, v0, v1⟩ := cellPair (hP.below hx hB) hlt
      obtain ⟨p, hp⟩ : ∃ p, P[k] = p := ⟨_, rfl⟩
      have hpk : P[k]? = some p := by rw [List.getElem?_eq_getElem hlt, hp]
      rw [hp] at v0 v1
      have HPK := Lib.hid hpk
      have hlg : g < wr.heap.size := by omega
      have i1 : ((k : Int) < (P.length : Int)) := by omega
      have H0R := Lib.hid h0; have H1R := Lib.hid h1
      subst hA
      clear hp hpk
      by_cases hin : (wi p.1 0 ((l0.length : Int) - 1) && wi p.2 0 ((l1.length : Int) - 1)) = true
      case neg =>
        have hin' : (wi p.1 0 ((l0.length : Int) - 1) && wi p.2 0 ((l1.length : Int) - 1)) = false := by simpa using hin
        obtain ⟨rfl, rfl⟩ := HBAD.out k p 6 HZ.out HPK.out (pairB_out hin') (by decide)
        have b13 := Blk.new wr 25 #[.int .i64 p.1, .int .i64 p.2]
        have hgA : Gr wr (wr.alloc (.cells #[.int .i64 p.1, .int .i64 p.2] 25)) := (Below.refl _ _).alloc (Nat.le_refl _) _
        have M1 := M.gr hgA
        go_wp2_with fail
        obtain ⟨wa, hwa⟩ : ∃ wa, wr.alloc (.cells #[.int .i64 p.1, .int .i64 p.2] 25) = wa := ⟨_, rfl⟩
        rw [hwa] at b13 M1 ⊢
        clear hwa hgA v0 v1 M hlg
        obtain ⟨x0, x1, x2⟩ := blk2c b13
        have lx := b13.lt
        have hbe := M1.below
        cases hw0 : wi p.1 0 ((l0.length : Int) - 1)
        · have Q0 := Lib.hid hw0
          clear hw0 hin hin'
          refine (bWithin_any _ _ _ _).mono ?_
          rw [Q0.out]
          rintro e w1 ⟨rfl, rfl⟩
          go_wp2
          go_ret2
          exact ⟨rfl, hbe⟩
        · have hw1 : wi p.2 0 ((l1.length : Int) - 1) = false := by rw [hw0] at hin'; simpa using hin'
          have Q0 := Lib.hid hw0
          have Q1 := Lib.hid hw1
          clear hw0 hw1 hin hin'
          refine (bWithin_any _ _ _ _).mono ?_
          rw [Q0.out]
          rintro e w1 ⟨rfl, rfl⟩
          go_wp2_with fail
          refine (bWithin_any _ _ _ _).mono ?_
          rw [Q1.out]
          rintro e w1 ⟨rfl, rfl⟩
          go_wp2
          go_ret2
          exact ⟨rfl, hbe⟩
      case pos =>
        obtain ⟨i, j, rfl, hi, hj⟩ : ∃ i j : Nat, p = ((i : Int), (j : Int)) ∧ i < l0.length ∧ j < l1.length := by
          obtain ⟨pa, pb⟩ := p
          simp [wi] at hin
          exact ⟨pa.toNat, pb.toNat, by rw [Prod.mk.injEq]; omega, by omega, by omega⟩
        have hw := hin
        rw [Bool.and_eq_true] at hw
        have Q0 := Lib.hid hw.1
        have Q1 := Lib.hid hw.2
        have HIN := Lib.hid hin
        dsimp only at v0 v1 Q0 Q1
        clear hin hw
        obtain ⟨AF, cF, hvF, hRF, _, _⟩ := own_row2 M.f
        obtain ⟨AS, cS, hvS, hRS, _, _⟩ := own_row2 M.s
        have hl0 : ((P.take k).map (·.1)).length = k := by simp; omega
        have hl1 : ((P.take k).map (·.2)).length = k := by simp; omega
        have b13 := Blk.new wr 25 #[.int .i64 (i : Int), .int .i64 (j : Int)]
        have hgA : Gr wr (wr.alloc (.cells #[.int .i64 (i : Int), .int .i64 (j : Int)] 25)) := (Below.refl _ _).alloc (Nat.le_refl _) _
        have M1 := M.gr hgA
        go_wp2_with fail
        obtain ⟨wa, hwa⟩ : ∃ wa, wr.alloc (.cells #[.int .i64 (i : Int), .int .i64 (j : Int)] 25) = wa := ⟨_, rfl⟩
        rw [hwa] at b13 M1 hgA ⊢
        have hgB := hgA
        clear hwa hgA v0 v1 M hlg
        obtain ⟨x0, x1, x2⟩ := blk2c b13
        have lx := b13.lt
        have hbe := M1.below
        have hRF' := hRF.below (show Below wr.heap.size wr wa from hgB) (Nat.le_refl _)
        have hRS' := hRS.below (show Below wr.heap.size wr wa from hgB) (Nat.le_refl _)
        have HH0 := Lib.hid (bHas_any ((P.take k).map (·.1)) AF cF wr.heap.size (i : Int) wa (by rw [hl0]; exact hRF') (by omega) (Below.size hgB))
        have HH1 := Lib.hid (bHas_any ((P.take k).map (·.2)) AS cS wr.heap.size (j : Int) wa (by rw [hl1]; exact hRS') (by omega) (Below.size hgB))
        rw [hl0, contains_any_map] at HH0
        rw [hl1, contains_any_map] at HH1
        subst hvF
        subst hvS
        clear hRF hRS hRF' hRS' hgB
        refine (bWithin_any _ _ _ _).mono ?_
        rw [Q0.out]
        rintro e w1 ⟨rfl, rfl⟩
        go_wp2_with fail
        refine (bWithin_any _ _ _ _).mono ?_
        rw [Q1.out]
        rintro e w1 ⟨rfl, rfl⟩
        go_wp2_with fail
        cases ha : (P.take k).any (fun q => decide (q.1 = (i : Int)))
        case true =>
          obtain ⟨rfl, rfl⟩ := HBAD.out k _ 24 HZ.out HPK.out (pairB_two HIN.out (by dsimp only; rw [ha]; rfl)) (by decide)
          refine (HH0.out).mono ?_
          rw [ha]
          rintro e w1 ⟨rfl, rfl⟩
          go_wp2
          go_ret2
          exact ⟨rfl, hbe⟩
        case false =>
        cases hb : (P.take k).any (fun q => decide (q.2 = (j : Int)))
        case true =>
          obtain ⟨rfl, rfl⟩ := HBAD.out k _ 24 HZ.out HPK.out (pairB_two HIN.out (by dsimp only; rw [ha, hb]; rfl)) (by decide)
          refine (HH0.out).mono ?_
          rw [ha]
          rintro e w1 ⟨rfl, rfl⟩
          go_wp2_with fail
          refine (HH1.out).mono ?_
          rw [hb]
          rintro e w1 ⟨rfl, rfl⟩
          go_wp2
          go_ret2
          exact ⟨rfl, hbe⟩
        case false =>
          have HNT : Hid (((P.take k).any (fun q => decide (q.1 = ((i : Int), (j : Int)).1)) || (P.take k).any (fun q => decide (q.2 = ((i : Int), (j : Int)).2))) = false) := Lib.hid (by dsimp only; rw [ha, hb]; rfl)
          refine (HH0.out).mono ?_
          rw [ha]
          rintro e w1 ⟨rfl, rfl⟩
          go_wp2_with fail
          refine (HH1.out).mono ?_
          rw [hb]
          rintro e w1 ⟨rfl, rfl⟩
          clear ha hb HH0 HH1
          have hzd := Below.size hbe
          obtain ⟨g0, o0, hA0, hgl0, y0, y1, y2, y3, y4, y5⟩ := mkCells (H0R.out.row.below hbe hB) hi
          obtain ⟨g1, o1, hA1, hgl1, e0, e1, e2, e3, e4, e5⟩ := mkCells (H1R.out.row.below hbe hB) hj
          have HSY : Hid (MkS l0[i]) := Lib.hid (HS0.out _ (List.getElem_mem hi))
          have HSX : Hid (MkS l1[j]) := Lib.hid (HS1.out _ (List.getElem_mem hj))
          have hR : relV l0 l1 slack (i : Int) (j : Int) = alikeV l0[i] l1[j] slack := by unfold relV; rw [Int.toNat_natCast, Int.toNat_natCast, List.getElem?_eq_getElem hi, List.getElem?_eq_getElem hj]; rfl
          obtain ⟨x, hx'⟩ : ∃ x, l1[j] = x := ⟨_, rfl⟩
          obtain ⟨y, hy'⟩ : ∃ y, l0[i] = y := ⟨_, rfl⟩
          rw [hx'] at e0 e1 e2 e3 e4 e5 HSX hR
          rw [hy'] at y0 y1 y2 y3 y4 y5 HSY hR
          clear hx' hy'
          subst hA0
          subst hA1
          have lg0 : g0 < wa.heap.size := by omega
          have lg1 : g1 < wa.heap.size := by omega
          have i2 : ((i : Int) < (l0.length : Int)) := by omega
          have j2 : ((j : Int) < (l1.length : Int)) := by omega
          cases hRk : relV l0 l1 slack (i : Int) (j : Int)
          · obtain ⟨rfl, rfl⟩ := HBAD.out k _ 18 HZ.out HPK.out (pairB_far HIN.out HNT.out hRk) (by decide)
            rw [hRk] at hR
            have HA : Hid (alikeV y x slack = false) := Lib.hid hR.symm
            clear hR hRk
            go_upto_region 10 with fail
            refine wp_region_b 13 (by kernel_rfl) (by kernel_rfl) ?_; simp only [List.take, List.drop]
            repeat (first
              | (apply StepsD.run
                 · go_simp
                   done
                 · intro w' hS K hK
                   have hc := (bcell hS).1
                   have hf := (bcell hS).2
                   have hz := hS.size
                   try simp at hz
                   go_simp
                   try go_bits
                   first
                     | exact hK _ hS
                     | (go_at_call 71; (with_reducible refine (refAlike_any y x slack HSY.out HSX.out _).mono ?_); rw [HA.out]; rintro e w1 ⟨rfl, hB1⟩; obtain ⟨hc1, hf1⟩ := bcell hB1; have hz1 := hB1.size; (try simp at hz1); exact hK _ (Below.trans hS (Below.mono hB1 (by first | exact Nat.le_refl _ | (simp; done) | (simp; omega) | omega))))
                     | exact hK _ (by repeat (first | (with_reducible exact Below.refl _ _) | (with_reducible assumption) | ((with_reducible refine Below.setCell ?_ ?_ _); rotate_left; · (first | exact Nat.le_refl _ | (simp; done) | (simp; omega) | omega)) | ((with_reducible refine Below.alloc ?_ ?_ _); rotate_left; · (first | exact Nat.le_refl _ | (simp; done) | (simp; omega) | omega)) | (with_reducible apply Below.drew) | (with_reducible apply below_drewN') | (refine Below.trans ?_ (Below.mono (by assumption) (by first | exact Nat.le_refl _ | (simp; done) | (simp; omega) | omega))) | exact Below.refl _ _ | assumption))
                 · simp [Act.put]
                   done)
              | (apply StepsD.pass
                 · go_simp
                   done
                 · simp only [Act.put, List.setIfInBounds_toArray, List.set_cons_succ, List.set_cons_zero]
                   rfl))
            refine StepsD.done ?_
            intro w2 hS
            go_wp2
            go_ret2
            exact ⟨rfl, hbe.trans (hS.mono (by omega))⟩
          · have HZN : Hid (∀ m, m < k + 1 → pairsB l0.length l1.length (relV l0 l1 slack) P m = 0) := Lib.hid (fun m hm => by
              by_cases e : m = k
              · subst e; rw [pairsB_at HPK.out]; exact pairB_fine HIN.out HNT.out hRk
              · exact HZ.out m (by omega))
            have htk : P.take (k + 1) = P.take k ++ [((i : Int), (j : Int))] := by rw [List.take_add_one, HPK.out]; rfl
            have HTK := Lib.hid htk
            rw [hRk] at hR
            have HA : Hid (alikeV y x slack = true) := Lib.hid hR.symm
            clear hR hRk htk
            go_upto_region 10 with fail
            refine wp_region_b 13 (by kernel_rfl) (by kernel_rfl) ?_; simp only [List.take, List.drop]
            repeat (first
              | (apply StepsD.run
                 · go_simp
                   done
                 · intro w' hS K hK
                   have hc := (bcell hS).1
                   have hf := (bcell hS).2
                   have hz := hS.size
                   try simp at hz
                   go_simp
                   try go_bits
                   first
                     | exact hK _ hS
                     | (go_at_call 71; (with_reducible refine (refAlike_any y x slack HSY.out HSX.out _).mono ?_); rw [HA.out]; rintro e w1 ⟨rfl, hB1⟩; obtain ⟨hc1, hf1⟩ := bcell hB1; have hz1 := hB1.size; (try simp at hz1); exact hK _ (Below.trans hS (Below.mono hB1 (by first | exact Nat.le_refl _ | (simp; done) | (simp; omega) | omega))))
                     | exact hK _ (by repeat (first | (with_reducible exact Below.refl _ _) | (with_reducible assumption) | ((with_reducible refine Below.setCell ?_ ?_ _); rotate_left; · (first | exact Nat.le_refl _ | (simp; done) | (simp; omega) | omega)) | ((with_reducible refine Below.alloc ?_ ?_ _); rotate_left; · (first | exact Nat.le_refl _ | (simp; done) | (simp; omega) | omega)) | (with_reducible apply Below.drew) | (with_reducible apply below_drewN') | (refine Below.trans ?_ (Below.mono (by assumption) (by first | exact Nat.le_refl _ | (simp; done) | (simp; omega) | omega))) | exact Below.refl _ _ | assumption))
                 · simp [Act.put]
                   done)
              | (apply StepsD.pass
                 · go_simp
                   done
                 · simp only [Act.put, List.setIfInBounds_toArray, List.set_cons_succ, List.set_cons_zero]
                   rfl))
            refine StepsD.done ?_
            intro w2 hS
            have M3 := M1.gr hS
            have b15 := b13.gr hS
            clear y0 y1 y2 y3 y4 y5 e0 e1 e2 e3 e4 e5 x0 x1 x2 lx lg0 lg1 M1 b13
            go_wp2_with fail
            go_upto_region 12 with fail
            refine rcpReg12 M3 (by omega) b15 _ ?_
            intro t63 t64 t65 t66 t67 t68 t69 t70 t71 t72 uF uS w4 M4
            have M5 : TwoI w (k + 1) uF uS ((P.take (k + 1)).map (·.1)) ((P.take (k + 1)).map (·.2)) w4 := by
              rw [HTK.out, List.map_append, List.map_append]; exact M4
            clear M4
            try go_wp2
            exact ⟨⟨k + 1, uF, uS, by omega, rfl, rfl, by go_num, HZN, M5⟩, by simp [intOf]; omega⟩
    · obtain rfl : k = P.length := by omega
      obtain ⟨rfl, rfl⟩ := HGOOD.out HZ.out
      go_wp2
      go_ret2
      exact ⟨rfl, hx⟩
end Go.Proofs.YtidgeagpgllkeaaGreat
