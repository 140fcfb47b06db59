/- Contract of the reference's face (a joint's further lines). -/
import Derived.Test.YtaekcfancfoccaaGreatDoorZmCuP
import Derived.Test.YtaekcfancfoccaaGreatDoorZmZkCwL
namespace Go.Proofs.YtaekcfancfoccaaGreatDoor
open Go.RowKit Go.Lib

theorem cap_of {w : World} {base e size n c : Nat} {A : Option Addr} {xs : List Value} (h : w.ownsRow base e size (.slice A n c) n xs) : n ≤ c ∧ c ≤ 9223372036854775807 := ⟨(own_cap h).2.1, (own_cap h).1⟩
def joF (j : Jo) : Option (ByteArray × Fc) → Jo
  | none => j
  | some p => { j with fs := j.fs ++ [p] }
set_option maxRecDepth 100000 in
set_option maxHeartbeats 8000000 in
theorem rFace_any (j : Jo) (ws : List (ByteArray × Int)) (AF A : Option Addr) (cf c B : Nat) (w : World) (hn : ws.length ≤ 1000000) (h0 : 0 < ws.length) (hs : ∀ p ∈ ws, p.1.size ≤ 1000000) (hR : Row w B 2 A ws.length (wsC ws))
    (hF : Row w B 5 AF j.fs.length (fcsC j.fs)) (hB : B ≤ w.heap.size) (hlen : j.fs.length ≤ 12) (hA : AF = none → cf = 0) :
    Calls Tryz.prog 46 #[.agg (joC j AF cf), .slice A ws.length c] w fun e w' => ∃ (A' : Option Addr) (c' : Nat), e = .returned (.tuple #[.agg (joC (joF j (faceP j ws).1) A' c'), .int .i64 ((faceP j ws).2.1 : Nat), .int .i64 (faceP j ws).2.2]) ∧
      ((faceP j ws).1 = none → A' = AF ∧ c' = cf) ∧ (∀ p, (faceP j ws).1 = some p → Row w' w'.heap.size 5 A' (j.fs.length + 1) (fcsC (j.fs ++ [p])) ∧ (A' = none → c' = 0) ∧ j.fs.length + 1 ≤ c' ∧ c' ≤ 9223372036854775807 ∧ ∀ a, A' = some a → w.heap.size ≤ a.block) ∧ Below w.heap.size w w' := by
  obtain ⟨g, o, rfl, hg, hall⟩ := wsCells' hR h0
  have c0 := (hall 0 h0).1
  have HALL := Lib.hid hall
  rw [Nat.zero_mul, Nat.add_zero] at c0
  have hgw : g < w.heap.size := by omega
  clear hall
  have HA := Lib.hid hA; have HF := Lib.hid hF
  clear hA hF
  have bj : Blk ((w.alloc (.cells #[.string j.nm, .int .i64 j.thick, .int .i64 j.zone, .slice AF j.fs.length cf] 24)).alloc (.cells #[.string ⟨#[]⟩, .int .i64 0, .int .i64 0, .slice none 0 0] 24)) w.heap.size 24 #[.string j.nm, .int .i64 j.thick, .int .i64 j.zone, .slice AF j.fs.length cf] := (Blk.new w _ _).alloc _
  have br : Blk ((w.alloc (.cells #[.string j.nm, .int .i64 j.thick, .int .i64 j.zone, .slice AF j.fs.length cf] 24)).alloc (.cells #[.string ⟨#[]⟩, .int .i64 0, .int .i64 0, .slice none 0 0] 24)) (w.heap.size + 1) 24 #[.string ⟨#[]⟩, .int .i64 0, .int .i64 0, .slice none 0 0] := Blk.new' _ _ _ (by simp)
  have hB0 : Below w.heap.size w ((w.alloc (.cells #[.string j.nm, .int .i64 j.thick, .int .i64 j.zone, .slice AF j.fs.length cf] 24)).alloc (.cells #[.string ⟨#[]⟩, .int .i64 0, .int .i64 0, .slice none 0 0] 24)) := (by repeat first | (with_reducible first | exact Below.refl _ _ | assumption) | ((with_reducible first | refine Below.setCell ?_ ?_ _ | refine Below.alloc ?_ ?_ _); rotate_left; · first | exact Nat.le_refl _ | (simp; done) | (simp; omega) | omega) | (with_reducible first | apply Below.drew | apply below_drewN') | refine Below.trans ?_ (Below.mono (by assumption) (by first | exact Nat.le_refl _ | (simp; done) | (simp; omega) | omega)) | exact Below.refl _ _ | assumption)
  unfold joC
  by_cases hj : (wordT ws 0).toList = [102, 97, 99, 101]
  · have g1 : ((wordT ws 0).toList == [102, 97, 99, 101]) = true := by rw [beq_iff_eq]; exact hj
    have HJ := Lib.hid hj
    clear hj
    go_enter Tryz.func46, Tryz.ntmps46
    go_wp2_with fail
    refine (form_any faceL ws _ c B _ (by decide) hn hs (hR.below hB0 hB) (by simp; omega)).mono ?_
    rintro e wf ⟨k, n, rfl, HFM, hB1⟩
    generalize ((w.alloc (.cells #[.string j.nm, .int .i64 j.thick, .int .i64 j.zone, .slice AF j.fs.length cf] 24)).alloc (.cells #[.string ⟨#[]⟩, .int .i64 0, .int .i64 0, .slice none 0 0] 24)) = W1 at *
    have lj0 := bj.lt
    have lr0 := br.lt
    replace bj := bj.below hB1 lj0
    replace br := br.below hB1 lr0
    have hBC := hB0.trans (hB1.mono (Below.size hB0))
    have HBC := Lib.hid hBC
    clear hB1 hB0 c0 lj0 lr0
    obtain ⟨j0, j1, j2, j3, jf⟩ := blk4 bj
    obtain ⟨d0, d1, d2, d3, df⟩ := blk4 br
    have lj := bj.lt
    have lr := br.lt
    by_cases hn0 : n = 0
    · subst hn0
      have hl6 : ws.length = 6 := formP_zero (L := faceL) 5 1 rfl (by rw [HFM.out]) (by decide) h0
      have HQ : Hid (faceP j ws = faceQ j (wordT ws 1) (numT ws 2) (numT ws 3) (numT ws 4) (numT ws 5)) := Lib.hid (by
        unfold faceP
        rw [if_neg (not_not_intro HJ.out), if_neg (by rw [HFM.out]; simp)]
        rfl)
      have hbe : ∀ j v, w.cell? ⟨g, j, none⟩ = some v → wf.cell? ⟨g, j, none⟩ = some v := fun j v h => (hBC.cell (p := ⟨g, j, none⟩) hgw).trans h
      have t1 := hbe _ _ (HALL.out 1 (by omega)).1
      have t2 := hbe _ _ (HALL.out 2 (by omega)).1
      have v2 := hbe _ _ (HALL.out 2 (by omega)).2
      have t3 := hbe _ _ (HALL.out 3 (by omega)).1
      have v3 := hbe _ _ (HALL.out 3 (by omega)).2
      have t4 := hbe _ _ (HALL.out 4 (by omega)).1
      have v4 := hbe _ _ (HALL.out 4 (by omega)).2
      have t5 := hbe _ _ (HALL.out 5 (by omega)).1
      have v5 := hbe _ _ (HALL.out 5 (by omega)).2
      simp only [Nat.reduceMul, Nat.add_assoc, Nat.reduceAdd] at t1 t2 v2 t3 v3 t4 v4 t5 v5
      have sz : ∀ j, j < ws.length → (wordT ws j).size ≤ 1000000 := fun j h => by rw [wordT_eq h]; exact hs _ (List.getElem_mem h)
      have s2 := sz 2 (by omega)
      have s3 := sz 3 (by omega)
      have s4 := sz 4 (by omega)
      have s5 := sz 5 (by omega)
      rw [show numT ws 2 = numW (wordT ws 2) from rfl, show numT ws 3 = numW (wordT ws 3) from rfl, show numT ws 4 = numW (wordT ws 4) from rfl, show numT ws 5 = numW (wordT ws 5) from rfl] at HQ
      have HFW := Lib.hid ((HF.out.below hBC hB).more (Nat.le_trans hB (Below.size hBC)))
      clear sz hbe HALL HJ HFM hs hR
      generalize ws[2].2 = q2 at *
      generalize ws[3].2 = q3 at *
      generalize ws[4].2 = q4 at *
      generalize ws[5].2 = q5 at *
      generalize wordT ws 1 = nm at *
      generalize wordT ws 2 = x2 at *
      generalize wordT ws 3 = x3 at *
      generalize wordT ws 4 = x4 at *
      generalize wordT ws 5 = x5 at *
      rw [hl6]
      clear hl6 hn h0
      have hgw1 : g < wf.heap.size := by have := Below.size hBC; omega
      clear hBC
      by_cases h12 : j.fs.length = 12
      · have HE : Hid (faceP j ws = (none, 0, 8)) := Lib.hid (by rw [HQ.out]; unfold faceQ; rw [if_pos h12])
        have g12 : ((j.fs.length : Int) == 12) = true := by simp [h12]
        have H12 := Lib.hid h12
        clear h12
        go_wp2_with fail
        have e6 := Blk.set4 br (.string j.nm) (.int .i64 j.thick) (.int .i64 j.zone) (.slice AF j.fs.length cf)
        have zB := Below.set4 (g := w.heap.size + 1) (u0 := .string j.nm) (u1 := .int .i64 j.thick) (u2 := .int .i64 j.zone) (u3 := .slice AF j.fs.length cf) HBC.out (Nat.le_succ _)
        obtain ⟨y0, y1, y2, y3, _⟩ := blk4 e6
        refine bodyPost_ret (v := .tuple #[.agg #[.string j.nm, .int .i64 j.thick, .int .i64 j.zone, .slice AF j.fs.length cf], .int .i64 0, .int .i64 8]) ?_ rfl ⟨AF, cf, by rw [HE.out]; rfl, fun _ => ⟨rfl, rfl⟩, fun p h => absurd (by rw [← h, HE.out]) (show ¬ (none : Option (ByteArray × Fc)) = some p from fun e => by cases e), zB⟩
        simp [results, Tryz.results46, go_sem, y0, y1, y2, y3]
      · have H12 := Lib.hid h12
        have g12 : ((j.fs.length : Int) == 12) = false := beq_eq_false_iff_ne.2 (by omega)
        clear h12
        go_wp2_with fail
        go_loopw [9] (fun s9 wr => ∃ i : Nat, s9 = .int .i64 i ∧ i ≤ j.fs.length ∧ Hid ((j.fs.take i).any (fun p => sameB p.1 nm) = false) ∧ Gr wf wr) (fun i _ => j.fs.length - (RowKit.intOf i).toNat)
        case atStart => exact ⟨0, rfl, by omega, Lib.hid rfl, Below.refl _ _⟩
        case round =>
          obtain ⟨i, rfl, hi, HM, hG⟩ := hrel
          have HG := Lib.hid hG
          have HBr := Lib.hid (HBC.out.trans (hG.mono HBC.out.size))
          have hWr := Below.size hG
          replace t1 := (hG.cell (p := ⟨g, o + 2, none⟩) hgw1).trans t1
          replace t2 := (hG.cell (p := ⟨g, o + 4, none⟩) hgw1).trans t2
          replace v2 := (hG.cell (p := ⟨g, o + 5, none⟩) hgw1).trans v2
          replace t3 := (hG.cell (p := ⟨g, o + 6, none⟩) hgw1).trans t3
          replace v3 := (hG.cell (p := ⟨g, o + 7, none⟩) hgw1).trans v3
          replace t4 := (hG.cell (p := ⟨g, o + 8, none⟩) hgw1).trans t4
          replace v4 := (hG.cell (p := ⟨g, o + 9, none⟩) hgw1).trans v4
          replace t5 := (hG.cell (p := ⟨g, o + 10, none⟩) hgw1).trans t5
          replace v5 := (hG.cell (p := ⟨g, o + 11, none⟩) hgw1).trans v5
          replace hgw1 : g < wr.heap.size := by omega
          replace bj := bj.gr hG
          replace br := br.gr hG
          replace HFW := Lib.hid ((HFW.out.below hG (Nat.le_refl _)).more (Below.size hG))
          clear j0 j1 j2 j3 jf d0 d1 d2 d3 df lj lr hG
          obtain ⟨j0, j1, j2, j3, jf⟩ := blk4 bj
          obtain ⟨d0, d1, d2, d3, df⟩ := blk4 br
          have lj := bj.lt
          have lr := br.lt
          by_cases hlt : i < j.fs.length
          · obtain ⟨ga, oa, rfl, hga, c0, _⟩ := faceCells HFW.out hlt
            have k0 : (0 : Int) ≤ (i : Int) := by omega
            have k1 : (i : Int) < (j.fs.length : Int) := by omega
            have HT := Lib.hid (any_take_snoc j.fs i hlt (fun p => sameB p.1 nm))
            cases hq : sameB j.fs[i].1 nm with
            | true =>
              have HE : Hid (faceP j ws = (none, 1, 5)) := Lib.hid (by
                rw [HQ.out]; unfold faceQ
                rw [if_neg H12.out, if_pos (any_of_take j.fs i hlt (fun p => sameB p.1 nm) hq)])
              unfold sameB at hq
              go_wp2_with fail
              refine wp_region_b 11 (by kernel_rfl) (by kernel_rfl) ?_; simp only [List.take, List.drop]
              repeat (first
                | (apply StepsD.run
                   · go_simp
                     done
                   · intro w' hS K hK
                     have hc := (bcell hS).1; have hf := (bcell hS).2; have hz := hS.size; (try simp at hz); go_simp; (try go_bits)
                     first
                       | exact hK _ hS
                       | exact hK _ (by repeat first | (with_reducible first | exact Below.refl _ _ | assumption) | ((with_reducible first | refine Below.setCell ?_ ?_ _ | refine Below.alloc ?_ ?_ _); rotate_left; · first | exact Nat.le_refl _ | (simp; done) | (simp; omega) | omega) | (with_reducible first | apply Below.drew | apply below_drewN') | refine Below.trans ?_ (Below.mono (by assumption) (by first | exact Nat.le_refl _ | (simp; done) | (simp; omega) | omega)) | exact Below.refl _ _ | assumption)
                   · simp [Act.put]
                     done)
                | (apply StepsD.pass
                   · first | (go_simp; done) | rfl
                   · simp only [Act.put, List.setIfInBounds_toArray, List.set_cons_succ, List.set_cons_zero]
                     rfl))
              refine StepsD.done ?_
              intro w4 hS
              replace br := br.gr hS
              replace bj := bj.gr hS
              have HB4 := Lib.hid (HBr.out.trans (hS.mono HBr.out.size))
              clear j0 j1 j2 j3 jf d0 d1 d2 d3 df lj lr hS c0
              obtain ⟨j0, j1, j2, j3, jf⟩ := blk4 bj
              obtain ⟨d0, d1, d2, d3, df⟩ := blk4 br
              have lj := bj.lt
              have lr := br.lt
              go_wp2
              have e6 := Blk.set4 br (.string j.nm) (.int .i64 j.thick) (.int .i64 j.zone) (.slice (some ⟨ga, oa, none⟩) j.fs.length cf)
              have zB := Below.set4 (g := w.heap.size + 1) (u0 := .string j.nm) (u1 := .int .i64 j.thick) (u2 := .int .i64 j.zone) (u3 := .slice (some ⟨ga, oa, none⟩) j.fs.length cf) HB4.out (Nat.le_succ _)
              obtain ⟨y0, y1, y2, y3, _⟩ := blk4 e6
              refine bodyPost_ret (v := .tuple #[.agg #[.string j.nm, .int .i64 j.thick, .int .i64 j.zone, .slice (some ⟨ga, oa, none⟩) j.fs.length cf], .int .i64 1, .int .i64 5]) ?_ rfl ⟨(some ⟨ga, oa, none⟩), cf, by rw [HE.out]; rfl, fun _ => ⟨rfl, rfl⟩, fun p h => absurd (by rw [← h, HE.out]) (show ¬ (none : Option (ByteArray × Fc)) = some p from fun e => by cases e), zB⟩
              simp [results, Tryz.results46, go_sem, y0, y1, y2, y3]
            | false =>
              have HQQ := Lib.hid hq
              unfold sameB at hq
              go_wp2_with fail
              refine wp_region_b 11 (by kernel_rfl) (by kernel_rfl) ?_; simp only [List.take, List.drop]
              repeat (first
                | (apply StepsD.run
                   · go_simp
                     done
                   · intro w' hS K hK
                     have hc := (bcell hS).1; have hf := (bcell hS).2; have hz := hS.size; (try simp at hz); go_simp; (try go_bits)
                     first
                       | exact hK _ hS
                       | exact hK _ (by repeat first | (with_reducible first | exact Below.refl _ _ | assumption) | ((with_reducible first | refine Below.setCell ?_ ?_ _ | refine Below.alloc ?_ ?_ _); rotate_left; · first | exact Nat.le_refl _ | (simp; done) | (simp; omega) | omega) | (with_reducible first | apply Below.drew | apply below_drewN') | refine Below.trans ?_ (Below.mono (by assumption) (by first | exact Nat.le_refl _ | (simp; done) | (simp; omega) | omega)) | exact Below.refl _ _ | assumption)
                   · simp [Act.put]
                     done)
                | (apply StepsD.pass
                   · first | (go_simp; done) | rfl
                   · simp only [Act.put, List.setIfInBounds_toArray, List.set_cons_succ, List.set_cons_zero]
                     rfl))
              refine StepsD.done ?_
              intro w4 hS
              go_wp2
              exact ⟨⟨i + 1, by go_num, by omega, Lib.hid (by rw [HT.out, HM.out, HQQ.out]; rfl), Gr.trans HG.out hS⟩, by (first | (simp [RowKit.intOf]; done) | (simp [RowKit.intOf]; omega))⟩
          · obtain rfl : i = j.fs.length := by omega
            have HANY : Hid (¬ j.fs.any (fun p => sameB p.1 nm) = true) := Lib.hid (by have := HM.out; rw [List.take_length] at this; rw [this]; simp)
            clear HM
            go_wp2_with fail
            refine wp_region_w (Gr _) (by kernel_rfl) (Below.refl _ _).drew ?_
            refine wpW_det (t' := ?ct0R1) 0 (by rfl) (by kernel_rfl) (NQ_free _) (by kernel_rfl) ?cw0R1 ?ch0R1 ?ca0R1 (Eq.refl _) ?cH0R1
            case cw0R1 => (go_simp; done)
            case ch0R1 =>
              intro ds w' hS K hK
              have hc := (bcell hS).1; have hf := (bcell hS).2; have hz := hS.size; (try simp at hz); go_simp; (try go_bits)
              first
                | exact hK _ hS (Gr.refl _)
                | (go_at_call 83; refine (number_w _ _ (by assumption) _).mono ?_; rintro e wq ⟨rfl, hBq⟩; exact hK _ (Below.trans hS (Below.mono hBq (Below.size hS))) hBq)
                | exact hK _ (hS.alloc hS.size _) ((Below.refl _ _).alloc (Nat.le_refl _) _)
            case ca0R1 => (first | (simp [Act.put]; done) | (simp [Act.put, *]; done))
            try dsimp only
            refine wpW_det (t' := ?ct1R1) 1 (by rfl) (by kernel_rfl) (NQ_free _) (by kernel_rfl) ?cw1R1 ?ch1R1 ?ca1R1 (Eq.refl _) ?cH1R1
            case cw1R1 => (go_simp; done)
            case ch1R1 =>
              intro ds w' hS K hK
              have hc := (bcell hS).1; have hf := (bcell hS).2; have hz := hS.size; (try simp at hz); go_simp; (try go_bits)
              first
                | exact hK _ hS (Gr.refl _)
                | (go_at_call 83; refine (number_w _ _ (by assumption) _).mono ?_; rintro e wq ⟨rfl, hBq⟩; exact hK _ (Below.trans hS (Below.mono hBq (Below.size hS))) hBq)
                | exact hK _ (hS.alloc hS.size _) ((Below.refl _ _).alloc (Nat.le_refl _) _)
            case ca1R1 => (first | (simp [Act.put]; done) | (simp [Act.put, *]; done))
            try dsimp only
            refine wpW_det (t' := ?ct2R1) 2 (by rfl) (by kernel_rfl) (NQ_free _) (by kernel_rfl) ?cw2R1 ?ch2R1 ?ca2R1 (Eq.refl _) ?cH2R1
            case cw2R1 => (go_simp; done)
            case ch2R1 =>
              intro ds w' hS K hK
              have hc := (bcell hS).1; have hf := (bcell hS).2; have hz := hS.size; (try simp at hz); go_simp; (try go_bits)
              first
                | exact hK _ hS (Gr.refl _)
                | (go_at_call 83; refine (number_w _ _ (by assumption) _).mono ?_; rintro e wq ⟨rfl, hBq⟩; exact hK _ (Below.trans hS (Below.mono hBq (Below.size hS))) hBq)
                | exact hK _ (hS.alloc hS.size _) ((Below.refl _ _).alloc (Nat.le_refl _) _)
            case ca2R1 => (first | (simp [Act.put]; done) | (simp [Act.put, *]; done))
            try dsimp only
            refine wpW_det (t' := ?ct3R1) 3 (by rfl) (by kernel_rfl) (NQ_free _) (by kernel_rfl) ?cw3R1 ?ch3R1 ?ca3R1 (Eq.refl _) ?cH3R1
            case cw3R1 => (go_simp; done)
            case ch3R1 =>
              intro ds w' hS K hK
              have hc := (bcell hS).1; have hf := (bcell hS).2; have hz := hS.size; (try simp at hz); go_simp; (try go_bits)
              first
                | exact hK _ hS (Gr.refl _)
                | (go_at_call 83; refine (number_w _ _ (by assumption) _).mono ?_; rintro e wq ⟨rfl, hBq⟩; exact hK _ (Below.trans hS (Below.mono hBq (Below.size hS))) hBq)
                | exact hK _ (hS.alloc hS.size _) ((Below.refl _ _).alloc (Nat.le_refl _) _)
            case ca3R1 => (first | (simp [Act.put]; done) | (simp [Act.put, *]; done))
            try dsimp only
            refine wpW_det (t' := ?ct4R1) 4 (by rfl) (by kernel_rfl) (NQ_free _) (by kernel_rfl) ?cw4R1 ?ch4R1 ?ca4R1 (Eq.refl _) ?cH4R1
            case cw4R1 => (go_simp; done)
            case ch4R1 =>
              intro ds w' hS K hK
              have hc := (bcell hS).1; have hf := (bcell hS).2; have hz := hS.size; (try simp at hz); go_simp; (try go_bits)
              first
                | exact hK _ hS (Gr.refl _)
                | (go_at_call 83; refine (number_w _ _ (by assumption) _).mono ?_; rintro e wq ⟨rfl, hBq⟩; exact hK _ (Below.trans hS (Below.mono hBq (Below.size hS))) hBq)
                | exact hK _ (hS.alloc hS.size _) ((Below.refl _ _).alloc (Nat.le_refl _) _)
            case ca4R1 => (first | (simp [Act.put]; done) | (simp [Act.put, *]; done))
            try dsimp only
            refine wpW_det (t' := ?ct5R1) 5 (by rfl) (by kernel_rfl) (NQ_free _) (by kernel_rfl) ?cw5R1 ?ch5R1 ?ca5R1 (Eq.refl _) ?cH5R1
            case cw5R1 => (go_simp; done)
            case ch5R1 =>
              intro ds w' hS K hK
              have hc := (bcell hS).1; have hf := (bcell hS).2; have hz := hS.size; (try simp at hz); go_simp; (try go_bits)
              first
                | exact hK _ hS (Gr.refl _)
                | (go_at_call 83; refine (number_w _ _ (by assumption) _).mono ?_; rintro e wq ⟨rfl, hBq⟩; exact hK _ (Below.trans hS (Below.mono hBq (Below.size hS))) hBq)
                | exact hK _ (hS.alloc hS.size _) ((Below.refl _ _).alloc (Nat.le_refl _) _)
            case ca5R1 => (first | (simp [Act.put]; done) | (simp [Act.put, *]; done))
            try dsimp only
            refine wpW_det (t' := ?ct6R1) 6 (by rfl) (by kernel_rfl) (NQ_free _) (by kernel_rfl) ?cw6R1 ?ch6R1 ?ca6R1 (Eq.refl _) ?cH6R1
            case cw6R1 => (go_simp; done)
            case ch6R1 =>
              intro ds w' hS K hK
              have hc := (bcell hS).1; have hf := (bcell hS).2; have hz := hS.size; (try simp at hz); go_simp; (try go_bits)
              first
                | exact hK _ hS (Gr.refl _)
                | (go_at_call 83; refine (number_w _ _ (by assumption) _).mono ?_; rintro e wq ⟨rfl, hBq⟩; exact hK _ (Below.trans hS (Below.mono hBq (Below.size hS))) hBq)
                | exact hK _ (hS.alloc hS.size _) ((Below.refl _ _).alloc (Nat.le_refl _) _)
            case ca6R1 => (first | (simp [Act.put]; done) | (simp [Act.put, *]; done))
            try dsimp only
            refine wpW_det (t' := ?ct7R1) 7 (by rfl) (by kernel_rfl) (NQ_free _) (by kernel_rfl) ?cw7R1 ?ch7R1 ?ca7R1 (Eq.refl _) ?cH7R1
            case cw7R1 => (go_simp; done)
            case ch7R1 =>
              intro ds w' hS K hK
              have hc := (bcell hS).1; have hf := (bcell hS).2; have hz := hS.size; (try simp at hz); go_simp; (try go_bits)
              first
                | exact hK _ hS (Gr.refl _)
                | (go_at_call 83; refine (number_w _ _ (by assumption) _).mono ?_; rintro e wq ⟨rfl, hBq⟩; exact hK _ (Below.trans hS (Below.mono hBq (Below.size hS))) hBq)
                | exact hK _ (hS.alloc hS.size _) ((Below.refl _ _).alloc (Nat.le_refl _) _)
            case ca7R1 => (first | (simp [Act.put]; done) | (simp [Act.put, *]; done))
            try dsimp only
            refine wpW_det (t' := ?ct8R1) 8 (by rfl) (by kernel_rfl) (NQ_free _) (by kernel_rfl) ?cw8R1 ?ch8R1 ?ca8R1 (Eq.refl _) ?cH8R1
            case cw8R1 => (go_simp; done)
            case ch8R1 =>
              intro ds w' hS K hK
              have hc := (bcell hS).1; have hf := (bcell hS).2; have hz := hS.size; (try simp at hz); go_simp; (try go_bits)
              first
                | exact hK _ hS (Gr.refl _)
                | (go_at_call 83; refine (number_w _ _ (by assumption) _).mono ?_; rintro e wq ⟨rfl, hBq⟩; exact hK _ (Below.trans hS (Below.mono hBq (Below.size hS))) hBq)
                | exact hK _ (hS.alloc hS.size _) ((Below.refl _ _).alloc (Nat.le_refl _) _)
            case ca8R1 => (first | (simp [Act.put]; done) | (simp [Act.put, *]; done))
            try dsimp only
            refine wpW_det (t' := ?ct9R1) 9 (by rfl) (by kernel_rfl) (NQ_free _) (by kernel_rfl) ?cw9R1 ?ch9R1 ?ca9R1 (Eq.refl _) ?cH9R1
            case cw9R1 => (go_simp; done)
            case ch9R1 =>
              intro ds w' hS K hK
              have hc := (bcell hS).1; have hf := (bcell hS).2; have hz := hS.size; (try simp at hz); go_simp; (try go_bits)
              first
                | exact hK _ hS (Gr.refl _)
                | (go_at_call 83; refine (number_w _ _ (by assumption) _).mono ?_; rintro e wq ⟨rfl, hBq⟩; exact hK _ (Below.trans hS (Below.mono hBq (Below.size hS))) hBq)
                | exact hK _ (hS.alloc hS.size _) ((Below.refl _ _).alloc (Nat.le_refl _) _)
            case ca9R1 => (first | (simp [Act.put]; done) | (simp [Act.put, *]; done))
            try dsimp only
            refine wpW_det (t' := ?ct10R1) 10 (by rfl) (by kernel_rfl) (NQ_free _) (by kernel_rfl) ?cw10R1 ?ch10R1 ?ca10R1 (Eq.refl _) ?cH10R1
            case cw10R1 => (go_simp; done)
            case ch10R1 =>
              intro ds w' hS K hK
              have hc := (bcell hS).1; have hf := (bcell hS).2; have hz := hS.size; (try simp at hz); go_simp; (try go_bits)
              first
                | exact hK _ hS (Gr.refl _)
                | (go_at_call 83; refine (number_w _ _ (by assumption) _).mono ?_; rintro e wq ⟨rfl, hBq⟩; exact hK _ (Below.trans hS (Below.mono hBq (Below.size hS))) hBq)
                | exact hK _ (hS.alloc hS.size _) ((Below.refl _ _).alloc (Nat.le_refl _) _)
            case ca10R1 => (first | (simp [Act.put]; done) | (simp [Act.put, *]; done))
            try dsimp only
            refine wpW_det (t' := ?ct11R1) 11 (by rfl) (by kernel_rfl) (NQ_free _) (by kernel_rfl) ?cw11R1 ?ch11R1 ?ca11R1 (Eq.refl _) ?cH11R1
            case cw11R1 => (go_simp; done)
            case ch11R1 =>
              intro ds w' hS K hK
              have hc := (bcell hS).1; have hf := (bcell hS).2; have hz := hS.size; (try simp at hz); go_simp; (try go_bits)
              first
                | exact hK _ hS (Gr.refl _)
                | (go_at_call 83; refine (number_w _ _ (by assumption) _).mono ?_; rintro e wq ⟨rfl, hBq⟩; exact hK _ (Below.trans hS (Below.mono hBq (Below.size hS))) hBq)
                | exact hK _ (hS.alloc hS.size _) ((Below.refl _ _).alloc (Nat.le_refl _) _)
            case ca11R1 => (first | (simp [Act.put]; done) | (simp [Act.put, *]; done))
            try dsimp only
            refine wpW_det (t' := ?ct12R1) 12 (by rfl) (by kernel_rfl) (NQ_free _) (by kernel_rfl) ?cw12R1 ?ch12R1 ?ca12R1 (Eq.refl _) ?cH12R1
            case cw12R1 => (go_simp; done)
            case ch12R1 =>
              intro ds w' hS K hK
              have hc := (bcell hS).1; have hf := (bcell hS).2; have hz := hS.size; (try simp at hz); go_simp; (try go_bits)
              first
                | exact hK _ hS (Gr.refl _)
                | (go_at_call 83; refine (number_w _ _ (by assumption) _).mono ?_; rintro e wq ⟨rfl, hBq⟩; exact hK _ (Below.trans hS (Below.mono hBq (Below.size hS))) hBq)
                | exact hK _ (hS.alloc hS.size _) ((Below.refl _ _).alloc (Nat.le_refl _) _)
            case ca12R1 => (first | (simp [Act.put]; done) | (simp [Act.put, *]; done))
            try dsimp only
            refine wpW_det (t' := ?ct13R1) 13 (by rfl) (by kernel_rfl) (NQ_free _) (by kernel_rfl) ?cw13R1 ?ch13R1 ?ca13R1 (Eq.refl _) ?cH13R1
            case cw13R1 => (go_simp; done)
            case ch13R1 =>
              intro ds w' hS K hK
              have hc := (bcell hS).1; have hf := (bcell hS).2; have hz := hS.size; (try simp at hz); go_simp; (try go_bits)
              first
                | exact hK _ hS (Gr.refl _)
                | (go_at_call 83; refine (number_w _ _ (by assumption) _).mono ?_; rintro e wq ⟨rfl, hBq⟩; exact hK _ (Below.trans hS (Below.mono hBq (Below.size hS))) hBq)
                | exact hK _ (hS.alloc hS.size _) ((Below.refl _ _).alloc (Nat.le_refl _) _)
            case ca13R1 => (first | (simp [Act.put]; done) | (simp [Act.put, *]; done))
            try dsimp only
            refine wpW_det (t' := ?ct14R1) 14 (by rfl) (by kernel_rfl) (NQ_free _) (by kernel_rfl) ?cw14R1 ?ch14R1 ?ca14R1 (Eq.refl _) ?cH14R1
            case cw14R1 => (go_simp; done)
            case ch14R1 =>
              intro ds w' hS K hK
              have hc := (bcell hS).1; have hf := (bcell hS).2; have hz := hS.size; (try simp at hz); go_simp; (try go_bits)
              first
                | exact hK _ hS (Gr.refl _)
                | (go_at_call 83; refine (number_w _ _ (by assumption) _).mono ?_; rintro e wq ⟨rfl, hBq⟩; exact hK _ (Below.trans hS (Below.mono hBq (Below.size hS))) hBq)
                | exact hK _ (hS.alloc hS.size _) ((Below.refl _ _).alloc (Nat.le_refl _) _)
            case ca14R1 => (first | (simp [Act.put]; done) | (simp [Act.put, *]; done))
            try dsimp only
            refine wpW_det (t' := ?ct15R1) 15 (by rfl) (by kernel_rfl) (NQ_free _) (by kernel_rfl) ?cw15R1 ?ch15R1 ?ca15R1 (Eq.refl _) ?cH15R1
            case cw15R1 => (go_simp; done)
            case ch15R1 =>
              intro ds w' hS K hK
              have hc := (bcell hS).1; have hf := (bcell hS).2; have hz := hS.size; (try simp at hz); go_simp; (try go_bits)
              first
                | exact hK _ hS (Gr.refl _)
                | (go_at_call 83; refine (number_w _ _ (by assumption) _).mono ?_; rintro e wq ⟨rfl, hBq⟩; exact hK _ (Below.trans hS (Below.mono hBq (Below.size hS))) hBq)
                | exact hK _ (hS.alloc hS.size _) ((Below.refl _ _).alloc (Nat.le_refl _) _)
            case ca15R1 => (first | (simp [Act.put]; done) | (simp [Act.put, *]; done))
            try dsimp only
            refine wpW_det (t' := ?ct16R1) 16 (by rfl) (by kernel_rfl) (NQ_free _) (by kernel_rfl) ?cw16R1 ?ch16R1 ?ca16R1 (Eq.refl _) ?cH16R1
            case cw16R1 => (go_simp; done)
            case ch16R1 =>
              intro ds w' hS K hK
              have hc := (bcell hS).1; have hf := (bcell hS).2; have hz := hS.size; (try simp at hz); go_simp; (try go_bits)
              first
                | exact hK _ hS (Gr.refl _)
                | (go_at_call 83; refine (number_w _ _ (by assumption) _).mono ?_; rintro e wq ⟨rfl, hBq⟩; exact hK _ (Below.trans hS (Below.mono hBq (Below.size hS))) hBq)
                | exact hK _ (hS.alloc hS.size _) ((Below.refl _ _).alloc (Nat.le_refl _) _)
            case ca16R1 => (first | (simp [Act.put]; done) | (simp [Act.put, *]; done))
            try dsimp only
            refine wpW_det (t' := ?ct17R1) 17 (by rfl) (by kernel_rfl) (NQ_free _) (by kernel_rfl) ?cw17R1 ?ch17R1 ?ca17R1 (Eq.refl _) ?cH17R1
            case cw17R1 => (go_simp; done)
            case ch17R1 =>
              intro ds w' hS K hK
              have hc := (bcell hS).1; have hf := (bcell hS).2; have hz := hS.size; (try simp at hz); go_simp; (try go_bits)
              first
                | exact hK _ hS (Gr.refl _)
                | (go_at_call 83; refine (number_w _ _ (by assumption) _).mono ?_; rintro e wq ⟨rfl, hBq⟩; exact hK _ (Below.trans hS (Below.mono hBq (Below.size hS))) hBq)
                | exact hK _ (hS.alloc hS.size _) ((Below.refl _ _).alloc (Nat.le_refl _) _)
            case ca17R1 => (first | (simp [Act.put]; done) | (simp [Act.put, *]; done))
            try dsimp only
            refine wpW_det (t' := ?ct18R1) 18 (by rfl) (by kernel_rfl) (NQ_free _) (by kernel_rfl) ?cw18R1 ?ch18R1 ?ca18R1 (Eq.refl _) ?cH18R1
            case cw18R1 => (go_simp; done)
            case ch18R1 =>
              intro ds w' hS K hK
              have hc := (bcell hS).1; have hf := (bcell hS).2; have hz := hS.size; (try simp at hz); go_simp; (try go_bits)
              first
                | exact hK _ hS (Gr.refl _)
                | (go_at_call 83; refine (number_w _ _ (by assumption) _).mono ?_; rintro e wq ⟨rfl, hBq⟩; exact hK _ (Below.trans hS (Below.mono hBq (Below.size hS))) hBq)
                | exact hK _ (hS.alloc hS.size _) ((Below.refl _ _).alloc (Nat.le_refl _) _)
            case ca18R1 => (first | (simp [Act.put]; done) | (simp [Act.put, *]; done))
            try dsimp only
            refine wpW_det (t' := ?ct19R1) 19 (by rfl) (by kernel_rfl) (NQ_free _) (by kernel_rfl) ?cw19R1 ?ch19R1 ?ca19R1 (Eq.refl _) ?cH19R1
            case cw19R1 => (go_simp; done)
            case ch19R1 =>
              intro ds w' hS K hK
              have hc := (bcell hS).1; have hf := (bcell hS).2; have hz := hS.size; (try simp at hz); go_simp; (try go_bits)
              first
                | exact hK _ hS (Gr.refl _)
                | (go_at_call 83; refine (number_w _ _ (by assumption) _).mono ?_; rintro e wq ⟨rfl, hBq⟩; exact hK _ (Below.trans hS (Below.mono hBq (Below.size hS))) hBq)
                | exact hK _ (hS.alloc hS.size _) ((Below.refl _ _).alloc (Nat.le_refl _) _)
            case ca19R1 => (first | (simp [Act.put]; done) | (simp [Act.put, *]; done))
            try dsimp only
            refine wpW_det (t' := ?ct20R1) 20 (by rfl) (by kernel_rfl) (NQ_free _) (by kernel_rfl) ?cw20R1 ?ch20R1 ?ca20R1 (Eq.refl _) ?cH20R1
            case cw20R1 => (go_simp; done)
            case ch20R1 =>
              intro ds w' hS K hK
              have hc := (bcell hS).1; have hf := (bcell hS).2; have hz := hS.size; (try simp at hz); go_simp; (try go_bits)
              first
                | exact hK _ hS (Gr.refl _)
                | (go_at_call 83; refine (number_w _ _ (by assumption) _).mono ?_; rintro e wq ⟨rfl, hBq⟩; exact hK _ (Below.trans hS (Below.mono hBq (Below.size hS))) hBq)
                | exact hK _ (hS.alloc hS.size _) ((Below.refl _ _).alloc (Nat.le_refl _) _)
            case ca20R1 => (first | (simp [Act.put]; done) | (simp [Act.put, *]; done))
            try dsimp only
            refine wpW_det (t' := ?ct21R1) 21 (by rfl) (by kernel_rfl) (NQ_free _) (by kernel_rfl) ?cw21R1 ?ch21R1 ?ca21R1 (Eq.refl _) ?cH21R1
            case cw21R1 => (go_simp; done)
            case ch21R1 =>
              intro ds w' hS K hK
              have hc := (bcell hS).1; have hf := (bcell hS).2; have hz := hS.size; (try simp at hz); go_simp; (try go_bits)
              first
                | exact hK _ hS (Gr.refl _)
                | (go_at_call 83; refine (number_w _ _ (by assumption) _).mono ?_; rintro e wq ⟨rfl, hBq⟩; exact hK _ (Below.trans hS (Below.mono hBq (Below.size hS))) hBq)
                | exact hK _ (hS.alloc hS.size _) ((Below.refl _ _).alloc (Nat.le_refl _) _)
            case ca21R1 => (first | (simp [Act.put]; done) | (simp [Act.put, *]; done))
            try dsimp only
            refine wpW_det (t' := ?ct22R1) 22 (by rfl) (by kernel_rfl) (NQ_free _) (by kernel_rfl) ?cw22R1 ?ch22R1 ?ca22R1 (Eq.refl _) ?cH22R1
            case cw22R1 => (go_simp; done)
            case ch22R1 =>
              intro ds w' hS K hK
              have hc := (bcell hS).1; have hf := (bcell hS).2; have hz := hS.size; (try simp at hz); go_simp; (try go_bits)
              first
                | exact hK _ hS (Gr.refl _)
                | (go_at_call 83; refine (number_w _ _ (by assumption) _).mono ?_; rintro e wq ⟨rfl, hBq⟩; exact hK _ (Below.trans hS (Below.mono hBq (Below.size hS))) hBq)
                | exact hK _ (hS.alloc hS.size _) ((Below.refl _ _).alloc (Nat.le_refl _) _)
            case ca22R1 => (first | (simp [Act.put]; done) | (simp [Act.put, *]; done))
            try dsimp only
            clear j0 j1 j2 j3 jf d0 d1 d2 d3 df
            refine wpW_branch [23] (by kernel_rfl) (by simp) ?_
            intro w1 hg1 hS1
            try replace z := Blk.gr z hg1
            try (have zz := blk5 z; obtain ⟨z0, z1, z2, z3, z4, zf⟩ := zz)
            try have lz := z.lt
            refine each_cons ?_ (each_nil)
            · refine wpOp_go (by rfl) (Eq.refl _) (by go_simp; done) ?_
              intro K hK
              go_simp
              try simp only [Act.put]
              have z := Blk.new w1 83 #[.string ⟨#[]⟩, .int .i64 0, .int .i64 0, .int .i64 0, .int .i64 0]
              have hzp := Below.size hS1
              refine hK _ _ (Below.alloc hS1 (Below.size hS1) _) ?_
              clear hK K
              generalize w1.heap.size = gz at *
              refine wpW_branch [24] (by kernel_rfl) (by simp) ?_
              intro w2 hg2 hS2
              try replace z := Blk.gr z hg2
              try (have zz := blk5 z; obtain ⟨z0, z1, z2, z3, z4, zf⟩ := zz)
              try have lz := z.lt
              refine each_cons ?_ (each_nil)
              · refine wpOp_go (by rfl) (Eq.refl _) (by go_simp; done) ?_
                intro K hK
                go_simp
                try simp only [Act.put]
                have z := Blk.set5 z (.string nm) (.int .i64 (numW x2)) (.int .i64 (numW x3)) (.int .i64 (numW x4)) (.int .i64 (numW x5))
                refine hK _ _ (Below.set5 hS2 hzp) ?_
                clear hK K z0 z1 z2 z3 z4 zf
                refine wpW_end (by kernel_rfl) ?_
                intro we hg hS
                unfold NQ
                dsimp only
                replace z := Blk.gr z hg
                have HBe := Lib.hid (HBr.out.trans (hS.mono HBr.out.size))
                have hWe := Below.size hS
                replace t1 := (hS.cell (p := ⟨g, o + 2, none⟩) hgw1).trans t1
                replace t2 := (hS.cell (p := ⟨g, o + 4, none⟩) hgw1).trans t2
                replace v2 := (hS.cell (p := ⟨g, o + 5, none⟩) hgw1).trans v2
                replace t3 := (hS.cell (p := ⟨g, o + 6, none⟩) hgw1).trans t3
                replace v3 := (hS.cell (p := ⟨g, o + 7, none⟩) hgw1).trans v3
                replace t4 := (hS.cell (p := ⟨g, o + 8, none⟩) hgw1).trans t4
                replace v4 := (hS.cell (p := ⟨g, o + 9, none⟩) hgw1).trans v4
                replace t5 := (hS.cell (p := ⟨g, o + 10, none⟩) hgw1).trans t5
                replace v5 := (hS.cell (p := ⟨g, o + 11, none⟩) hgw1).trans v5
                replace hgw1 : g < we.heap.size := by omega
                replace bj := bj.gr hS
                replace br := br.gr hS
                have HFE := Lib.hid ((HFW.out.below hS (Nat.le_refl _)).more (Below.size hS))
                clear lj lr hS hg
                obtain ⟨j0, j1, j2, j3, jf⟩ := blk4 bj
                obtain ⟨d0, d1, d2, d3, df⟩ := blk4 br
                have lj := bj.lt
                have lr := br.lt
                have HZ := Lib.hid z
                clear z
                go_wp2_with fail
                go_loopw [11] (fun s11 wx => ∃ i : Int, s11 = .int .i64 i ∧ (i = 2 ∨ i = 3 ∨ i = 4 ∨ i = 5 ∨ i = 6) ∧ Hid (3 ≤ i → wi (numW x2) (-20000) 20000 = true) ∧ Hid (4 ≤ i → wi (numW x3) 0 j.thick = true) ∧ Hid (5 ≤ i → wi (numW x4) (-20000) 20000 = true) ∧ Hid (6 ≤ i → wi (numW x5) 0 j.thick = true) ∧ Gr we wx) (fun i _ => 6 - (RowKit.intOf i).toNat)
                case atStart => exact ⟨2, rfl, .inl rfl, Lib.hid (fun h => absurd h (by omega)), Lib.hid (fun h => absurd h (by omega)), Lib.hid (fun h => absurd h (by omega)), Lib.hid (fun h => absurd h (by omega)), Below.refl _ _⟩
                case round =>
                  obtain ⟨i, rfl, hi, K0, K1, K2, K3, hG⟩ := hrel
                  have HG := Lib.hid hG
                  have HBx := Lib.hid (HBe.out.trans (hG.mono HBe.out.size))
                  have hWx := Below.size hG
                  replace t1 := (hG.cell (p := ⟨g, o + 2, none⟩) hgw1).trans t1
                  replace t2 := (hG.cell (p := ⟨g, o + 4, none⟩) hgw1).trans t2
                  replace v2 := (hG.cell (p := ⟨g, o + 5, none⟩) hgw1).trans v2
                  replace t3 := (hG.cell (p := ⟨g, o + 6, none⟩) hgw1).trans t3
                  replace v3 := (hG.cell (p := ⟨g, o + 7, none⟩) hgw1).trans v3
                  replace t4 := (hG.cell (p := ⟨g, o + 8, none⟩) hgw1).trans t4
                  replace v4 := (hG.cell (p := ⟨g, o + 9, none⟩) hgw1).trans v4
                  replace t5 := (hG.cell (p := ⟨g, o + 10, none⟩) hgw1).trans t5
                  replace v5 := (hG.cell (p := ⟨g, o + 11, none⟩) hgw1).trans v5
                  replace hgw1 : g < wr.heap.size := by omega
                  replace bj := bj.gr hG
                  replace br := br.gr hG
                  replace HFE := Lib.hid ((HFE.out.below hG (Nat.le_refl _)).more (Below.size hG))
                  replace HZ := Lib.hid (HZ.out.gr hG)
                  clear j0 j1 j2 j3 jf d0 d1 d2 d3 df lj lr hG
                  obtain ⟨j0, j1, j2, j3, jf⟩ := blk4 bj
                  obtain ⟨d0, d1, d2, d3, df⟩ := blk4 br
                  have lj := bj.lt
                  have lr := br.lt
                  rcases hi with rfl | rfl | rfl | rfl | rfl
                  · have hsplit : wi (numW x2) (-20000) 20000 = false ∨ wi (numW x2) (-20000) 20000 = true := by cases wi (numW x2) (-20000) 20000 <;> simp
                    go_wp2_with fail
                    refine wp_region_b 4 (by kernel_rfl) (by kernel_rfl) ?_; simp only [List.take, List.drop]
                    repeat (first
                      | (apply StepsD.run
                         · go_simp
                           done
                         · intro w' hS K hK
                           have hc := (bcell hS).1; have hf := (bcell hS).2; have hz := hS.size; (try simp at hz); go_simp; (try go_bits)
                           first
                             | exact hK _ hS
                             | exact hK _ (by repeat first | (with_reducible first | exact Below.refl _ _ | assumption) | ((with_reducible first | refine Below.setCell ?_ ?_ _ | refine Below.alloc ?_ ?_ _); rotate_left; · first | exact Nat.le_refl _ | (simp; done) | (simp; omega) | omega) | (with_reducible first | apply Below.drew | apply below_drewN') | refine Below.trans ?_ (Below.mono (by assumption) (by first | exact Nat.le_refl _ | (simp; done) | (simp; omega) | omega)) | exact Below.refl _ _ | assumption)
                         · simp [Act.put]
                           done)
                      | (apply StepsD.pass
                         · first | (go_simp; done) | rfl
                         · simp only [Act.put, List.setIfInBounds_toArray, List.set_cons_succ, List.set_cons_zero]
                           rfl))
                    refine StepsD.done ?_
                    intro w4 hS
                    have HB4 := Lib.hid (HBx.out.trans (hS.mono HBx.out.size))
                    have HG4 := Lib.hid (Gr.trans HG.out hS)
                    have hW4 := Below.size hS
                    replace t2 := (hS.cell (p := ⟨g, o + 4, none⟩) hgw1).trans t2
                    replace v2 := (hS.cell (p := ⟨g, o + 5, none⟩) hgw1).trans v2
                    replace hgw1 : g < w4.heap.size := by omega
                    replace bj := bj.gr hS
                    replace br := br.gr hS
                    clear j0 j1 j2 j3 jf d0 d1 d2 d3 df lj lr hS
                    obtain ⟨j0, j1, j2, j3, jf⟩ := blk4 bj
                    obtain ⟨d0, d1, d2, d3, df⟩ := blk4 br
                    have lj := bj.lt
                    have lr := br.lt
                    rcases hsplit with hq | hq
                    · have HE : Hid (faceP j ws = (none, 2, 2)) := Lib.hid (by
                        rw [HQ.out]; unfold faceQ
                        rw [if_neg H12.out, if_neg HANY.out, if_pos hq])
                      go_wp2_with (first | (go_at_call 83; refine (number_w _ _ (by assumption) _).mono ?_; rintro e wn ⟨rfl, hBn⟩; replace bj := bj.gr hBn; replace br := br.gr hBn; replace HB4 := Lib.hid (HB4.out.trans (hBn.mono HB4.out.size)); clear j0 j1 j2 j3 jf d0 d1 d2 d3 df lj lr; obtain ⟨j0, j1, j2, j3, jf⟩ := blk4 bj; obtain ⟨d0, d1, d2, d3, df⟩ := blk4 br; have lj := bj.lt; have lr := br.lt; have HGN := Lib.hid (Gr.trans HG4.out hBn)) | (go_at_call 36; refine (bWithin_any _ _ _ _).mono ?_; rintro e w1 ⟨rfl, rfl⟩))
                      have e6 := Blk.set4 br (.string j.nm) (.int .i64 j.thick) (.int .i64 j.zone) (.slice AF j.fs.length cf)
                      have zB := Below.set4 (g := w.heap.size + 1) (u0 := .string j.nm) (u1 := .int .i64 j.thick) (u2 := .int .i64 j.zone) (u3 := .slice AF j.fs.length cf) HB4.out (Nat.le_succ _)
                      obtain ⟨y0, y1, y2, y3, _⟩ := blk4 e6
                      refine bodyPost_ret (v := .tuple #[.agg #[.string j.nm, .int .i64 j.thick, .int .i64 j.zone, .slice AF j.fs.length cf], .int .i64 2, .int .i64 2]) ?_ rfl ⟨AF, cf, by rw [HE.out]; rfl, fun _ => ⟨rfl, rfl⟩, fun p h => absurd (by rw [← h, HE.out]) (show ¬ (none : Option (ByteArray × Fc)) = some p from fun e => by cases e), zB⟩
                      simp [results, Tryz.results46, go_sem, y0, y1, y2, y3]
                    · have HQK := Lib.hid hq
                      go_wp2_with (first | (go_at_call 83; refine (number_w _ _ (by assumption) _).mono ?_; rintro e wn ⟨rfl, hBn⟩; replace bj := bj.gr hBn; replace br := br.gr hBn; replace HB4 := Lib.hid (HB4.out.trans (hBn.mono HB4.out.size)); clear j0 j1 j2 j3 jf d0 d1 d2 d3 df lj lr; obtain ⟨j0, j1, j2, j3, jf⟩ := blk4 bj; obtain ⟨d0, d1, d2, d3, df⟩ := blk4 br; have lj := bj.lt; have lr := br.lt; have HGN := Lib.hid (Gr.trans HG4.out hBn)) | (go_at_call 36; refine (bWithin_any _ _ _ _).mono ?_; rintro e w1 ⟨rfl, rfl⟩))
                      exact ⟨⟨3, by go_num, .inr (.inl rfl), Lib.hid (fun _ => by first | trivial | exact HQK.out), Lib.hid (fun h => absurd h (by omega)), Lib.hid (fun h => absurd h (by omega)), Lib.hid (fun h => absurd h (by omega)), HGN.out⟩, by simp [RowKit.intOf]⟩
                  · have hsplit : wi (numW x3) 0 j.thick = false ∨ wi (numW x3) 0 j.thick = true := by cases wi (numW x3) 0 j.thick <;> simp
                    go_wp2_with fail
                    refine wp_region_b 4 (by kernel_rfl) (by kernel_rfl) ?_; simp only [List.take, List.drop]
                    repeat (first
                      | (apply StepsD.run
                         · go_simp
                           done
                         · intro w' hS K hK
                           have hc := (bcell hS).1; have hf := (bcell hS).2; have hz := hS.size; (try simp at hz); go_simp; (try go_bits)
                           first
                             | exact hK _ hS
                             | exact hK _ (by repeat first | (with_reducible first | exact Below.refl _ _ | assumption) | ((with_reducible first | refine Below.setCell ?_ ?_ _ | refine Below.alloc ?_ ?_ _); rotate_left; · first | exact Nat.le_refl _ | (simp; done) | (simp; omega) | omega) | (with_reducible first | apply Below.drew | apply below_drewN') | refine Below.trans ?_ (Below.mono (by assumption) (by first | exact Nat.le_refl _ | (simp; done) | (simp; omega) | omega)) | exact Below.refl _ _ | assumption)
                         · simp [Act.put]
                           done)
                      | (apply StepsD.pass
                         · first | (go_simp; done) | rfl
                         · simp only [Act.put, List.setIfInBounds_toArray, List.set_cons_succ, List.set_cons_zero]
                           rfl))
                    refine StepsD.done ?_
                    intro w4 hS
                    have HB4 := Lib.hid (HBx.out.trans (hS.mono HBx.out.size))
                    have HG4 := Lib.hid (Gr.trans HG.out hS)
                    have hW4 := Below.size hS
                    replace t3 := (hS.cell (p := ⟨g, o + 6, none⟩) hgw1).trans t3
                    replace v3 := (hS.cell (p := ⟨g, o + 7, none⟩) hgw1).trans v3
                    replace hgw1 : g < w4.heap.size := by omega
                    replace bj := bj.gr hS
                    replace br := br.gr hS
                    clear j0 j1 j2 j3 jf d0 d1 d2 d3 df lj lr hS
                    obtain ⟨j0, j1, j2, j3, jf⟩ := blk4 bj
                    obtain ⟨d0, d1, d2, d3, df⟩ := blk4 br
                    have lj := bj.lt
                    have lr := br.lt
                    rcases hsplit with hq | hq
                    · have HE : Hid (faceP j ws = (none, 3, 2)) := Lib.hid (by
                        rw [HQ.out]; unfold faceQ
                        rw [if_neg H12.out, if_neg HANY.out, if_neg (by rw [K0.out (by omega)]; simp), if_pos hq])
                      go_wp2_with (first | (go_at_call 83; refine (number_w _ _ (by assumption) _).mono ?_; rintro e wn ⟨rfl, hBn⟩; replace bj := bj.gr hBn; replace br := br.gr hBn; replace HB4 := Lib.hid (HB4.out.trans (hBn.mono HB4.out.size)); clear j0 j1 j2 j3 jf d0 d1 d2 d3 df lj lr; obtain ⟨j0, j1, j2, j3, jf⟩ := blk4 bj; obtain ⟨d0, d1, d2, d3, df⟩ := blk4 br; have lj := bj.lt; have lr := br.lt; have HGN := Lib.hid (Gr.trans HG4.out hBn)) | (go_at_call 36; refine (bWithin_any _ _ _ _).mono ?_; rintro e w1 ⟨rfl, rfl⟩))
                      have e6 := Blk.set4 br (.string j.nm) (.int .i64 j.thick) (.int .i64 j.zone) (.slice AF j.fs.length cf)
                      have zB := Below.set4 (g := w.heap.size + 1) (u0 := .string j.nm) (u1 := .int .i64 j.thick) (u2 := .int .i64 j.zone) (u3 := .slice AF j.fs.length cf) HB4.out (Nat.le_succ _)
                      obtain ⟨y0, y1, y2, y3, _⟩ := blk4 e6
                      refine bodyPost_ret (v := .tuple #[.agg #[.string j.nm, .int .i64 j.thick, .int .i64 j.zone, .slice AF j.fs.length cf], .int .i64 3, .int .i64 2]) ?_ rfl ⟨AF, cf, by rw [HE.out]; rfl, fun _ => ⟨rfl, rfl⟩, fun p h => absurd (by rw [← h, HE.out]) (show ¬ (none : Option (ByteArray × Fc)) = some p from fun e => by cases e), zB⟩
                      simp [results, Tryz.results46, go_sem, y0, y1, y2, y3]
                    · have HQK := Lib.hid hq
                      go_wp2_with (first | (go_at_call 83; refine (number_w _ _ (by assumption) _).mono ?_; rintro e wn ⟨rfl, hBn⟩; replace bj := bj.gr hBn; replace br := br.gr hBn; replace HB4 := Lib.hid (HB4.out.trans (hBn.mono HB4.out.size)); clear j0 j1 j2 j3 jf d0 d1 d2 d3 df lj lr; obtain ⟨j0, j1, j2, j3, jf⟩ := blk4 bj; obtain ⟨d0, d1, d2, d3, df⟩ := blk4 br; have lj := bj.lt; have lr := br.lt; have HGN := Lib.hid (Gr.trans HG4.out hBn)) | (go_at_call 36; refine (bWithin_any _ _ _ _).mono ?_; rintro e w1 ⟨rfl, rfl⟩))
                      exact ⟨⟨4, by go_num, .inr (.inr (.inl rfl)), Lib.hid (fun _ => by first | trivial | exact K0.out (by omega)), Lib.hid (fun _ => by first | trivial | exact HQK.out), Lib.hid (fun h => absurd h (by omega)), Lib.hid (fun h => absurd h (by omega)), HGN.out⟩, by simp [RowKit.intOf]⟩
                  · have hsplit : wi (numW x4) (-20000) 20000 = false ∨ wi (numW x4) (-20000) 20000 = true := by cases wi (numW x4) (-20000) 20000 <;> simp
                    go_wp2_with fail
                    refine wp_region_b 4 (by kernel_rfl) (by kernel_rfl) ?_; simp only [List.take, List.drop]
                    repeat (first
                      | (apply StepsD.run
                         · go_simp
                           done
                         · intro w' hS K hK
                           have hc := (bcell hS).1; have hf := (bcell hS).2; have hz := hS.size; (try simp at hz); go_simp; (try go_bits)
                           first
                             | exact hK _ hS
                             | exact hK _ (by repeat first | (with_reducible first | exact Below.refl _ _ | assumption) | ((with_reducible first | refine Below.setCell ?_ ?_ _ | refine Below.alloc ?_ ?_ _); rotate_left; · first | exact Nat.le_refl _ | (simp; done) | (simp; omega) | omega) | (with_reducible first | apply Below.drew | apply below_drewN') | refine Below.trans ?_ (Below.mono (by assumption) (by first | exact Nat.le_refl _ | (simp; done) | (simp; omega) | omega)) | exact Below.refl _ _ | assumption)
                         · simp [Act.put]
                           done)
                      | (apply StepsD.pass
                         · first | (go_simp; done) | rfl
                         · simp only [Act.put, List.setIfInBounds_toArray, List.set_cons_succ, List.set_cons_zero]
                           rfl))
                    refine StepsD.done ?_
                    intro w4 hS
                    have HB4 := Lib.hid (HBx.out.trans (hS.mono HBx.out.size))
                    have HG4 := Lib.hid (Gr.trans HG.out hS)
                    have hW4 := Below.size hS
                    replace t4 := (hS.cell (p := ⟨g, o + 8, none⟩) hgw1).trans t4
                    replace v4 := (hS.cell (p := ⟨g, o + 9, none⟩) hgw1).trans v4
                    replace hgw1 : g < w4.heap.size := by omega
                    replace bj := bj.gr hS
                    replace br := br.gr hS
                    clear j0 j1 j2 j3 jf d0 d1 d2 d3 df lj lr hS
                    obtain ⟨j0, j1, j2, j3, jf⟩ := blk4 bj
                    obtain ⟨d0, d1, d2, d3, df⟩ := blk4 br
                    have lj := bj.lt
                    have lr := br.lt
                    rcases hsplit with hq | hq
                    · have HE : Hid (faceP j ws = (none, 4, 2)) := Lib.hid (by
                        rw [HQ.out]; unfold faceQ
                        rw [if_neg H12.out, if_neg HANY.out, if_neg (by rw [K0.out (by omega)]; simp), if_neg (by rw [K1.out (by omega)]; simp), if_pos hq])
                      go_wp2_with (first | (go_at_call 83; refine (number_w _ _ (by assumption) _).mono ?_; rintro e wn ⟨rfl, hBn⟩; replace bj := bj.gr hBn; replace br := br.gr hBn; replace HB4 := Lib.hid (HB4.out.trans (hBn.mono HB4.out.size)); clear j0 j1 j2 j3 jf d0 d1 d2 d3 df lj lr; obtain ⟨j0, j1, j2, j3, jf⟩ := blk4 bj; obtain ⟨d0, d1, d2, d3, df⟩ := blk4 br; have lj := bj.lt; have lr := br.lt; have HGN := Lib.hid (Gr.trans HG4.out hBn)) | (go_at_call 36; refine (bWithin_any _ _ _ _).mono ?_; rintro e w1 ⟨rfl, rfl⟩))
                      have e6 := Blk.set4 br (.string j.nm) (.int .i64 j.thick) (.int .i64 j.zone) (.slice AF j.fs.length cf)
                      have zB := Below.set4 (g := w.heap.size + 1) (u0 := .string j.nm) (u1 := .int .i64 j.thick) (u2 := .int .i64 j.zone) (u3 := .slice AF j.fs.length cf) HB4.out (Nat.le_succ _)
                      obtain ⟨y0, y1, y2, y3, _⟩ := blk4 e6
                      refine bodyPost_ret (v := .tuple #[.agg #[.string j.nm, .int .i64 j.thick, .int .i64 j.zone, .slice AF j.fs.length cf], .int .i64 4, .int .i64 2]) ?_ rfl ⟨AF, cf, by rw [HE.out]; rfl, fun _ => ⟨rfl, rfl⟩, fun p h => absurd (by rw [← h, HE.out]) (show ¬ (none : Option (ByteArray × Fc)) = some p from fun e => by cases e), zB⟩
                      simp [results, Tryz.results46, go_sem, y0, y1, y2, y3]
                    · have HQK := Lib.hid hq
                      go_wp2_with (first | (go_at_call 83; refine (number_w _ _ (by assumption) _).mono ?_; rintro e wn ⟨rfl, hBn⟩; replace bj := bj.gr hBn; replace br := br.gr hBn; replace HB4 := Lib.hid (HB4.out.trans (hBn.mono HB4.out.size)); clear j0 j1 j2 j3 jf d0 d1 d2 d3 df lj lr; obtain ⟨j0, j1, j2, j3, jf⟩ := blk4 bj; obtain ⟨d0, d1, d2, d3, df⟩ := blk4 br; have lj := bj.lt; have lr := br.lt; have HGN := Lib.hid (Gr.trans HG4.out hBn)) | (go_at_call 36; refine (bWithin_any _ _ _ _).mono ?_; rintro e w1 ⟨rfl, rfl⟩))
                      exact ⟨⟨5, by go_num, .inr (.inr (.inr (.inl rfl))), Lib.hid (fun _ => by first | trivial | exact K0.out (by omega)), Lib.hid (fun _ => by first | trivial | exact K1.out (by omega)), Lib.hid (fun _ => by first | trivial | exact HQK.out), Lib.hid (fun h => absurd h (by omega)), HGN.out⟩, by simp [RowKit.intOf]⟩
                  · have hsplit : wi (numW x5) 0 j.thick = false ∨ wi (numW x5) 0 j.thick = true := by cases wi (numW x5) 0 j.thick <;> simp
                    go_wp2_with fail
                    refine wp_region_b 4 (by kernel_rfl) (by kernel_rfl) ?_; simp only [List.take, List.drop]
                    repeat (first
                      | (apply StepsD.run
                         · go_simp
                           done
                         · intro w' hS K hK
                           have hc := (bcell hS).1; have hf := (bcell hS).2; have hz := hS.size; (try simp at hz); go_simp; (try go_bits)
                           first
                             | exact hK _ hS
                             | exact hK _ (by repeat first | (with_reducible first | exact Below.refl _ _ | assumption) | ((with_reducible first | refine Below.setCell ?_ ?_ _ | refine Below.alloc ?_ ?_ _); rotate_left; · first | exact Nat.le_refl _ | (simp; done) | (simp; omega) | omega) | (with_reducible first | apply Below.drew | apply below_drewN') | refine Below.trans ?_ (Below.mono (by assumption) (by first | exact Nat.le_refl _ | (simp; done) | (simp; omega) | omega)) | exact Below.refl _ _ | assumption)
                         · simp [Act.put]
                           done)
                      | (apply StepsD.pass
                         · first | (go_simp; done) | rfl
                         · simp only [Act.put, List.setIfInBounds_toArray, List.set_cons_succ, List.set_cons_zero]
                           rfl))
                    refine StepsD.done ?_
                    intro w4 hS
                    have HB4 := Lib.hid (HBx.out.trans (hS.mono HBx.out.size))
                    have HG4 := Lib.hid (Gr.trans HG.out hS)
                    have hW4 := Below.size hS
                    replace t5 := (hS.cell (p := ⟨g, o + 10, none⟩) hgw1).trans t5
                    replace v5 := (hS.cell (p := ⟨g, o + 11, none⟩) hgw1).trans v5
                    replace hgw1 : g < w4.heap.size := by omega
                    replace bj := bj.gr hS
                    replace br := br.gr hS
                    clear j0 j1 j2 j3 jf d0 d1 d2 d3 df lj lr hS
                    obtain ⟨j0, j1, j2, j3, jf⟩ := blk4 bj
                    obtain ⟨d0, d1, d2, d3, df⟩ := blk4 br
                    have lj := bj.lt
                    have lr := br.lt
                    rcases hsplit with hq | hq
                    · have HE : Hid (faceP j ws = (none, 5, 2)) := Lib.hid (by
                        rw [HQ.out]; unfold faceQ
                        rw [if_neg H12.out, if_neg HANY.out, if_neg (by rw [K0.out (by omega)]; simp), if_neg (by rw [K1.out (by omega)]; simp), if_neg (by rw [K2.out (by omega)]; simp), if_pos hq])
                      go_wp2_with (first | (go_at_call 83; refine (number_w _ _ (by assumption) _).mono ?_; rintro e wn ⟨rfl, hBn⟩; replace bj := bj.gr hBn; replace br := br.gr hBn; replace HB4 := Lib.hid (HB4.out.trans (hBn.mono HB4.out.size)); clear j0 j1 j2 j3 jf d0 d1 d2 d3 df lj lr; obtain ⟨j0, j1, j2, j3, jf⟩ := blk4 bj; obtain ⟨d0, d1, d2, d3, df⟩ := blk4 br; have lj := bj.lt; have lr := br.lt; have HGN := Lib.hid (Gr.trans HG4.out hBn)) | (go_at_call 36; refine (bWithin_any _ _ _ _).mono ?_; rintro e w1 ⟨rfl, rfl⟩))
                      have e6 := Blk.set4 br (.string j.nm) (.int .i64 j.thick) (.int .i64 j.zone) (.slice AF j.fs.length cf)
                      have zB := Below.set4 (g := w.heap.size + 1) (u0 := .string j.nm) (u1 := .int .i64 j.thick) (u2 := .int .i64 j.zone) (u3 := .slice AF j.fs.length cf) HB4.out (Nat.le_succ _)
                      obtain ⟨y0, y1, y2, y3, _⟩ := blk4 e6
                      refine bodyPost_ret (v := .tuple #[.agg #[.string j.nm, .int .i64 j.thick, .int .i64 j.zone, .slice AF j.fs.length cf], .int .i64 5, .int .i64 2]) ?_ rfl ⟨AF, cf, by rw [HE.out]; rfl, fun _ => ⟨rfl, rfl⟩, fun p h => absurd (by rw [← h, HE.out]) (show ¬ (none : Option (ByteArray × Fc)) = some p from fun e => by cases e), zB⟩
                      simp [results, Tryz.results46, go_sem, y0, y1, y2, y3]
                    · have HQK := Lib.hid hq
                      go_wp2_with (first | (go_at_call 83; refine (number_w _ _ (by assumption) _).mono ?_; rintro e wn ⟨rfl, hBn⟩; replace bj := bj.gr hBn; replace br := br.gr hBn; replace HB4 := Lib.hid (HB4.out.trans (hBn.mono HB4.out.size)); clear j0 j1 j2 j3 jf d0 d1 d2 d3 df lj lr; obtain ⟨j0, j1, j2, j3, jf⟩ := blk4 bj; obtain ⟨d0, d1, d2, d3, df⟩ := blk4 br; have lj := bj.lt; have lr := br.lt; have HGN := Lib.hid (Gr.trans HG4.out hBn)) | (go_at_call 36; refine (bWithin_any _ _ _ _).mono ?_; rintro e w1 ⟨rfl, rfl⟩))
                      exact ⟨⟨6, by go_num, .inr (.inr (.inr (.inr (rfl)))), Lib.hid (fun _ => by first | trivial | exact K0.out (by omega)), Lib.hid (fun _ => by first | trivial | exact K1.out (by omega)), Lib.hid (fun _ => by first | trivial | exact K2.out (by omega)), Lib.hid (fun _ => by first | trivial | exact HQK.out), HGN.out⟩, by simp [RowKit.intOf]⟩
                  · have HOK := Lib.hid (And.intro (K0.out (by omega)) (And.intro (K1.out (by omega)) (And.intro (K2.out (by omega)) (K3.out (by omega)))))
                    obtain ⟨z0, z1, z2, z3, z4, zf⟩ := blk5 HZ.out
                    have lz := HZ.out.lt
                    have HQ2 : Hid (faceP j ws = if numW x2 = numW x4 ∧ numW x3 = numW x5 then (none, 2, 11) else (some (nm, ⟨numW x2, numW x3, numW x4, numW x5⟩), 0, 0)) := Lib.hid (by
                      rw [HQ.out]; unfold faceQ
                      rw [if_neg H12.out, if_neg HANY.out, if_neg (by rw [HOK.out.1]; simp), if_neg (by rw [HOK.out.2.1]; simp), if_neg (by rw [HOK.out.2.2.1]; simp), if_neg (by rw [HOK.out.2.2.2]; simp)])
                    generalize numW x2 = n2 at *
                    generalize numW x3 = n3 at *
                    generalize numW x4 = n4 at *
                    generalize numW x5 = n5 at *
                    by_cases he : n2 = n4 ∧ n3 = n5
                    · have HE : Hid (faceP j ws = (none, 2, 11)) := Lib.hid (by rw [HQ2.out, if_pos he])
                      have e1 : (n2 == n4) = true := beq_iff_eq.2 he.1
                      have e2 : (n3 == n5) = true := beq_iff_eq.2 he.2
                      clear he
                      go_wp2
                      have e6 := Blk.set4 br (.string j.nm) (.int .i64 j.thick) (.int .i64 j.zone) (.slice AF j.fs.length cf)
                      have zB := Below.set4 (g := w.heap.size + 1) (u0 := .string j.nm) (u1 := .int .i64 j.thick) (u2 := .int .i64 j.zone) (u3 := .slice AF j.fs.length cf) HBx.out (Nat.le_succ _)
                      obtain ⟨y0, y1, y2, y3, _⟩ := blk4 e6
                      refine bodyPost_ret (v := .tuple #[.agg #[.string j.nm, .int .i64 j.thick, .int .i64 j.zone, .slice AF j.fs.length cf], .int .i64 2, .int .i64 11]) ?_ rfl ⟨AF, cf, by rw [HE.out]; rfl, fun _ => ⟨rfl, rfl⟩, fun p h => absurd (by rw [← h, HE.out]) (show ¬ (none : Option (ByteArray × Fc)) = some p from fun e => by cases e), zB⟩
                      simp [results, Tryz.results46, go_sem, y0, y1, y2, y3]
                    · have HE : Hid (faceP j ws = (some (nm, ⟨n2, n3, n4, n5⟩), 0, 0)) := Lib.hid (by rw [HQ2.out, if_neg he])
                      have e12 : (n2 == n4) = false ∨ ((n2 == n4) = true ∧ (n3 == n5) = false) := by
                        cases h1 : (n2 == n4) with
                        | false => exact .inl rfl
                        | true =>
                          refine .inr ⟨rfl, ?_⟩
                          cases h2 : (n3 == n5) with
                          | false => rfl
                          | true => exact absurd ⟨beq_iff_eq.1 h1, beq_iff_eq.1 h2⟩ he
                      clear he
                      have lr0 := lr
                      have HBR := Lib.hid br
                      cases AF with
                      | some ad =>
                        rcases e12 with e1 | ⟨e1, e2⟩
                        · go_upto_region 24 with fail
                          refine faceReg24_some (base := wr.heap.size) HFE.out bj HZ.out lj lz rfl hlen _ ?_
                          clear j0 j1 j2 j3 jf d0 d1 d2 d3 df z0 z1 z2 z3 z4 zf lj lr
                          intro s103 s104 s105 s106 s107 s108 s109 s110 A' c' w' bj' o9 K2
                          have br' : Blk w' (w.heap.size + 1) 24 #[.string ⟨#[]⟩, .int .i64 0, .int .i64 0, .slice none 0 0] := (K2.same _ lr0 (by omega) (fun e => by cases e)).trans HBR.out
                          have hB9 : Below w.heap.size w w' := HBx.out.trans (K2.below HBx.out.size (Nat.le_refl _) (fun r e => by cases e))
                          unfold joC at bj'
                          simp only [List.length_append, List.length_cons, List.length_nil, Nat.zero_add] at bj' o9
                          obtain ⟨j0, j1, j2, j3, jf⟩ := blk4 bj'
                          obtain ⟨d0, d1, d2, d3, df⟩ := blk4 br'
                          have lj := bj'.lt
                          have lr := br'.lt
                          have HO9 := Lib.hid o9
                          have HB9 := Lib.hid hB9
                          clear o9 K2 hB9
                          go_wp2
                          obtain ⟨g9, y9, e9, hg9, hl9⟩ := HO9.out.form (by omega)
                          have e6 := Blk.set4 br' (.string j.nm) (.int .i64 j.thick) (.int .i64 j.zone) (.slice A' (j.fs.length + 1) c')
                          have zB := Below.set4 (g := w.heap.size + 1) (u0 := .string j.nm) (u1 := .int .i64 j.thick) (u2 := .int .i64 j.zone) (u3 := .slice A' (j.fs.length + 1) c') HB9.out (Nat.le_succ _)
                          have hlt9 : w.heap.size + 1 < wr.heap.size := lr0
                          have zo := own_set (own_set (own_set (own_set HO9.out (p := ⟨w.heap.size + 1, 0, none⟩) hlt9 (.string j.nm)) (p := ⟨w.heap.size + 1, 1, none⟩) hlt9 (.int .i64 j.thick)) (p := ⟨w.heap.size + 1, 2, none⟩) hlt9 (.int .i64 j.zone)) (p := ⟨w.heap.size + 1, 3, none⟩) hlt9 (.slice A' (j.fs.length + 1) c')
                          obtain ⟨Az, cz, ez, Rz⟩ := Row.own zo
                          obtain ⟨rfl, rfl⟩ : A' = Az ∧ c' = cz := by injection ez with a b c; exact ⟨a, c⟩
                          obtain ⟨y0, y1, y2, y3, _⟩ := blk4 e6
                          have hcap := cap_of HO9.out
                          have hblk : ∀ a, A' = some a → w.heap.size ≤ a.block := fun a h => by rw [h] at e9; injection e9 with e9; injection e9 with e9; rw [e9]; exact Nat.le_trans HBx.out.size hg9
                          have hne : A' = none → c' = 0 := fun h => by rw [h] at e9; injection e9 with a; cases a
                          refine bodyPost_ret (v := .tuple #[.agg #[.string j.nm, .int .i64 j.thick, .int .i64 j.zone, .slice A' (j.fs.length + 1) c'], .int .i64 0, .int .i64 0]) ?_ rfl ⟨A', c', by rw [HE.out]; simp [joF], (fun h => by rw [HE.out] at h; cases h), (by intro p; first | (intro h; rw [HE.out] at h; cases h; exact ⟨Rz, hne, hcap.1, hcap.2, hblk⟩) | (intro q h; rw [HE.out] at h; cases h; exact ⟨Rz, hne, hcap.1, hcap.2, hblk⟩)), zB⟩
                          simp [results, Tryz.results46, go_sem, y0, y1, y2, y3]
                        · go_upto_region 24 with fail
                          refine faceReg24_some (base := wr.heap.size) HFE.out bj HZ.out lj lz rfl hlen _ ?_
                          clear j0 j1 j2 j3 jf d0 d1 d2 d3 df z0 z1 z2 z3 z4 zf lj lr
                          intro s103 s104 s105 s106 s107 s108 s109 s110 A' c' w' bj' o9 K2
                          have br' : Blk w' (w.heap.size + 1) 24 #[.string ⟨#[]⟩, .int .i64 0, .int .i64 0, .slice none 0 0] := (K2.same _ lr0 (by omega) (fun e => by cases e)).trans HBR.out
                          have hB9 : Below w.heap.size w w' := HBx.out.trans (K2.below HBx.out.size (Nat.le_refl _) (fun r e => by cases e))
                          unfold joC at bj'
                          simp only [List.length_append, List.length_cons, List.length_nil, Nat.zero_add] at bj' o9
                          obtain ⟨j0, j1, j2, j3, jf⟩ := blk4 bj'
                          obtain ⟨d0, d1, d2, d3, df⟩ := blk4 br'
                          have lj := bj'.lt
                          have lr := br'.lt
                          have HO9 := Lib.hid o9
                          have HB9 := Lib.hid hB9
                          clear o9 K2 hB9
                          go_wp2
                          obtain ⟨g9, y9, e9, hg9, hl9⟩ := HO9.out.form (by omega)
                          have e6 := Blk.set4 br' (.string j.nm) (.int .i64 j.thick) (.int .i64 j.zone) (.slice A' (j.fs.length + 1) c')
                          have zB := Below.set4 (g := w.heap.size + 1) (u0 := .string j.nm) (u1 := .int .i64 j.thick) (u2 := .int .i64 j.zone) (u3 := .slice A' (j.fs.length + 1) c') HB9.out (Nat.le_succ _)
                          have hlt9 : w.heap.size + 1 < wr.heap.size := lr0
                          have zo := own_set (own_set (own_set (own_set HO9.out (p := ⟨w.heap.size + 1, 0, none⟩) hlt9 (.string j.nm)) (p := ⟨w.heap.size + 1, 1, none⟩) hlt9 (.int .i64 j.thick)) (p := ⟨w.heap.size + 1, 2, none⟩) hlt9 (.int .i64 j.zone)) (p := ⟨w.heap.size + 1, 3, none⟩) hlt9 (.slice A' (j.fs.length + 1) c')
                          obtain ⟨Az, cz, ez, Rz⟩ := Row.own zo
                          obtain ⟨rfl, rfl⟩ : A' = Az ∧ c' = cz := by injection ez with a b c; exact ⟨a, c⟩
                          obtain ⟨y0, y1, y2, y3, _⟩ := blk4 e6
                          have hcap := cap_of HO9.out
                          have hblk : ∀ a, A' = some a → w.heap.size ≤ a.block := fun a h => by rw [h] at e9; injection e9 with e9; injection e9 with e9; rw [e9]; exact Nat.le_trans HBx.out.size hg9
                          have hne : A' = none → c' = 0 := fun h => by rw [h] at e9; injection e9 with a; cases a
                          refine bodyPost_ret (v := .tuple #[.agg #[.string j.nm, .int .i64 j.thick, .int .i64 j.zone, .slice A' (j.fs.length + 1) c'], .int .i64 0, .int .i64 0]) ?_ rfl ⟨A', c', by rw [HE.out]; simp [joF], (fun h => by rw [HE.out] at h; cases h), (by intro p; first | (intro h; rw [HE.out] at h; cases h; exact ⟨Rz, hne, hcap.1, hcap.2, hblk⟩) | (intro q h; rw [HE.out] at h; cases h; exact ⟨Rz, hne, hcap.1, hcap.2, hblk⟩)), zB⟩
                          simp [results, Tryz.results46, go_sem, y0, y1, y2, y3]
                      | none =>
                        have h0 : j.fs.length = 0 := by
                          rcases Nat.eq_zero_or_pos j.fs.length with h | h
                          · exact h
                          · obtain ⟨_, _, h, _⟩ := HFE.out.2 h
                            cases h
                        have hn := List.eq_nil_of_length_eq_zero h0
                        obtain rfl : cf = 0 := HA.out rfl
                        obtain ⟨jn, th, zn, fs⟩ := j
                        simp only at hn
                        subst hn
                        clear h0
                        simp only [List.length_nil] at bj ⊢
                        rcases e12 with e1 | ⟨e1, e2⟩
                        · go_upto_region 24 with fail
                          refine faceReg24_none (base := wr.heap.size) bj HZ.out lj lz rfl (by omega) _ ?_
                          clear j0 j1 j2 j3 jf d0 d1 d2 d3 df z0 z1 z2 z3 z4 zf lj lr
                          intro s103 s104 s105 s106 s107 s108 s109 s110 A' c' w' bj' o9 K2
                          have br' : Blk w' (w.heap.size + 1) 24 #[.string ⟨#[]⟩, .int .i64 0, .int .i64 0, .slice none 0 0] := (K2.same _ lr0 (by omega) (fun e => by cases e)).trans HBR.out
                          have hB9 : Below w.heap.size w w' := HBx.out.trans (K2.below HBx.out.size (Nat.le_refl _) (fun r e => by cases e))
                          unfold joC at bj'
                          simp only [List.length_cons, List.length_nil, Nat.zero_add] at bj' o9
                          obtain ⟨j0, j1, j2, j3, jf⟩ := blk4 bj'
                          obtain ⟨d0, d1, d2, d3, df⟩ := blk4 br'
                          have lj := bj'.lt
                          have lr := br'.lt
                          have HO9 := Lib.hid o9
                          have HB9 := Lib.hid hB9
                          clear o9 K2 hB9
                          go_wp2
                          obtain ⟨g9, y9, e9, hg9, hl9⟩ := HO9.out.form (by omega)
                          have e6 := Blk.set4 br' (.string jn) (.int .i64 th) (.int .i64 zn) (.slice A' 1 c')
                          have zB := Below.set4 (g := w.heap.size + 1) (u0 := .string jn) (u1 := .int .i64 th) (u2 := .int .i64 zn) (u3 := .slice A' 1 c') HB9.out (Nat.le_succ _)
                          have hlt9 : w.heap.size + 1 < wr.heap.size := lr0
                          have zo := own_set (own_set (own_set (own_set HO9.out (p := ⟨w.heap.size + 1, 0, none⟩) hlt9 (.string jn)) (p := ⟨w.heap.size + 1, 1, none⟩) hlt9 (.int .i64 th)) (p := ⟨w.heap.size + 1, 2, none⟩) hlt9 (.int .i64 zn)) (p := ⟨w.heap.size + 1, 3, none⟩) hlt9 (.slice A' 1 c')
                          obtain ⟨Az, cz, ez, Rz⟩ := Row.own zo
                          obtain ⟨rfl, rfl⟩ : A' = Az ∧ c' = cz := by injection ez with a b c; exact ⟨a, c⟩
                          obtain ⟨y0, y1, y2, y3, _⟩ := blk4 e6
                          have hcap := cap_of HO9.out
                          have hblk : ∀ a, A' = some a → w.heap.size ≤ a.block := fun a h => by rw [h] at e9; injection e9 with e9; injection e9 with e9; rw [e9]; exact Nat.le_trans HBx.out.size hg9
                          have hne : A' = none → c' = 0 := fun h => by rw [h] at e9; injection e9 with a; cases a
                          refine bodyPost_ret (v := .tuple #[.agg #[.string jn, .int .i64 th, .int .i64 zn, .slice A' 1 c'], .int .i64 0, .int .i64 0]) ?_ rfl ⟨A', c', by rw [HE.out]; simp [joF], (fun h => by rw [HE.out] at h; cases h), (by intro p; first | (intro h; rw [HE.out] at h; cases h; exact ⟨Rz, hne, hcap.1, hcap.2, hblk⟩) | (intro q h; rw [HE.out] at h; cases h; exact ⟨Rz, hne, hcap.1, hcap.2, hblk⟩)), zB⟩
                          simp [results, Tryz.results46, go_sem, y0, y1, y2, y3]
                        · go_upto_region 24 with fail
                          refine faceReg24_none (base := wr.heap.size) bj HZ.out lj lz rfl (by omega) _ ?_
                          clear j0 j1 j2 j3 jf d0 d1 d2 d3 df z0 z1 z2 z3 z4 zf lj lr
                          intro s103 s104 s105 s106 s107 s108 s109 s110 A' c' w' bj' o9 K2
                          have br' : Blk w' (w.heap.size + 1) 24 #[.string ⟨#[]⟩, .int .i64 0, .int .i64 0, .slice none 0 0] := (K2.same _ lr0 (by omega) (fun e => by cases e)).trans HBR.out
                          have hB9 : Below w.heap.size w w' := HBx.out.trans (K2.below HBx.out.size (Nat.le_refl _) (fun r e => by cases e))
                          unfold joC at bj'
                          simp only [List.length_cons, List.length_nil, Nat.zero_add] at bj' o9
                          obtain ⟨j0, j1, j2, j3, jf⟩ := blk4 bj'
                          obtain ⟨d0, d1, d2, d3, df⟩ := blk4 br'
                          have lj := bj'.lt
                          have lr := br'.lt
                          have HO9 := Lib.hid o9
                          have HB9 := Lib.hid hB9
                          clear o9 K2 hB9
                          go_wp2
                          obtain ⟨g9, y9, e9, hg9, hl9⟩ := HO9.out.form (by omega)
                          have e6 := Blk.set4 br' (.string jn) (.int .i64 th) (.int .i64 zn) (.slice A' 1 c')
                          have zB := Below.set4 (g := w.heap.size + 1) (u0 := .string jn) (u1 := .int .i64 th) (u2 := .int .i64 zn) (u3 := .slice A' 1 c') HB9.out (Nat.le_succ _)
                          have hlt9 : w.heap.size + 1 < wr.heap.size := lr0
                          have zo := own_set (own_set (own_set (own_set HO9.out (p := ⟨w.heap.size + 1, 0, none⟩) hlt9 (.string jn)) (p := ⟨w.heap.size + 1, 1, none⟩) hlt9 (.int .i64 th)) (p := ⟨w.heap.size + 1, 2, none⟩) hlt9 (.int .i64 zn)) (p := ⟨w.heap.size + 1, 3, none⟩) hlt9 (.slice A' 1 c')
                          obtain ⟨Az, cz, ez, Rz⟩ := Row.own zo
                          obtain ⟨rfl, rfl⟩ : A' = Az ∧ c' = cz := by injection ez with a b c; exact ⟨a, c⟩
                          obtain ⟨y0, y1, y2, y3, _⟩ := blk4 e6
                          have hcap := cap_of HO9.out
                          have hblk : ∀ a, A' = some a → w.heap.size ≤ a.block := fun a h => by rw [h] at e9; injection e9 with e9; injection e9 with e9; rw [e9]; exact Nat.le_trans HBx.out.size hg9
                          have hne : A' = none → c' = 0 := fun h => by rw [h] at e9; injection e9 with a; cases a
                          refine bodyPost_ret (v := .tuple #[.agg #[.string jn, .int .i64 th, .int .i64 zn, .slice A' 1 c'], .int .i64 0, .int .i64 0]) ?_ rfl ⟨A', c', by rw [HE.out]; simp [joF], (fun h => by rw [HE.out] at h; cases h), (by intro p; first | (intro h; rw [HE.out] at h; cases h; exact ⟨Rz, hne, hcap.1, hcap.2, hblk⟩) | (intro q h; rw [HE.out] at h; cases h; exact ⟨Rz, hne, hcap.1, hcap.2, hblk⟩)), zB⟩
                          simp [results, Tryz.results46, go_sem, y0, y1, y2, y3]
    · have HE : Hid (faceP j ws = (none, k, n)) := Lib.hid (by unfold faceP; rw [if_neg (not_not_intro HJ.out), if_pos (by rw [HFM.out]; exact hn0), HFM.out])
      have g2 : (n != 0) = true := by rw [bne, beq_eq_false_iff_ne.2 hn0]; rfl
      clear hn0
      go_wp2_with fail
      have e6 := Blk.set4 br (.string j.nm) (.int .i64 j.thick) (.int .i64 j.zone) (.slice AF j.fs.length cf)
      have zB := Below.set4 (g := w.heap.size + 1) (u0 := .string j.nm) (u1 := .int .i64 j.thick) (u2 := .int .i64 j.zone) (u3 := .slice AF j.fs.length cf) HBC.out (Nat.le_succ _)
      obtain ⟨y0, y1, y2, y3, _⟩ := blk4 e6
      refine bodyPost_ret (v := .tuple #[.agg #[.string j.nm, .int .i64 j.thick, .int .i64 j.zone, .slice AF j.fs.length cf], .int .i64 k, .int .i64 n]) ?_ rfl ⟨AF, cf, by rw [HE.out]; rfl, fun _ => ⟨rfl, rfl⟩, fun p h => absurd (by rw [← h, HE.out]) (show ¬ (none : Option (ByteArray × Fc)) = some p from fun e => by cases e), zB⟩
      simp [results, Tryz.results46, go_sem, y0, y1, y2, y3]
  · have HE : Hid (faceP j ws = (none, 0, 7)) := Lib.hid (by unfold faceP; rw [if_pos hj])
    have g1 : ((wordT ws 0).toList == [102, 97, 99, 101]) = false := beq_eq_false_iff_ne.2 hj
    clear hj
    go_enter Tryz.func46, Tryz.ntmps46
    go_wp2
    have z := Blk.new' (w.alloc (.cells #[.string j.nm, .int .i64 j.thick, .int .i64 j.zone, .slice AF j.fs.length cf] 24)) 24 #[.string j.nm, .int .i64 j.thick, .int .i64 j.zone, .slice AF j.fs.length cf] (g := w.heap.size + 1) (by simp)
    obtain ⟨y0, y1, y2, y3, _⟩ := blk4 z
    refine bodyPost_ret (v := .tuple #[.agg #[.string j.nm, .int .i64 j.thick, .int .i64 j.zone, .slice AF j.fs.length cf], .int .i64 0, .int .i64 7]) ?_ rfl ⟨AF, cf, by rw [HE.out]; rfl, fun _ => ⟨rfl, rfl⟩, fun p h => absurd (by rw [← h, HE.out]) (show ¬ (none : Option (ByteArray × Fc)) = some p from fun e => by cases e), (by repeat first | (with_reducible first | exact Below.refl _ _ | assumption) | ((with_reducible first | refine Below.setCell ?_ ?_ _ | refine Below.alloc ?_ ?_ _); rotate_left; · first | exact Nat.le_refl _ | (simp; done) | (simp; omega) | omega) | (with_reducible first | apply Below.drew | apply below_drewN') | refine Below.trans ?_ (Below.mono (by assumption) (by first | exact Nat.le_refl _ | (simp; done) | (simp; omega) | omega)) | exact Below.refl _ _ | assumption)⟩
    simp [results, Tryz.results46, go_sem, y0, y1, y2, y3]
end Go.Proofs.YtaekcfancfoccaaGreatDoor
