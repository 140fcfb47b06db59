/- The report of an inspection with one accepted mark (office.Report); what must be scanned anew (office.AnewOf). -/
import Derived.Test.YtmdbpkomanhpoaaGreatDoorZqOeP
namespace Go.Proofs.YtmdbpkomanhpoaaGreatDoor
open Go.RowKit Go.Lib Go.Shelf

def accW (_ : ByteArray) (po row : Int) : List ByteArray := [strB (itoa po), ⟨#[97, 99, 99, 101, 112, 116]⟩, strB (itoa row)]
def accL (nm : ByteArray) (po row : Int) : List UInt8 := join ((nm :: accW nm po row).map (·.data.toList)) [32] ++ [10]
def anewL : List UInt8 := join (([⟨#[97, 110, 101, 119]⟩] : List ByteArray).map (·.data.toList)) [32] ++ [10]
def verdL : List UInt8 := join (([⟨#[118, 101, 114, 100, 105, 99, 116]⟩, ⟨#[109, 97, 121, 98, 101]⟩] : List ByteArray).map (·.data.toList)) [32] ++ [10]
set_option maxRecDepth 100000 in
set_option maxHeartbeats 4000000 in
theorem report_one (s : Se) (m : Me) (B : Nat) (log : List (ByteArray × ByteArray)) (A : Option Addr) (c C : Nat) (w : World) (hs : SeOk s m B w) (hl : LogOk log A c C w) (hL : LibW w) (hQ : Quant w) (hT : Tz w) (hW : WordsW w)
    (st : In) (nm bb sec : ByteArray) (po row : Int) (q : Nat → Int) (hRV : replV s log = (st, 0, 0)) (hms : st.ms = [⟨nm, bb, po, q, 1, row, 0, sec⟩]) (hp : -1000000000 ≤ po ∧ po ≤ 1000000000) (hr : -1000000000 ≤ row ∧ row ≤ 1000000000)
    (hj : (accL nm po row).length ≤ 1000) (han : anewR s.tk (readsL st.sc) = []) (hv : verdV st = 1) :
    Calls Tryz.prog 14 #[.agg (seC s m), .slice A log.length c] w fun e w' => e = .returned (.tuple #[.string (strB (accL nm po row ++ (anewL ++ verdL))), .int .i64 0]) ∧ Below w.heap.size w w' := by
  have hb := hs.base
  have b0 := Blk.new w 33 (seC s m)
  have hB0 : Below w.heap.size w (w.alloc (.cells (seC s m) 33)) := (by repeat (first | (with_reducible exact Below.refl _ _) | (with_reducible assumption) | ((with_reducible refine Below.setCell ?_ ?_ _); rotate_left; · (first | exact Nat.le_refl _ | (simp; done) | (simp; omega) | omega)) | ((with_reducible refine Below.alloc ?_ ?_ _); rotate_left; · (first | exact Nat.le_refl _ | (simp; done) | (simp; omega) | omega)) | (with_reducible apply Below.drew) | (with_reducible apply below_drewN') | (refine Below.trans ?_ (Below.mono (by assumption) (by first | exact Nat.le_refl _ | (simp; done) | (simp; omega) | omega))) | exact Below.refl _ _ | assumption))
  have HRP := Lib.hid (replay_any s m B log A c C _ (hs.below hB0 hb) (hl.below hB0 hl.base) (hL.below hB0 (Nat.le_refl _)) (hQ.below hB0 (Nat.le_refl _)) (hT.below hB0 (Nat.le_refl _)))
  have HL := Lib.hid hL; have HW := Lib.hid hW; have HMS := Lib.hid hms; have HAN := Lib.hid han; have HV := Lib.hid hv; have HRV := Lib.hid hRV
  have HJ : Hid ((join ((nm :: accW nm po row).map (·.data.toList)) [32]).length ≤ 1000) := Lib.hid (by unfold accL at hj; rw [List.length_append] at hj; omega)
  have HJ2 : Hid ((accL nm po row).length ≤ 1000) := Lib.hid hj
  have HLE : Hid (∀ l, l ++ accL nm po row = l ++ (join ((nm :: accW nm po row).map (·.data.toList)) [32] ++ [10])) := Lib.hid fun l => rfl
  generalize accL nm po row = AL at *
  clear hs hl hL hQ hT hW hms han hv hRV hj
  obtain ⟨c0, c1, c2, c3, c4, c5, c6, c7, c8, c9, c10, c11, c12, cf⟩ := blk13 b0
  go_enter Tryz.func14, Tryz.ntmps14
  go_wp2_with fail
  refine HRP.out.mono ?_
  rintro e wA ⟨hR, hB1⟩
  clear c0 c1 c2 c3 c4 c5 c6 c7 c8 c9 c10 c11 c12 cf b0 HRP
  unfold ReplR at hR
  rw [HRV.out] at hR
  rcases hR with ⟨hbad, _⟩ | ⟨_, base, bx, a, hN, rfl, hI⟩
  · exact absurd rfl hbad
  have hBB : Below w.heap.size w wA := hB0.trans (hB1.mono (by simp))
  clear hB1 hB0 hN
  simp only at hI
  have HX : Hid (∀ W, Below wA.heap.size wA W → Isp s m B base bx a st W) := Lib.hid fun W h => hI.below h (Nat.le_refl _)
  have HBW : Hid (∀ W, Below wA.heap.size wA W → Below w.heap.size w W) := Lib.hid fun W h => hBB.trans (h.mono hBB.size)
  clear hBB hI
  have hI2 : IsBuilderF 85 5 wA.heap.size wA.heap.size (Go.Lib.byteCells []) (wA.alloc (.cells #[.pointer none, .slice none 0 0] 85)) := IsBuilderF.of (fresh_isBuilder 85 5 wA)
  have hB2 : Below wA.heap.size wA (wA.alloc (.cells #[.pointer none, .slice none 0 0] 85)) := (Below.refl _ _).alloc (Nat.le_refl _) _
  generalize hW2 : wA.alloc (.cells #[.pointer none, .slice none 0 0] 85) = W2 at *
  obtain ⟨c0, c1, c2, c3, c4, c5, c6, c7, c8, c9, c10, c11, c12, c13, c14, c15, c16, cf⟩ := blk17 (HX.out _ hB2).blk
  have lb := (HX.out _ hB2).blk.lt
  clear c0 c1 c2 c3 c4 c5 c6 c7 c8 c9 c10 c11 c12 c13 c14 c16 cf
  rw [HMS.out] at c15
  simp only [List.length_cons, List.length_nil, Nat.zero_add] at c15
  go_upto_region 6 with fail
  clear hW2
  generalize wA.heap.size = b at *
  go_wp2
  clear c15 lb
  go_loopw [30] (fun i wr => ∃ k : Nat, k ≤ 1 ∧ i = .int .i64 k ∧ Hid (IsBuilderF 85 5 b b (Go.Lib.byteCells (if k = 0 then [] else [] ++ AL)) wr) ∧ Below b wA wr) (fun i _ => 1 - (intOf i).toNat)
  case atStart => exact ⟨0, Nat.zero_le _, rfl, Lib.hid hI2, hB2⟩
  case round =>
    clear hB2 hI2
    obtain ⟨k, hk, rfl, HI, hBr⟩ := hrel
    by_cases hlt : k < 1
    · have hk0 : k = 0 := by omega
      have hI : IsBuilderF 85 5 b b (Go.Lib.byteCells []) wr := by have := HI.out; rwa [if_pos hk0] at this
      have hR := own_row_ (HX.out _ hBr).ms
      rw [HMS.out] at hR
      obtain ⟨g, o, hA, hg, c0, c1, c2, c3, c4, c5, c6, c7, c8, c9, c10, c11, c12⟩ := hR.at13 mkF_len (k := k) (by simpa using hlt) (by rw [List.getElem_singleton]; rfl)
      have HK0 := Lib.hid hk0; clear hk0 hR
      rw [hA]
      have hki : (k : Int) < 1 := by omega
      clear hA HI
      go_upto_region 9 with fail
      have bm := Blk.new wr 95 #[.string nm, .string bb, .int .i64 po, .int .i64 (q 0), .int .i64 (q 1), .int .i64 (q 2), .int .i64 (q 3), .int .i64 (q 4), .int .i64 (q 5), .int .i64 1, .int .i64 row, .int .i64 0, .string sec]
      have hal : Gr wr (wr.alloc (.cells #[.string nm, .string bb, .int .i64 po, .int .i64 (q 0), .int .i64 (q 1), .int .i64 (q 2), .int .i64 (q 3), .int .i64 (q 4), .int .i64 (q 5), .int .i64 1, .int .i64 row, .int .i64 0, .string sec] 95)) := (Below.refl _ _).alloc (Nat.le_refl _) _
      have hBa : Below b wA (wr.alloc (.cells #[.string nm, .string bb, .int .i64 po, .int .i64 (q 0), .int .i64 (q 1), .int .i64 (q 2), .int .i64 (q 3), .int .i64 (q 4), .int .i64 (q 5), .int .i64 1, .int .i64 row, .int .i64 0, .string sec] 95)) := hBr.alloc (Nat.le_of_lt hI.lt_) _
      replace hI := hI.gr hal
      clear c0 c1 c2 c3 c4 c5 c6 c7 c8 c9 c10 c11 c12 hal hg
      generalize wr.alloc (.cells #[.string nm, .string bb, .int .i64 po, .int .i64 (q 0), .int .i64 (q 1), .int .i64 (q 2), .int .i64 (q 3), .int .i64 (q 4), .int .i64 (q 5), .int .i64 1, .int .i64 row, .int .i64 0, .string sec] 95) = W8 at *
      generalize wr.heap.size = gm at *
      refine wp_region_w (fun w' => Below b wA w') (by kernel_rfl) (hBa.drew) ?_
      refine wpW_det (t' := ?ct0R27) 0 (by rfl) (by kernel_rfl) (NQ_free _) (by kernel_rfl) ?cw0R27 ?ch0R27 ?ca0R27 (Eq.refl _) ?cH0R27
      case cw0R27 => (go_simp; done)
      case ch0R27 =>
        intro ds w' hS K hK
        go_simp
        try go_bits
        exact hK _ hS (Gr.refl _)
      case ca0R27 => (first | (simp [Act.put]; done) | (simp [Act.put, *]; done))
      try dsimp only
      refine wpW_det (t' := ?ct1R27) 1 (by rfl) (by kernel_rfl) (NQ_free _) (by kernel_rfl) ?cw1R27 ?ch1R27 ?ca1R27 (Eq.refl _) ?cH1R27
      case cw1R27 => (go_simp; done)
      case ch1R27 =>
        intro ds w' hS K hK
        go_simp
        try go_bits
        exact hK _ hS (Gr.refl _)
      case ca1R27 => (first | (simp [Act.put]; done) | (simp [Act.put, *]; done))
      try dsimp only
      have hI : IsBuilderF 85 5 b b (Go.Lib.byteCells []) W8.drew := hI
      have bm : Blk W8.drew gm 95 #[.string nm, .string bb, .int .i64 po, .int .i64 (q 0), .int .i64 (q 1), .int .i64 (q 2), .int .i64 (q 3), .int .i64 (q 4), .int .i64 (q 5), .int .i64 1, .int .i64 row, .int .i64 0, .string sec] := bm.drew
      refine wpW_branch [2, 3] (by kernel_rfl) (by simp) ?_
      intro w1 hg1 hS1
      try clear z
      have z : Below b wA w1 := hS1
      replace hI := hI.gr hg1
      replace bm := Blk.gr bm hg1
      obtain ⟨e0, e1, e2, e3, e4, e5, e6, e7, e8, e9, e10, e11, e12, ef⟩ := blk13 bm
      have lm := bm.lt
      refine each_cons ?_ (each_cons ?_ (each_nil))
      · refine wpOp_go (by rfl) (Eq.refl _) (by go_simp; done) ?_
        intro K hK
        go_simp
        try simp only [Act.put]
        refine hK _ _ z ?_
        clear hK K lm ef e0 e1 e2 e3 e4 e5 e6 e7 e8 e9 e10 e11 e12
        refine wpW_branch [3] (by kernel_rfl) (by simp) ?_
        intro w2 hg2 hS2
        try clear z
        have z : Below b wA w2 := hS2
        replace hI := hI.gr hg2
        replace bm := Blk.gr bm hg2
        obtain ⟨e0, e1, e2, e3, e4, e5, e6, e7, e8, e9, e10, e11, e12, ef⟩ := blk13 bm
        have lm := bm.lt
        refine each_cons ?_ (each_nil)
        refine wpOp_go (by rfl) (Eq.refl _) (by go_simp; done) ?_
        intro K hK
        go_simp
        try simp only [Act.put]
        refine hK _ _ z ?_
        clear hK K lm ef e0 e1 e2 e3 e4 e5 e6 e7 e8 e9 e10 e11 e12
        refine wpW_branch [4] (by kernel_rfl) (by simp) ?_
        intro w3 hg3 hS3
        try clear z
        have z : Below b wA w3 := hS3
        replace hI := hI.gr hg3
        refine each_cons ?_ (each_nil)
        refine wpOp_go (by rfl) (Eq.refl _) (by go_simp; done) ?_
        intro K hK
        go_simp
        try simp only [Act.put]
        try clear lm ef e0 e1 e2 e3 e4 e5 e6 e7 e8 e9 e10 e11 e12
        refine (wordsOf_acc nm bb sec po row q _ hp hr (HL.out.below (HBW.out _ z) (Nat.le_refl _)) (HW.out.below (HBW.out _ z) (Nat.le_refl _))).mono ?_
        rintro e wq ⟨v, rfl, hv, hBq⟩
        have hbd : b ≤ w3.heap.size := Nat.le_of_lt hI.lt_
        replace hI := hI.gr hBq
        try replace bm := Blk.gr bm hBq
        replace z := Below.trans z (Below.mono hBq hbd)
        refine hK _ _ z ?_
        clear hK K hBq
        refine wpW_branch [5] (by kernel_rfl) (by simp) ?_
        intro w4 hg4 hS4
        try clear z
        have z : Below b wA w4 := hS4
        replace hI := hI.gr hg4
        replace hv := own_below hv hg4
        refine each_cons ?_ (each_nil)
        refine wpOp_go (by rfl) (Eq.refl _) (by go_simp; done) ?_
        intro K hK
        go_simp
        try simp only [Act.put]
        obtain ⟨A', c', e1', _, _, _⟩ := Row.ownd hv
        subst e1'
        refine (repLine_any nm (accW nm po row) A' c' w4.heap.size b [] w4 (own_row_ hv) (Nat.le_refl _) (own_src hv).2.2 (Nat.le_trans HJ.out (by decide)) (by simp [accW]) (by simp) hI).mono ?_
        rintro e wq ⟨⟨u, rfl⟩, hI2, hBq⟩
        replace z := Below.trans z hBq
        refine hK _ _ z ?_
        clear hK K hBq hI hv
        refine wpW_end (by kernel_rfl) ?_
        intro we hg hS
        unfold NQ
        dsimp only
        have HI9 : Hid (IsBuilderF 85 5 b b (Go.Lib.byteCells (if k + 1 = 0 then [] else [] ++ AL)) we) := Lib.hid (by rw [if_neg (by omega), HLE.out]; exact hI2.gr hg)
        go_wp2
        refine ⟨⟨k + 1, by omega, by go_num, HI9, hS⟩, by simp [intOf]; omega⟩
      · refine wpOp_go (by rfl) (Eq.refl _) (by go_simp; done) ?_
        intro K hK
        go_simp
        try simp only [Act.put]
        refine hK _ _ z ?_
        clear hK K lm ef e0 e1 e2 e3 e4 e5 e6 e7 e8 e9 e10 e11 e12
        refine wpW_branch [2, 4] (by kernel_rfl) (by simp) ?_
        intro w2 hg2 hS2
        try clear z
        have z : Below b wA w2 := hS2
        replace hI := hI.gr hg2
        replace bm := Blk.gr bm hg2
        obtain ⟨e0, e1, e2, e3, e4, e5, e6, e7, e8, e9, e10, e11, e12, ef⟩ := blk13 bm
        have lm := bm.lt
        refine each_cons ?_ (each_cons ?_ (each_nil))
        · refine wpOp_go (by rfl) (Eq.refl _) (by go_simp; done) ?_
          intro K hK
          go_simp
          try simp only [Act.put]
          refine hK _ _ z ?_
          clear hK K lm ef e0 e1 e2 e3 e4 e5 e6 e7 e8 e9 e10 e11 e12
          refine wpW_branch [4] (by kernel_rfl) (by simp) ?_
          intro w3 hg3 hS3
          try clear z
          have z : Below b wA w3 := hS3
          replace hI := hI.gr hg3
          refine each_cons ?_ (each_nil)
          refine wpOp_go (by rfl) (Eq.refl _) (by go_simp; done) ?_
          intro K hK
          go_simp
          try simp only [Act.put]
          try clear lm ef e0 e1 e2 e3 e4 e5 e6 e7 e8 e9 e10 e11 e12
          refine (wordsOf_acc nm bb sec po row q _ hp hr (HL.out.below (HBW.out _ z) (Nat.le_refl _)) (HW.out.below (HBW.out _ z) (Nat.le_refl _))).mono ?_
          rintro e wq ⟨v, rfl, hv, hBq⟩
          have hbd : b ≤ w3.heap.size := Nat.le_of_lt hI.lt_
          replace hI := hI.gr hBq
          try replace bm := Blk.gr bm hBq
          replace z := Below.trans z (Below.mono hBq hbd)
          refine hK _ _ z ?_
          clear hK K hBq
          refine wpW_branch [5] (by kernel_rfl) (by simp) ?_
          intro w4 hg4 hS4
          try clear z
          have z : Below b wA w4 := hS4
          replace hI := hI.gr hg4
          replace hv := own_below hv hg4
          refine each_cons ?_ (each_nil)
          refine wpOp_go (by rfl) (Eq.refl _) (by go_simp; done) ?_
          intro K hK
          go_simp
          try simp only [Act.put]
          obtain ⟨A', c', e1', _, _, _⟩ := Row.ownd hv
          subst e1'
          refine (repLine_any nm (accW nm po row) A' c' w4.heap.size b [] w4 (own_row_ hv) (Nat.le_refl _) (own_src hv).2.2 (Nat.le_trans HJ.out (by decide)) (by simp [accW]) (by simp) hI).mono ?_
          rintro e wq ⟨⟨u, rfl⟩, hI2, hBq⟩
          replace z := Below.trans z hBq
          refine hK _ _ z ?_
          clear hK K hBq hI hv
          refine wpW_end (by kernel_rfl) ?_
          intro we hg hS
          unfold NQ
          dsimp only
          have HI9 : Hid (IsBuilderF 85 5 b b (Go.Lib.byteCells (if k + 1 = 0 then [] else [] ++ AL)) we) := Lib.hid (by rw [if_neg (by omega), HLE.out]; exact hI2.gr hg)
          go_wp2
          refine ⟨⟨k + 1, by omega, by go_num, HI9, hS⟩, by simp [intOf]; omega⟩
        · refine wpOp_go (by rfl) (Eq.refl _) (by go_simp; done) ?_
          intro K hK
          go_simp
          try simp only [Act.put]
          try clear lm ef e0 e1 e2 e3 e4 e5 e6 e7 e8 e9 e10 e11 e12
          refine (wordsOf_acc nm bb sec po row q _ hp hr (HL.out.below (HBW.out _ z) (Nat.le_refl _)) (HW.out.below (HBW.out _ z) (Nat.le_refl _))).mono ?_
          rintro e wq ⟨v, rfl, hv, hBq⟩
          have hbd : b ≤ w2.heap.size := Nat.le_of_lt hI.lt_
          replace hI := hI.gr hBq
          try replace bm := Blk.gr bm hBq
          replace z := Below.trans z (Below.mono hBq hbd)
          refine hK _ _ z ?_
          clear hK K hBq
          refine wpW_branch [2] (by kernel_rfl) (by simp) ?_
          intro w3 hg3 hS3
          try clear z
          have z : Below b wA w3 := hS3
          replace hI := hI.gr hg3
          replace bm := Blk.gr bm hg3
          obtain ⟨e0, e1, e2, e3, e4, e5, e6, e7, e8, e9, e10, e11, e12, ef⟩ := blk13 bm
          have lm := bm.lt
          replace hv := own_below hv hg3
          refine each_cons ?_ (each_nil)
          refine wpOp_go (by rfl) (Eq.refl _) (by go_simp; done) ?_
          intro K hK
          go_simp
          try simp only [Act.put]
          refine hK _ _ z ?_
          clear hK K lm ef e0 e1 e2 e3 e4 e5 e6 e7 e8 e9 e10 e11 e12
          refine wpW_branch [5] (by kernel_rfl) (by simp) ?_
          intro w4 hg4 hS4
          try clear z
          have z : Below b wA w4 := hS4
          replace hI := hI.gr hg4
          replace hv := own_below hv hg4
          refine each_cons ?_ (each_nil)
          refine wpOp_go (by rfl) (Eq.refl _) (by go_simp; done) ?_
          intro K hK
          go_simp
          try simp only [Act.put]
          obtain ⟨A', c', e1', _, _, _⟩ := Row.ownd hv
          subst e1'
          refine (repLine_any nm (accW nm po row) A' c' w4.heap.size b [] w4 (own_row_ hv) (Nat.le_refl _) (own_src hv).2.2 (Nat.le_trans HJ.out (by decide)) (by simp [accW]) (by simp) hI).mono ?_
          rintro e wq ⟨⟨u, rfl⟩, hI2, hBq⟩
          replace z := Below.trans z hBq
          refine hK _ _ z ?_
          clear hK K hBq hI hv
          refine wpW_end (by kernel_rfl) ?_
          intro we hg hS
          unfold NQ
          dsimp only
          have HI9 : Hid (IsBuilderF 85 5 b b (Go.Lib.byteCells (if k + 1 = 0 then [] else [] ++ AL)) we) := Lib.hid (by rw [if_neg (by omega), HLE.out]; exact hI2.gr hg)
          go_wp2
          refine ⟨⟨k + 1, by omega, by go_num, HI9, hS⟩, by simp [intOf]; omega⟩
    · have hk1 : k = 1 := by omega
      subst hk1
      have hI : IsBuilderF 85 5 b b (Go.Lib.byteCells ([] ++ AL)) wr := HI.out
      clear HI
      have hbr : b ≤ wr.heap.size := Nat.le_of_lt hI.lt_
      go_wp2_with fail
      refine (anewWords_nil s m B base bx a st wr (HX.out _ hBr) HAN.out).mono ?_
      rintro e w5 ⟨rfl, hB5⟩
      replace hI := hI.gr hB5
      have hB6 : Below b wA w5 := hBr.trans (hB5.mono hbr)
      clear hB5 hbr hBr
      go_wp2_with fail
      refine (repLine_any ⟨#[97, 110, 101, 119]⟩ [] none 0 0 b ([] ++ AL) w5 ⟨rfl, fun h => absurd h (by decide)⟩ (Nat.zero_le _) (fun _ => rfl) (by decide) (by simp) (by have := HJ2.out; simp; omega) hI).mono ?_
      rintro e w6 ⟨⟨u, rfl⟩, hI6, hB7⟩
      replace hI6 : IsBuilderF 85 5 b b (Go.Lib.byteCells ([] ++ AL ++ anewL)) w6 := hI6
      have hB8 := hB6.trans hB7
      clear hB6 hB7 hI
      have hb6 : b ≤ w6.heap.size := Nat.le_of_lt hI6.lt_
      go_wp2_with fail
      refine (verdict_any s m B base bx a st w6 (HX.out _ hB8)).mono ?_
      rw [HV.out]
      rintro e w7 ⟨rfl, hB9⟩
      have hI7 := hI6.gr hB9
      have hB10 : Below b wA w7 := hB8.trans (hB9.mono hb6)
      clear hB8 hB9 hI6 hb6
      have a0 := (HW.out.below (HBW.out _ hB10) (Nat.le_refl _)).may
      have la := World.block_lt_of_cell? _ _ a0
      simp only at la
      have hb7 : b ≤ w7.heap.size := Nat.le_of_lt hI7.lt_
      have bn := Blk.new w7 9 #[.string ⟨#[109, 97, 121, 98, 101]⟩]
      have hal : Gr w7 (w7.alloc (.cells #[.string ⟨#[109, 97, 121, 98, 101]⟩] 9)) := (Below.refl _ _).alloc (Nat.le_refl _) _
      have hI8 := hI7.gr hal
      have hB11 : Below b wA (w7.alloc (.cells #[.string ⟨#[109, 97, 121, 98, 101]⟩] 9)) := hB10.alloc hb7 _
      have HLN : Hid (([] ++ AL ++ anewL).length ≤ 1000000) := Lib.hid (by
        have h1 := HJ2.out
        have h2 : anewL.length = 5 := by decide
        simp only [List.nil_append, List.length_append]
        omega)
      clear hal hI7
      go_wp2_with fail
      refine (repLine_any ⟨#[118, 101, 114, 100, 105, 99, 116]⟩ [⟨#[109, 97, 121, 98, 101]⟩] (some ⟨w7.heap.size, 0, none⟩) 1 _ b ([] ++ AL ++ anewL) _ (own_row_ (own_one bn)) (Nat.le_refl _) (fun e => by cases e) (by decide) (by simp) HLN.out hI8).mono ?_
      rintro e w9 ⟨⟨u, rfl⟩, hI9, hB12⟩
      replace hI9 : IsBuilderF 85 5 b b (Go.Lib.byteCells ([] ++ AL ++ anewL ++ verdL)) w9 := hI9
      have hB13 := hB11.trans hB12
      clear hB12 hB11 hB10 hI8 bn a0 la
      go_wp2_with fail
      refine (buStr_any b _ w9 hI9 (Nat.le_of_lt hI9.lt_)).mono ?_
      rintro e w10 ⟨rfl, hB14⟩
      have HF := Lib.hid (HBW.out _ (hB13.trans hB14))
      go_wp2
      go_ret2
      exact ⟨rfl, HF.out⟩
set_option maxRecDepth 100000 in
set_option maxHeartbeats 4000000 in
/-- What must be scanned anew behind a right log. -/
theorem anewOf_right (s : Se) (m : Me) (B : Nat) (log : List (ByteArray × ByteArray)) (A : Option Addr) (c C : Nat) (w : World) (hs : SeOk s m B w) (hl : LogOk log A c C w) (hL : LibW w) (hQ : Quant w) (hT : Tz w) (st : In) (hRV : replV s log = (st, 0, 0)) :
    Calls Tryz.prog 10 #[.agg (seC s m), .slice A log.length c] w fun e w' => ∃ v, e = .returned (.tuple #[v, .int .i64 0]) ∧ w'.ownsRow w.heap.size 68 2 v (anewR s.tk (readsL st.sc)).length (rngsC (anewR s.tk (readsL st.sc))) ∧ Below w.heap.size w w' := by
  have hb := hs.base
  have b0 := Blk.new w 33 (seC s m)
  have hB0 : Below w.heap.size w (w.alloc (.cells (seC s m) 33)) := (by repeat (first | (with_reducible exact Below.refl _ _) | (with_reducible assumption) | ((with_reducible refine Below.setCell ?_ ?_ _); rotate_left; · (first | exact Nat.le_refl _ | (simp; done) | (simp; omega) | omega)) | ((with_reducible refine Below.alloc ?_ ?_ _); rotate_left; · (first | exact Nat.le_refl _ | (simp; done) | (simp; omega) | omega)) | (with_reducible apply Below.drew) | (with_reducible apply below_drewN') | (refine Below.trans ?_ (Below.mono (by assumption) (by first | exact Nat.le_refl _ | (simp; done) | (simp; omega) | omega))) | exact Below.refl _ _ | assumption))
  have HRP := Lib.hid (replay_any s m B log A c C _ (hs.below hB0 hb) (hl.below hB0 hl.base) (hL.below hB0 (Nat.le_refl _)) (hQ.below hB0 (Nat.le_refl _)) (hT.below hB0 (Nat.le_refl _)))
  have HRV := Lib.hid hRV
  clear hs hl hL hQ hT hRV
  obtain ⟨c0, c1, c2, c3, c4, c5, c6, c7, c8, c9, c10, c11, c12, cf⟩ := blk13 b0
  go_enter Tryz.func10, Tryz.ntmps10
  go_wp2_with fail
  refine HRP.out.mono ?_
  rintro e w1 ⟨hR, hB1⟩
  clear c0 c1 c2 c3 c4 c5 c6 c7 c8 c9 c10 c11 c12 cf b0 HRP
  unfold ReplR at hR
  rw [HRV.out] at hR
  rcases hR with ⟨hbad, _⟩ | ⟨_, base, bx, a, hN, rfl, hI⟩
  · exact absurd rfl hbad
  have hBB : Below w.heap.size w w1 := hB0.trans (hB1.mono (by simp))
  clear hB1 hB0 hN
  have HA := Lib.hid (insAnew_any s m B base bx a st w1 hI)
  clear hI
  go_wp2_with fail
  refine HA.out.mono ?_
  rintro e w2 ⟨v, rfl, hv, hB2⟩
  have HV := Lib.hid (hv.mono (base' := w.heap.size) hBB.size)
  have hB3 : Below w.heap.size w w2 := hBB.trans (hB2.mono hBB.size)
  clear hv hB2 HA
  go_wp2
  go_ret2
  exact ⟨v, rfl, HV.out, hB3⟩
end Go.Proofs.YtmdbpkomanhpoaaGreatDoor
