/- Contract of the law of what must be scanned anew: true. -/
import Derived.Test.YtfbnpfhnffahdaaGreatDoorCwE
namespace Go.Proofs.YtfbnpfhnffahdaaGreatDoor
open Go.RowKit

def arC (x0 x1 : Int) : Array Value := #[.int .i64 x0, .int .i64 x1]
theorem strV_len (t : Tk) (zs : List Int) (b : Bool) : (strV t zs b).length ≤ zs.length + 1 := by
  cases b
  · exact anew_length t zs
  · have := scan_length t zs; show (scanV t zs).length ≤ _; omega
theorem openE_of {t : Tk} {zs : List Int} (h0 : trackE t = 0) (h1 : zs.length ≤ 200) (h2 : ∀ p ∈ zs, -2000000 ≤ p ∧ p ≤ 2000000) : openE t zs = 0 := by
  unfold openE readE
  rw [if_pos h0, if_neg (by omega), if_pos]
  rw [List.all_eq_true]
  intro p hp
  have := h2 p hp
  simp [wi, this]
theorem own_one (w : World) (x : Int) (base : Nat) (hb : base ≤ w.heap.size) : (w.alloc (.cells #[.int .i64 x] 3)).ownsRow base 3 1 (.slice (some ⟨w.heap.size, 0, none⟩) 1 1) 1 (intsC [x]) :=
  ⟨rfl, .inr ⟨w.heap.size, 1, #[.int .i64 x], rfl, hb, heap_alloc_new w _, Nat.le_refl _, by simp [maxLen], rfl, rfl⟩⟩
theorem drop_rev (zs : List Int) (r : Nat) (h : r < zs.length) : (zs.drop r).reverse = (zs.drop (r + 1)).reverse ++ [zs[r]] := by
  rw [List.drop_eq_getElem_cons h, List.reverse_cons]

set_option maxRecDepth 100000 in
set_option maxHeartbeats 8000000 in
theorem coverAnew_any (t : Tk) (zs : List Int) (x0 x1 : Int) (A : Option Addr) (c B : Nat) (w : World) (hi : ∀ p ∈ zs, I64 p) (hR : Row w B 1 A zs.length (intsC zs)) (hB : B ≤ w.heap.size) (hA : A = none → c = 0) (hE : Ends w) (hlen : zs.length ≤ 9223372036854775807) (hx0 : I64 x0) (hx1 : I64 x1) :
    Calls Tryz.prog 6 #[.agg (tkC t), .slice A zs.length c, .agg (arC x0 x1)] w fun e w' => e = .returned (.bool true) ∧ Below w.heap.size w w' := by
  have hE1 : Hid (Ends ((w.alloc (.cells (tkC t) 61)).alloc (.cells (arC x0 x1) 73))) := Lib.hid (hE.below (((Below.refl _ _).alloc (Nat.le_refl _) _).alloc (by simp) _))
  clear hE
  have HA := Lib.hid hA; clear hA
  have HI := Lib.hid hi; clear hi
  have HX := Lib.hid hx1; clear hx1
  have b0 := (Blk.new w 61 (tkC t)).alloc (.cells (arC x0 x1) 73 (0, 0))
  have y0 := Blk.new' (w.alloc (.cells (tkC t) 61)) 73 (arC x0 x1) (g := w.heap.size + 1) (by simp)
  have hB0 : Below w.heap.size w ((w.alloc (.cells (tkC t) 61)).alloc (.cells (arC x0 x1) 73)) := ((Below.refl _ _).alloc (Nat.le_refl _) _).alloc (by simp) _
  unfold tkC arC at *
  go_enter Tryz.func6, Tryz.ntmps6
  go_wp2_with fail
  refine (awake_any _ hE1.out).mono ?_
  rintro e w1c ⟨rfl, hB1⟩
  have b1 := b0.below hB1 b0.lt
  have y1 := y0.below hB1 y0.lt
  have hBB := hB0.trans (hB1.mono (Below.size hB0))
  clear hB1 b0 y0 hB0 hE1
  have lb := b1.lt
  obtain ⟨t0, t1, t2, t3, _⟩ := blk4 b1
  by_cases q1 : 20 < zs.length
  · have q2 : (20 : Int) < (zs.length : Int) := by omega
    go_wp2
    go_ret
    exact ⟨rfl, hBB⟩
  · have q2 : (zs.length : Int) ≤ 20 := by omega
    go_wp2_with fail
    refine (rCheckTrack_any t _).mono ?_
    rintro e w2c ⟨rfl, hB2⟩
    have b2 := b1.below hB2 b1.lt
    have y2 := y1.below hB2 y1.lt
    have hBB2 := hBB.trans (hB2.mono (Below.size hBB))
    clear hB2 b1 y1 hBB t0 t1 t2 t3 lb
    by_cases h0 : trackE t = 0
    · have hq0 : (trackE t != 0) = false := by simpa using h0
      have H0 := Lib.hid h0
      obtain ⟨T1, T2, T3, T4, T5⟩ := trackE_zero h0
      clear h0
      go_wp2_with fail
      refine (rReadingsErr_any zs A c B _ ⟨by omega, HI.out, hR.below hBB2 hB, Nat.le_trans hB (Below.size hBB2)⟩).mono ?_
      rintro e w1c ⟨rfl, hB1⟩
      have b1 := b2.below hB1 b2.lt
      have y1 := y2.below hB1 y2.lt
      have hBB := hBB2.trans (hB1.mono (Below.size hBB2))
      clear hB1 b2 y2 hBB2
      by_cases h1 : readE zs = 0
      · have hq1 : (readE zs != 0) = false := by simpa using h1
        have HO : Hid (openE t zs = 0) := Lib.hid ((readE_openE H0.out).trans h1)
        have HZ : Hid (∀ p ∈ zs, -2000000 ≤ p ∧ p ≤ 2000000) := Lib.hid (openE_zero HO.out).2.2
        clear h1
        have lb := b1.lt
        have ly := y1.lt
        obtain ⟨t0, t1, t2, t3, _⟩ := blk4 b1
        go_wp2_with fail
        refine wp_region_w (Gr _) (by kernel_rfl) (Below.refl _ _).drew ?_
        refine wpW_det (t' := ?ct0R1) 0 (by rfl) (by kernel_rfl) (NQ_free _) (by kernel_rfl) ?cw0R1 ?ch0R1 ?ca0R1 (Eq.refl _) ?cH0R1
        case cw0R1 => (go_simp; done)
        case ch0R1 =>
          intro ds w' hS K hK
          have hc := (bcell hS).1
          have hf := (bcell hS).2
          have hz := hS.size
          try simp at hz
          go_simp
          try go_bits
          first
            | exact hK _ hS (Gr.refl _)
            | exact hK _ (by repeat (first | (with_reducible exact Below.refl _ _) | (with_reducible assumption) | ((with_reducible refine Below.setCell ?_ ?_ _); rotate_left; · (first | exact Nat.le_refl _ | (simp; done) | (simp; omega) | omega)) | ((with_reducible refine Below.alloc ?_ ?_ _); rotate_left; · (first | exact Nat.le_refl _ | (simp; done) | (simp; omega) | omega)) | (with_reducible apply Below.drew) | (with_reducible apply below_drewN') | (refine Below.trans ?_ (Below.mono (by assumption) (by first | exact Nat.le_refl _ | (simp; done) | (simp; omega) | omega))) | exact Below.refl _ _ | assumption)) (by repeat (first | (with_reducible exact Below.refl _ _) | (with_reducible assumption) | ((with_reducible refine Below.setCell ?_ ?_ _); rotate_left; · (first | exact Nat.le_refl _ | (simp; done) | (simp; omega) | omega)) | ((with_reducible refine Below.alloc ?_ ?_ _); rotate_left; · (first | exact Nat.le_refl _ | (simp; done) | (simp; omega) | omega)) | (with_reducible apply Below.drew) | (with_reducible apply below_drewN') | (refine Below.trans ?_ (Below.mono (by assumption) (by first | exact Nat.le_refl _ | (simp; done) | (simp; omega) | omega))) | exact Below.refl _ _ | assumption))
        case ca0R1 => (first | (simp [Act.put]; done) | (simp [Act.put, *]; done))
        try dsimp only
        refine wpW_det (t' := ?ct1R1) 1 (by rfl) (by kernel_rfl) (NQ_free _) (by kernel_rfl) ?cw1R1 ?ch1R1 ?ca1R1 (Eq.refl _) ?cH1R1
        case cw1R1 => (go_simp; done)
        case ch1R1 =>
          intro ds w' hS K hK
          have hc := (bcell hS).1
          have hf := (bcell hS).2
          have hz := hS.size
          try simp at hz
          go_simp
          try go_bits
          first
            | exact hK _ hS (Gr.refl _)
            | exact hK _ (by repeat (first | (with_reducible exact Below.refl _ _) | (with_reducible assumption) | ((with_reducible refine Below.setCell ?_ ?_ _); rotate_left; · (first | exact Nat.le_refl _ | (simp; done) | (simp; omega) | omega)) | ((with_reducible refine Below.alloc ?_ ?_ _); rotate_left; · (first | exact Nat.le_refl _ | (simp; done) | (simp; omega) | omega)) | (with_reducible apply Below.drew) | (with_reducible apply below_drewN') | (refine Below.trans ?_ (Below.mono (by assumption) (by first | exact Nat.le_refl _ | (simp; done) | (simp; omega) | omega))) | exact Below.refl _ _ | assumption)) (by repeat (first | (with_reducible exact Below.refl _ _) | (with_reducible assumption) | ((with_reducible refine Below.setCell ?_ ?_ _); rotate_left; · (first | exact Nat.le_refl _ | (simp; done) | (simp; omega) | omega)) | ((with_reducible refine Below.alloc ?_ ?_ _); rotate_left; · (first | exact Nat.le_refl _ | (simp; done) | (simp; omega) | omega)) | (with_reducible apply Below.drew) | (with_reducible apply below_drewN') | (refine Below.trans ?_ (Below.mono (by assumption) (by first | exact Nat.le_refl _ | (simp; done) | (simp; omega) | omega))) | exact Below.refl _ _ | assumption))
        case ca1R1 => (first | (simp [Act.put]; done) | (simp [Act.put, *]; done))
        try dsimp only
        refine wpW_branch [2] (by kernel_rfl) (by simp) ?_
        intro w2 hg_w2 hS_w2
        refine each_cons ?_ each_nil
        refine wpOp_go (by rfl) (Eq.refl _) (by go_simp; done) ?_
        intro K hK
        go_simp
        try simp only [Act.put]
        have hzw2 : InOk zs A c B w2 := ⟨by omega, HI.out, hR.below (hBB.trans (Below.mono hS_w2 (Below.size hBB))) hB, Nat.le_trans hB (Below.size (hBB.trans (Below.mono hS_w2 (Below.size hBB))))⟩
        refine (copyInts_any zs A c B w2 hzw2 HA.out).mono ?_
        rintro e w3 ⟨v, rfl, own3, hB3⟩
        obtain ⟨A3, c3, rfl, hR3⟩ := Row.own own3
        have hS3 : Gr w1c w3 := Below.trans hS_w2 (hB3.mono (Below.size hS_w2))
        refine hK _ _ hS3 ?_
        clear hK K own3 hB3 hS_w2 hg_w2 hzw2
        refine wpW_branch [3] (by kernel_rfl) (by simp) ?_
        intro w4 hg_w4 hS_w4
        refine each_cons ?_ each_nil
        refine wpOp_go (by rfl) (Eq.refl _) (by go_simp; done) ?_
        intro K hK
        go_simp
        try simp only [Act.put]
        refine (scanned_any t zs A3 c3 w3.heap.size w4 ⟨by omega, HI.out, hR3.below hg_w4 (Nat.le_refl _), Below.size hg_w4⟩).mono ?_
        rintro e w5 ⟨v, rfl, own5, hB5⟩
        obtain ⟨A5, c5, rfl, hR5⟩ := Row.own own5
        have hS5 : Gr w1c w5 := Below.trans hS_w4 (hB5.mono (Below.size hS_w4))
        refine hK _ _ hS5 ?_
        clear hK K own5 hB5 hS_w4 hg_w4 hR3 hS3
        refine wpW_det (t' := ?ct4R2) 4 (by rfl) (by kernel_rfl) (NQ_free _) (by kernel_rfl) ?cw4R2 ?ch4R2 ?ca4R2 (Eq.refl _) ?cH4R2
        case cw4R2 => (go_simp; done)
        case ch4R2 =>
          intro ds w' hS K hK
          have hc := (bcell hS).1
          have hf := (bcell hS).2
          have hz := hS.size
          try simp at hz
          go_simp
          try go_bits
          first
            | exact hK _ hS (Gr.refl _)
            | exact hK _ (by repeat (first | (with_reducible exact Below.refl _ _) | (with_reducible assumption) | ((with_reducible refine Below.setCell ?_ ?_ _); rotate_left; · (first | exact Nat.le_refl _ | (simp; done) | (simp; omega) | omega)) | ((with_reducible refine Below.alloc ?_ ?_ _); rotate_left; · (first | exact Nat.le_refl _ | (simp; done) | (simp; omega) | omega)) | (with_reducible apply Below.drew) | (with_reducible apply below_drewN') | (refine Below.trans ?_ (Below.mono (by assumption) (by first | exact Nat.le_refl _ | (simp; done) | (simp; omega) | omega))) | exact Below.refl _ _ | assumption)) (by repeat (first | (with_reducible exact Below.refl _ _) | (with_reducible assumption) | ((with_reducible refine Below.setCell ?_ ?_ _); rotate_left; · (first | exact Nat.le_refl _ | (simp; done) | (simp; omega) | omega)) | ((with_reducible refine Below.alloc ?_ ?_ _); rotate_left; · (first | exact Nat.le_refl _ | (simp; done) | (simp; omega) | omega)) | (with_reducible apply Below.drew) | (with_reducible apply below_drewN') | (refine Below.trans ?_ (Below.mono (by assumption) (by first | exact Nat.le_refl _ | (simp; done) | (simp; omega) | omega))) | exact Below.refl _ _ | assumption))
        case ca4R2 => (first | (simp [Act.put]; done) | (simp [Act.put, *]; done))
        try dsimp only
        refine wpW_det (t' := ?ct5R2) 5 (by rfl) (by kernel_rfl) (NQ_free _) (by kernel_rfl) ?cw5R2 ?ch5R2 ?ca5R2 (Eq.refl _) ?cH5R2
        case cw5R2 => (go_simp; done)
        case ch5R2 =>
          intro ds w' hS K hK
          have hc := (bcell hS).1
          have hf := (bcell hS).2
          have hz := hS.size
          try simp at hz
          go_simp
          try go_bits
          first
            | exact hK _ hS (Gr.refl _)
            | exact hK _ (by repeat (first | (with_reducible exact Below.refl _ _) | (with_reducible assumption) | ((with_reducible refine Below.setCell ?_ ?_ _); rotate_left; · (first | exact Nat.le_refl _ | (simp; done) | (simp; omega) | omega)) | ((with_reducible refine Below.alloc ?_ ?_ _); rotate_left; · (first | exact Nat.le_refl _ | (simp; done) | (simp; omega) | omega)) | (with_reducible apply Below.drew) | (with_reducible apply below_drewN') | (refine Below.trans ?_ (Below.mono (by assumption) (by first | exact Nat.le_refl _ | (simp; done) | (simp; omega) | omega))) | exact Below.refl _ _ | assumption)) (by repeat (first | (with_reducible exact Below.refl _ _) | (with_reducible assumption) | ((with_reducible refine Below.setCell ?_ ?_ _); rotate_left; · (first | exact Nat.le_refl _ | (simp; done) | (simp; omega) | omega)) | ((with_reducible refine Below.alloc ?_ ?_ _); rotate_left; · (first | exact Nat.le_refl _ | (simp; done) | (simp; omega) | omega)) | (with_reducible apply Below.drew) | (with_reducible apply below_drewN') | (refine Below.trans ?_ (Below.mono (by assumption) (by first | exact Nat.le_refl _ | (simp; done) | (simp; omega) | omega))) | exact Below.refl _ _ | assumption))
        case ca5R2 => (first | (simp [Act.put]; done) | (simp [Act.put, *]; done))
        try dsimp only
        refine wpW_det (t' := ?ct6R2) 6 (by rfl) (by kernel_rfl) (NQ_free _) (by kernel_rfl) ?cw6R2 ?ch6R2 ?ca6R2 (Eq.refl _) ?cH6R2
        case cw6R2 => (go_simp; done)
        case ch6R2 =>
          intro ds w' hS K hK
          have hc := (bcell hS).1
          have hf := (bcell hS).2
          have hz := hS.size
          try simp at hz
          go_simp
          try go_bits
          first
            | exact hK _ hS (Gr.refl _)
            | exact hK _ (by repeat (first | (with_reducible exact Below.refl _ _) | (with_reducible assumption) | ((with_reducible refine Below.setCell ?_ ?_ _); rotate_left; · (first | exact Nat.le_refl _ | (simp; done) | (simp; omega) | omega)) | ((with_reducible refine Below.alloc ?_ ?_ _); rotate_left; · (first | exact Nat.le_refl _ | (simp; done) | (simp; omega) | omega)) | (with_reducible apply Below.drew) | (with_reducible apply below_drewN') | (refine Below.trans ?_ (Below.mono (by assumption) (by first | exact Nat.le_refl _ | (simp; done) | (simp; omega) | omega))) | exact Below.refl _ _ | assumption)) (by repeat (first | (with_reducible exact Below.refl _ _) | (with_reducible assumption) | ((with_reducible refine Below.setCell ?_ ?_ _); rotate_left; · (first | exact Nat.le_refl _ | (simp; done) | (simp; omega) | omega)) | ((with_reducible refine Below.alloc ?_ ?_ _); rotate_left; · (first | exact Nat.le_refl _ | (simp; done) | (simp; omega) | omega)) | (with_reducible apply Below.drew) | (with_reducible apply below_drewN') | (refine Below.trans ?_ (Below.mono (by assumption) (by first | exact Nat.le_refl _ | (simp; done) | (simp; omega) | omega))) | exact Below.refl _ _ | assumption))
        case ca6R2 => (first | (simp [Act.put]; done) | (simp [Act.put, *]; done))
        try dsimp only
        refine wpW_det (t' := ?ct7R2) 7 (by rfl) (by kernel_rfl) (NQ_free _) (by kernel_rfl) ?cw7R2 ?ch7R2 ?ca7R2 (Eq.refl _) ?cH7R2
        case cw7R2 => (go_simp; done)
        case ch7R2 =>
          intro ds w' hS K hK
          have hc := (bcell hS).1
          have hf := (bcell hS).2
          have hz := hS.size
          try simp at hz
          go_simp
          try go_bits
          first
            | exact hK _ hS (Gr.refl _)
            | exact hK _ (by repeat (first | (with_reducible exact Below.refl _ _) | (with_reducible assumption) | ((with_reducible refine Below.setCell ?_ ?_ _); rotate_left; · (first | exact Nat.le_refl _ | (simp; done) | (simp; omega) | omega)) | ((with_reducible refine Below.alloc ?_ ?_ _); rotate_left; · (first | exact Nat.le_refl _ | (simp; done) | (simp; omega) | omega)) | (with_reducible apply Below.drew) | (with_reducible apply below_drewN') | (refine Below.trans ?_ (Below.mono (by assumption) (by first | exact Nat.le_refl _ | (simp; done) | (simp; omega) | omega))) | exact Below.refl _ _ | assumption)) (by repeat (first | (with_reducible exact Below.refl _ _) | (with_reducible assumption) | ((with_reducible refine Below.setCell ?_ ?_ _); rotate_left; · (first | exact Nat.le_refl _ | (simp; done) | (simp; omega) | omega)) | ((with_reducible refine Below.alloc ?_ ?_ _); rotate_left; · (first | exact Nat.le_refl _ | (simp; done) | (simp; omega) | omega)) | (with_reducible apply Below.drew) | (with_reducible apply below_drewN') | (refine Below.trans ?_ (Below.mono (by assumption) (by first | exact Nat.le_refl _ | (simp; done) | (simp; omega) | omega))) | exact Below.refl _ _ | assumption))
        case ca7R2 => (first | (simp [Act.put]; done) | (simp [Act.put, *]; done))
        try dsimp only
        refine wpW_det (t' := ?ct8R2) 8 (by rfl) (by kernel_rfl) (NQ_free _) (by kernel_rfl) ?cw8R2 ?ch8R2 ?ca8R2 (Eq.refl _) ?cH8R2
        case cw8R2 => (go_simp; done)
        case ch8R2 =>
          intro ds w' hS K hK
          have hc := (bcell hS).1
          have hf := (bcell hS).2
          have hz := hS.size
          try simp at hz
          go_simp
          try go_bits
          first
            | exact hK _ hS (Gr.refl _)
            | exact hK _ (by repeat (first | (with_reducible exact Below.refl _ _) | (with_reducible assumption) | ((with_reducible refine Below.setCell ?_ ?_ _); rotate_left; · (first | exact Nat.le_refl _ | (simp; done) | (simp; omega) | omega)) | ((with_reducible refine Below.alloc ?_ ?_ _); rotate_left; · (first | exact Nat.le_refl _ | (simp; done) | (simp; omega) | omega)) | (with_reducible apply Below.drew) | (with_reducible apply below_drewN') | (refine Below.trans ?_ (Below.mono (by assumption) (by first | exact Nat.le_refl _ | (simp; done) | (simp; omega) | omega))) | exact Below.refl _ _ | assumption)) (by repeat (first | (with_reducible exact Below.refl _ _) | (with_reducible assumption) | ((with_reducible refine Below.setCell ?_ ?_ _); rotate_left; · (first | exact Nat.le_refl _ | (simp; done) | (simp; omega) | omega)) | ((with_reducible refine Below.alloc ?_ ?_ _); rotate_left; · (first | exact Nat.le_refl _ | (simp; done) | (simp; omega) | omega)) | (with_reducible apply Below.drew) | (with_reducible apply below_drewN') | (refine Below.trans ?_ (Below.mono (by assumption) (by first | exact Nat.le_refl _ | (simp; done) | (simp; omega) | omega))) | exact Below.refl _ _ | assumption))
        case ca8R2 => (first | (simp [Act.put]; done) | (simp [Act.put, *]; done))
        try dsimp only
        refine wpW_end (by kernel_rfl) ?_
        intro w6 hg hS
        unfold NQ
        dsimp only
        have hRa := (hR5.below hg (Nat.le_refl _)).more (Below.size hg)
        have b6 := b1.below hS b1.lt
        have y6 := y1.below hS y1.lt
        have hB6 := hBB.trans (Below.mono hS (Below.size hBB))
        clear hg hS hS5 hR5
        clear t0 t1 t2 t3 b1 y1 hBB lb ly
        have lb := b6.lt
        have ly := y6.lt
        obtain ⟨t0, t1, t2, t3, _⟩ := blk4 b6
        go_wp2_with fail
        refine wp_region_w (Gr _) (by kernel_rfl) (Below.refl _ _).drew ?_
        refine wpW_det (t' := ?ct0R3) 0 (by rfl) (by kernel_rfl) (NQ_free _) (by kernel_rfl) ?cw0R3 ?ch0R3 ?ca0R3 (Eq.refl _) ?cH0R3
        case cw0R3 => (go_simp; done)
        case ch0R3 =>
          intro ds w' hS K hK
          have hc := (bcell hS).1
          have hf := (bcell hS).2
          have hz := hS.size
          try simp at hz
          go_simp
          try go_bits
          first
            | exact hK _ hS (Gr.refl _)
            | exact hK _ (by repeat (first | (with_reducible exact Below.refl _ _) | (with_reducible assumption) | ((with_reducible refine Below.setCell ?_ ?_ _); rotate_left; · (first | exact Nat.le_refl _ | (simp; done) | (simp; omega) | omega)) | ((with_reducible refine Below.alloc ?_ ?_ _); rotate_left; · (first | exact Nat.le_refl _ | (simp; done) | (simp; omega) | omega)) | (with_reducible apply Below.drew) | (with_reducible apply below_drewN') | (refine Below.trans ?_ (Below.mono (by assumption) (by first | exact Nat.le_refl _ | (simp; done) | (simp; omega) | omega))) | exact Below.refl _ _ | assumption)) (by repeat (first | (with_reducible exact Below.refl _ _) | (with_reducible assumption) | ((with_reducible refine Below.setCell ?_ ?_ _); rotate_left; · (first | exact Nat.le_refl _ | (simp; done) | (simp; omega) | omega)) | ((with_reducible refine Below.alloc ?_ ?_ _); rotate_left; · (first | exact Nat.le_refl _ | (simp; done) | (simp; omega) | omega)) | (with_reducible apply Below.drew) | (with_reducible apply below_drewN') | (refine Below.trans ?_ (Below.mono (by assumption) (by first | exact Nat.le_refl _ | (simp; done) | (simp; omega) | omega))) | exact Below.refl _ _ | assumption))
        case ca0R3 => (first | (simp [Act.put]; done) | (simp [Act.put, *]; done))
        try dsimp only
        refine wpW_det (t' := ?ct1R3) 1 (by rfl) (by kernel_rfl) (NQ_free _) (by kernel_rfl) ?cw1R3 ?ch1R3 ?ca1R3 (Eq.refl _) ?cH1R3
        case cw1R3 => (go_simp; done)
        case ch1R3 =>
          intro ds w' hS K hK
          have hc := (bcell hS).1
          have hf := (bcell hS).2
          have hz := hS.size
          try simp at hz
          go_simp
          try go_bits
          first
            | exact hK _ hS (Gr.refl _)
            | exact hK _ (by repeat (first | (with_reducible exact Below.refl _ _) | (with_reducible assumption) | ((with_reducible refine Below.setCell ?_ ?_ _); rotate_left; · (first | exact Nat.le_refl _ | (simp; done) | (simp; omega) | omega)) | ((with_reducible refine Below.alloc ?_ ?_ _); rotate_left; · (first | exact Nat.le_refl _ | (simp; done) | (simp; omega) | omega)) | (with_reducible apply Below.drew) | (with_reducible apply below_drewN') | (refine Below.trans ?_ (Below.mono (by assumption) (by first | exact Nat.le_refl _ | (simp; done) | (simp; omega) | omega))) | exact Below.refl _ _ | assumption)) (by repeat (first | (with_reducible exact Below.refl _ _) | (with_reducible assumption) | ((with_reducible refine Below.setCell ?_ ?_ _); rotate_left; · (first | exact Nat.le_refl _ | (simp; done) | (simp; omega) | omega)) | ((with_reducible refine Below.alloc ?_ ?_ _); rotate_left; · (first | exact Nat.le_refl _ | (simp; done) | (simp; omega) | omega)) | (with_reducible apply Below.drew) | (with_reducible apply below_drewN') | (refine Below.trans ?_ (Below.mono (by assumption) (by first | exact Nat.le_refl _ | (simp; done) | (simp; omega) | omega))) | exact Below.refl _ _ | assumption))
        case ca1R3 => (first | (simp [Act.put]; done) | (simp [Act.put, *]; done))
        try dsimp only
        refine wpW_branch [2] (by kernel_rfl) (by simp) ?_
        intro w7 hg_w7 hS_w7
        refine each_cons ?_ each_nil
        refine wpOp_go (by rfl) (Eq.refl _) (by go_simp; done) ?_
        intro K hK
        go_simp
        try simp only [Act.put]
        have hzw7 : InOk zs A c B w7 := ⟨by omega, HI.out, hR.below (hB6.trans (Below.mono hS_w7 (Below.size hB6))) hB, Nat.le_trans hB (Below.size (hB6.trans (Below.mono hS_w7 (Below.size hB6))))⟩
        refine (copyInts_any zs A c B w7 hzw7 HA.out).mono ?_
        rintro e w8 ⟨v, rfl, own3, hB3⟩
        obtain ⟨A3, c3, rfl, hR3⟩ := Row.own own3
        have hS3 : Gr w6 w8 := Below.trans hS_w7 (hB3.mono (Below.size hS_w7))
        refine hK _ _ hS3 ?_
        clear hK K own3 hB3 hS_w7 hg_w7 hzw7
        refine wpW_branch [3] (by kernel_rfl) (by simp) ?_
        intro w9 hg_w9 hS_w9
        refine each_cons ?_ each_nil
        refine wpOp_go (by rfl) (Eq.refl _) (by go_simp; done) ?_
        intro K hK
        go_simp
        try simp only [Act.put]
        refine (anew_any t zs A3 c3 w8.heap.size w9 ⟨by omega, HI.out, hR3.below hg_w9 (Nat.le_refl _), Below.size hg_w9⟩).mono ?_
        rintro e w10 ⟨v, rfl, own5, hB5⟩
        obtain ⟨A7, c7, rfl, hR5⟩ := Row.own own5
        have hS5 : Gr w6 w10 := Below.trans hS_w9 (hB5.mono (Below.size hS_w9))
        refine hK _ _ hS5 ?_
        clear hK K own5 hB5 hS_w9 hg_w9 hR3 hS3
        refine wpW_det (t' := ?ct4R4) 4 (by rfl) (by kernel_rfl) (NQ_free _) (by kernel_rfl) ?cw4R4 ?ch4R4 ?ca4R4 (Eq.refl _) ?cH4R4
        case cw4R4 => (go_simp; done)
        case ch4R4 =>
          intro ds w' hS K hK
          have hc := (bcell hS).1
          have hf := (bcell hS).2
          have hz := hS.size
          try simp at hz
          go_simp
          try go_bits
          first
            | exact hK _ hS (Gr.refl _)
            | exact hK _ (by repeat (first | (with_reducible exact Below.refl _ _) | (with_reducible assumption) | ((with_reducible refine Below.setCell ?_ ?_ _); rotate_left; · (first | exact Nat.le_refl _ | (simp; done) | (simp; omega) | omega)) | ((with_reducible refine Below.alloc ?_ ?_ _); rotate_left; · (first | exact Nat.le_refl _ | (simp; done) | (simp; omega) | omega)) | (with_reducible apply Below.drew) | (with_reducible apply below_drewN') | (refine Below.trans ?_ (Below.mono (by assumption) (by first | exact Nat.le_refl _ | (simp; done) | (simp; omega) | omega))) | exact Below.refl _ _ | assumption)) (by repeat (first | (with_reducible exact Below.refl _ _) | (with_reducible assumption) | ((with_reducible refine Below.setCell ?_ ?_ _); rotate_left; · (first | exact Nat.le_refl _ | (simp; done) | (simp; omega) | omega)) | ((with_reducible refine Below.alloc ?_ ?_ _); rotate_left; · (first | exact Nat.le_refl _ | (simp; done) | (simp; omega) | omega)) | (with_reducible apply Below.drew) | (with_reducible apply below_drewN') | (refine Below.trans ?_ (Below.mono (by assumption) (by first | exact Nat.le_refl _ | (simp; done) | (simp; omega) | omega))) | exact Below.refl _ _ | assumption))
        case ca4R4 => (first | (simp [Act.put]; done) | (simp [Act.put, *]; done))
        try dsimp only
        refine wpW_det (t' := ?ct5R4) 5 (by rfl) (by kernel_rfl) (NQ_free _) (by kernel_rfl) ?cw5R4 ?ch5R4 ?ca5R4 (Eq.refl _) ?cH5R4
        case cw5R4 => (go_simp; done)
        case ch5R4 =>
          intro ds w' hS K hK
          have hc := (bcell hS).1
          have hf := (bcell hS).2
          have hz := hS.size
          try simp at hz
          go_simp
          try go_bits
          first
            | exact hK _ hS (Gr.refl _)
            | exact hK _ (by repeat (first | (with_reducible exact Below.refl _ _) | (with_reducible assumption) | ((with_reducible refine Below.setCell ?_ ?_ _); rotate_left; · (first | exact Nat.le_refl _ | (simp; done) | (simp; omega) | omega)) | ((with_reducible refine Below.alloc ?_ ?_ _); rotate_left; · (first | exact Nat.le_refl _ | (simp; done) | (simp; omega) | omega)) | (with_reducible apply Below.drew) | (with_reducible apply below_drewN') | (refine Below.trans ?_ (Below.mono (by assumption) (by first | exact Nat.le_refl _ | (simp; done) | (simp; omega) | omega))) | exact Below.refl _ _ | assumption)) (by repeat (first | (with_reducible exact Below.refl _ _) | (with_reducible assumption) | ((with_reducible refine Below.setCell ?_ ?_ _); rotate_left; · (first | exact Nat.le_refl _ | (simp; done) | (simp; omega) | omega)) | ((with_reducible refine Below.alloc ?_ ?_ _); rotate_left; · (first | exact Nat.le_refl _ | (simp; done) | (simp; omega) | omega)) | (with_reducible apply Below.drew) | (with_reducible apply below_drewN') | (refine Below.trans ?_ (Below.mono (by assumption) (by first | exact Nat.le_refl _ | (simp; done) | (simp; omega) | omega))) | exact Below.refl _ _ | assumption))
        case ca5R4 => (first | (simp [Act.put]; done) | (simp [Act.put, *]; done))
        try dsimp only
        refine wpW_det (t' := ?ct6R4) 6 (by rfl) (by kernel_rfl) (NQ_free _) (by kernel_rfl) ?cw6R4 ?ch6R4 ?ca6R4 (Eq.refl _) ?cH6R4
        case cw6R4 => (go_simp; done)
        case ch6R4 =>
          intro ds w' hS K hK
          have hc := (bcell hS).1
          have hf := (bcell hS).2
          have hz := hS.size
          try simp at hz
          go_simp
          try go_bits
          first
            | exact hK _ hS (Gr.refl _)
            | exact hK _ (by repeat (first | (with_reducible exact Below.refl _ _) | (with_reducible assumption) | ((with_reducible refine Below.setCell ?_ ?_ _); rotate_left; · (first | exact Nat.le_refl _ | (simp; done) | (simp; omega) | omega)) | ((with_reducible refine Below.alloc ?_ ?_ _); rotate_left; · (first | exact Nat.le_refl _ | (simp; done) | (simp; omega) | omega)) | (with_reducible apply Below.drew) | (with_reducible apply below_drewN') | (refine Below.trans ?_ (Below.mono (by assumption) (by first | exact Nat.le_refl _ | (simp; done) | (simp; omega) | omega))) | exact Below.refl _ _ | assumption)) (by repeat (first | (with_reducible exact Below.refl _ _) | (with_reducible assumption) | ((with_reducible refine Below.setCell ?_ ?_ _); rotate_left; · (first | exact Nat.le_refl _ | (simp; done) | (simp; omega) | omega)) | ((with_reducible refine Below.alloc ?_ ?_ _); rotate_left; · (first | exact Nat.le_refl _ | (simp; done) | (simp; omega) | omega)) | (with_reducible apply Below.drew) | (with_reducible apply below_drewN') | (refine Below.trans ?_ (Below.mono (by assumption) (by first | exact Nat.le_refl _ | (simp; done) | (simp; omega) | omega))) | exact Below.refl _ _ | assumption))
        case ca6R4 => (first | (simp [Act.put]; done) | (simp [Act.put, *]; done))
        try dsimp only
        refine wpW_det (t' := ?ct7R4) 7 (by rfl) (by kernel_rfl) (NQ_free _) (by kernel_rfl) ?cw7R4 ?ch7R4 ?ca7R4 (Eq.refl _) ?cH7R4
        case cw7R4 => (go_simp; done)
        case ch7R4 =>
          intro ds w' hS K hK
          have hc := (bcell hS).1
          have hf := (bcell hS).2
          have hz := hS.size
          try simp at hz
          go_simp
          try go_bits
          first
            | exact hK _ hS (Gr.refl _)
            | exact hK _ (by repeat (first | (with_reducible exact Below.refl _ _) | (with_reducible assumption) | ((with_reducible refine Below.setCell ?_ ?_ _); rotate_left; · (first | exact Nat.le_refl _ | (simp; done) | (simp; omega) | omega)) | ((with_reducible refine Below.alloc ?_ ?_ _); rotate_left; · (first | exact Nat.le_refl _ | (simp; done) | (simp; omega) | omega)) | (with_reducible apply Below.drew) | (with_reducible apply below_drewN') | (refine Below.trans ?_ (Below.mono (by assumption) (by first | exact Nat.le_refl _ | (simp; done) | (simp; omega) | omega))) | exact Below.refl _ _ | assumption)) (by repeat (first | (with_reducible exact Below.refl _ _) | (with_reducible assumption) | ((with_reducible refine Below.setCell ?_ ?_ _); rotate_left; · (first | exact Nat.le_refl _ | (simp; done) | (simp; omega) | omega)) | ((with_reducible refine Below.alloc ?_ ?_ _); rotate_left; · (first | exact Nat.le_refl _ | (simp; done) | (simp; omega) | omega)) | (with_reducible apply Below.drew) | (with_reducible apply below_drewN') | (refine Below.trans ?_ (Below.mono (by assumption) (by first | exact Nat.le_refl _ | (simp; done) | (simp; omega) | omega))) | exact Below.refl _ _ | assumption))
        case ca7R4 => (first | (simp [Act.put]; done) | (simp [Act.put, *]; done))
        try dsimp only
        refine wpW_det (t' := ?ct8R4) 8 (by rfl) (by kernel_rfl) (NQ_free _) (by kernel_rfl) ?cw8R4 ?ch8R4 ?ca8R4 (Eq.refl _) ?cH8R4
        case cw8R4 => (go_simp; done)
        case ch8R4 =>
          intro ds w' hS K hK
          have hc := (bcell hS).1
          have hf := (bcell hS).2
          have hz := hS.size
          try simp at hz
          go_simp
          try go_bits
          first
            | exact hK _ hS (Gr.refl _)
            | exact hK _ (by repeat (first | (with_reducible exact Below.refl _ _) | (with_reducible assumption) | ((with_reducible refine Below.setCell ?_ ?_ _); rotate_left; · (first | exact Nat.le_refl _ | (simp; done) | (simp; omega) | omega)) | ((with_reducible refine Below.alloc ?_ ?_ _); rotate_left; · (first | exact Nat.le_refl _ | (simp; done) | (simp; omega) | omega)) | (with_reducible apply Below.drew) | (with_reducible apply below_drewN') | (refine Below.trans ?_ (Below.mono (by assumption) (by first | exact Nat.le_refl _ | (simp; done) | (simp; omega) | omega))) | exact Below.refl _ _ | assumption)) (by repeat (first | (with_reducible exact Below.refl _ _) | (with_reducible assumption) | ((with_reducible refine Below.setCell ?_ ?_ _); rotate_left; · (first | exact Nat.le_refl _ | (simp; done) | (simp; omega) | omega)) | ((with_reducible refine Below.alloc ?_ ?_ _); rotate_left; · (first | exact Nat.le_refl _ | (simp; done) | (simp; omega) | omega)) | (with_reducible apply Below.drew) | (with_reducible apply below_drewN') | (refine Below.trans ?_ (Below.mono (by assumption) (by first | exact Nat.le_refl _ | (simp; done) | (simp; omega) | omega))) | exact Below.refl _ _ | assumption))
        case ca8R4 => (first | (simp [Act.put]; done) | (simp [Act.put, *]; done))
        try dsimp only
        refine wpW_end (by kernel_rfl) ?_
        intro w11 hg hS
        unfold NQ
        dsimp only
        have hRa := (hRa.below hS (Nat.le_refl _)).more (Below.size hS)
        have hRb := (hR5.below hg (Nat.le_refl _)).more (Below.size hg)
        have b11 := b6.below hS b6.lt
        have y11 := y6.below hS y6.lt
        have hB11 := hB6.trans (Below.mono hS (Below.size hB6))
        clear hg hS hS5 hR5
        clear t0 t1 t2 t3 hB6 b6 y6 lb ly
        rw [scanR_yes HO.out] at hRa
        rw [anewR_yes HO.out] at hRb
        rw [HO.out, scanR_yes HO.out, anewR_yes HO.out]
        have hLA := strV_len t zs true
        have hLB := strV_len t zs false
        have iLA : ((strV t zs true).length : Int) ≤ 21 := by omega
        have iLB : ((strV t zs false).length : Int) ≤ 21 := by omega
        have m0 : 0 ≤ x0 % (t.til - t.frm + 1) := Int.emod_nonneg _ (by omega)
        have m1 : x0 % (t.til - t.frm + 1) < t.til - t.frm + 1 := Int.emod_lt_of_pos _ (by omega)
        have HH : Hid ((hasB (strV t zs true) (t.frm + x0 % (t.til - t.frm + 1)) == hasB (strV t zs false) (t.frm + x0 % (t.til - t.frm + 1))) = false) := Lib.hid (by
          rw [show strV t zs false = anewV t zs from rfl, show strV t zs true = scanV t zs from rfl, hasB_one t zs T5 _ (by omega)]
          cases hasB (scanV t zs) (t.frm + x0 % (t.til - t.frm + 1)) <;> rfl)
        have lb := b11.lt
        have ly := y11.lt
        obtain ⟨t0, t1, t2, t3, _⟩ := blk4 b11
        have u0 : w11.cell? ⟨w.heap.size + 1, 0, none⟩ = some (.int .i64 x0) := y11.cell 0
        have u1 : w11.cell? ⟨w.heap.size + 1, 1, none⟩ = some (.int .i64 x1) := y11.cell 1
        go_wp2_with fail
        refine wp_region_b 13 (by kernel_rfl) (by kernel_rfl) ?_; simp only [List.take_succ_cons, List.take_zero, List.drop_succ_cons, List.drop_zero, List.drop_nil]
        repeat (first
          | (apply StepsD.run
             · go_simp
               done
             · intro w' hS K hK
               have hc := (bcell hS).1
               have hf := (bcell hS).2
               have hz := hS.size
               try simp at hz
               go_simp
               try go_bits
               first
                 | exact hK _ hS
                 | (go_at_call 31; refine (mod_any _ _ ⟨by omega, by omega⟩ _).mono ?_; rintro e w1 ⟨rfl, rfl⟩; exact hK _ hS)
                 | exact hK _ (by repeat (first | (with_reducible exact Below.refl _ _) | (with_reducible assumption) | ((with_reducible refine Below.setCell ?_ ?_ _); rotate_left; · (first | exact Nat.le_refl _ | (simp; done) | (simp; omega) | omega)) | ((with_reducible refine Below.alloc ?_ ?_ _); rotate_left; · (first | exact Nat.le_refl _ | (simp; done) | (simp; omega) | omega)) | (with_reducible apply Below.drew) | (with_reducible apply below_drewN') | (refine Below.trans ?_ (Below.mono (by assumption) (by first | exact Nat.le_refl _ | (simp; done) | (simp; omega) | omega))) | exact Below.refl _ _ | assumption))
             · simp [Act.put]
               done)
          | (apply StepsD.pass
             · go_simp
               done
             · simp only [Act.put, List.setIfInBounds_toArray, List.set_cons_succ, List.set_cons_zero]
               rfl))
        refine StepsD.done ?_
        intro w12 hS
        have hRa := (hRa.below hS (Nat.le_refl _)).more (Below.size hS)
        have hRb := (hRb.below hS (Nat.le_refl _)).more (Below.size hS)
        have b12 := b11.below hS lb
        have y12 := y11.below hS ly
        have hB12 := hB11.trans (hS.mono (Below.size hB11))
        clear hS b11 y11 hB11 t0 t1 t2 t3 u0 u1 lb ly
        have HP : Hid (t.frm ≤ t.frm + x0 % (t.til - t.frm + 1) ∧ t.frm + x0 % (t.til - t.frm + 1) ≤ t.til) := Lib.hid (by omega)
        generalize t.frm + x0 % (t.til - t.frm + 1) = pos at *
        go_wp2_with fail
        refine (lawHas_any (strV t zs true) pos A5 c5 w12.heap.size w12 (by omega) hRa (Nat.le_refl _)).mono ?_
        rintro e w13 ⟨rfl, hB13⟩
        have hRb := (hRb.below hB13 (Nat.le_refl _)).more (Below.size hB13)
        have b13 := b12.below hB13 b12.lt
        have y13 := y12.below hB13 y12.lt
        have hB13 := hB12.trans (hB13.mono (Below.size hB12))
        clear b12 y12 hB12 hRa
        go_wp2_with fail
        refine (lawHas_any (strV t zs false) pos A7 c7 w13.heap.size w13 (by omega) hRb (Nat.le_refl _)).mono ?_
        rintro e w14 ⟨rfl, hB14⟩
        have hRb := (hRb.below hB14 (Nat.le_refl _)).more (Below.size hB14)
        have b14 := b13.below hB14 b13.lt
        have y14 := y13.below hB14 y13.lt
        have hB14 := hB13.trans (hB14.mono (Below.size hB13))
        clear b13 y13 hB13
        have hh := HH.out
        have ly := y14.lt
        have u1 : w14.cell? ⟨w.heap.size + 1, 1, none⟩ = some (.int .i64 x1) := y14.cell 1
        go_wp2_with fail
        refine (mod_any x1 1000000 ⟨by omega, by omega⟩ _).mono ?_
        rintro e w1 ⟨rfl, rfl⟩
        have n0 : 0 ≤ x1 % 1000000 := Int.emod_nonneg _ (by omega)
        have n1 : x1 % 1000000 < 1000000 := Int.emod_lt_of_pos _ (by omega)
        generalize x1 % 1000000 = mm at *
        clear hh HH u1 ly y14
        obtain ⟨i0, hi, iz0, iz1, iz2⟩ := info_parts infoInt
        have ow := own_one w14 mm w14.heap.size (Nat.le_refl _)
        have hs14 := Below.size hB14
        go_wp2_with fail
        go_loopw [12, 13] (fun v i wr => ∃ r : Nat, r ≤ zs.length ∧ i = .int .i64 ((r : Int) - 1) ∧ wr.ownsRow w14.heap.size 3 1 v (mm :: (zs.drop r).reverse).length (intsC (mm :: (zs.drop r).reverse)) ∧ Below w14.heap.size w14 wr) (fun _ i _ => (intOf i + 1).toNat)
        case atStart => exact ⟨zs.length, Nat.le_refl _, rfl, by rw [List.drop_length]; exact ow, (Below.refl _ _).alloc (Nat.le_refl _) _⟩
        case round =>
          clear ow
          obtain ⟨r, hr, rfl, own, hBr⟩ := hrel
          have hsr := Below.size hBr
          rcases r with _ | r
          · have hz : ((0 : Nat) : Int) - 1 = -1 := by omega
            rw [hz]
            clear hz
            rw [List.drop_zero] at own
            obtain ⟨zr, HZR⟩ : ∃ zr, Hid (zr = zs.reverse) := ⟨_, Lib.hid rfl⟩
            rw [← HZR.out] at own
            have HZL : Hid (zr.length = zs.length) := Lib.hid (by rw [HZR.out]; simp)
            have hzrl : zr.length ≤ 20 := by have := HZL.out; omega
            have HM1 : Hid (∀ p, p ∈ zr ↔ p ∈ zs) := Lib.hid fun p => by rw [HZR.out]; simp
            have HIr : Hid (∀ p ∈ zr, I64 p) := Lib.hid fun p hp => HI.out p ((HM1.out p).1 hp)
            have HIm : Hid (∀ p ∈ mm :: zr, I64 p) := Lib.hid fun p hp => by
              rcases List.mem_cons.1 hp with rfl | hp
              · simp only [I64]; omega
              · exact HIr.out p hp
            have HOr : Hid (openE t zr = 0) := Lib.hid (openE_of H0.out (by omega) (fun p hp => HZ.out p ((HM1.out p).1 hp)))
            have HOm : Hid (openE t (mm :: zr) = 0) := Lib.hid (openE_of H0.out (by simp; omega) (fun p hp => by
              rcases List.mem_cons.1 hp with rfl | hp
              · omega
              · exact HZ.out p ((HM1.out p).1 hp)))
            have HAr : Hid (anewR t zr = strV t zs false) := Lib.hid (by rw [anewR_yes HOr.out]; exact anew_mem t zr zs T5 HM1.out)
            have HMO : Hid (hasB (strV t (mm :: zr) false) pos = true → hasB (strV t zs false) pos = true) := Lib.hid fun h => by
              rw [hasB_iff] at h ⊢
              exact anew_more t zs (mm :: zr) T5 (fun p hp => List.mem_cons_of_mem _ ((HM1.out p).2 hp)) pos h
            have hLD := strV_len t (mm :: zr) false
            have iLD : ((strV t (mm :: zr) false).length : Int) ≤ 22 := by simp at hLD; omega
            have hLD2 : (strV t (mm :: zr) false).length ≤ 1000000000 := by simp at hLD; omega
            obtain ⟨A12, c12, hv12, hn12, hc12⟩ := own_shape own
            subst hv12
            obtain ⟨g12, rfl, hg12, hg12l, hcs, _⟩ := hc12 (by simp)
            simp only [List.length_cons] at hn12
            have hBW := hB14.trans (hBr.mono (Below.size hB14))
            have hRb := (hRb.below hBr (Nat.le_refl _)).more (Below.size hBr)
            have b15 := b14.below hBr b14.lt
            have hRm : Row wr wr.heap.size 1 (some ⟨g12, 0, none⟩) (mm :: zr).length (intsC (mm :: zr)) := ⟨by simp [intsC], fun _ => ⟨g12, 0, rfl, hg12l, fun j u hu => by
              have hj : j < (mm :: zr).length * 1 := by
                have := (List.getElem?_eq_some_iff.1 hu).1
                simp [intsC] at this ⊢; omega
              rw [Nat.zero_add, hcs j hj]; exact hu⟩⟩
            have hRr : Row wr wr.heap.size 1 (if c12 = 1 then some ⟨g12, 0, none⟩ else some ⟨g12, 1, none⟩) zr.length (intsC zr) := ⟨by simp [intsC], fun hp => ⟨g12, 1, by rw [if_neg (by omega)], hg12l, fun j u hu => by
              have hj : 1 + j < (mm :: zr).length * 1 := by
                have := (List.getElem?_eq_some_iff.1 hu).1
                simp [intsC] at this ⊢; omega
              rw [hcs (1 + j) hj, Nat.add_comm]; exact hu⟩⟩
            clear own hc12 hcs b14 hBr hB14
            have lb := b15.lt
            obtain ⟨t0, t1, t2, t3, _⟩ := blk4 b15
            have i1 : (1 : Int) ≤ (zr.length : Int) + 1 := by omega
            have i2 : (zr.length : Int) + 1 ≤ (c12 : Int) := by omega
            have i3 : (1 : Int) ≤ (c12 : Int) := by omega
            go_wp2_with fail
            refine wp_region_w (Gr _) (by kernel_rfl) (Below.refl _ _).drew ?_
            refine wpW_det (t' := ?ct0R5) 0 (by rfl) (by kernel_rfl) (NQ_free _) (by kernel_rfl) ?cw0R5 ?ch0R5 ?ca0R5 (Eq.refl _) ?cH0R5
            case cw0R5 => (go_simp; done)
            case ch0R5 =>
              intro ds w' hS K hK
              have hc := (bcell hS).1
              have hf := (bcell hS).2
              have hz := hS.size
              try simp at hz
              go_simp
              try go_bits
              first
                | exact hK _ hS (Gr.refl _)
                | exact hK _ (by repeat (first | (with_reducible exact Below.refl _ _) | (with_reducible assumption) | ((with_reducible refine Below.setCell ?_ ?_ _); rotate_left; · (first | exact Nat.le_refl _ | (simp; done) | (simp; omega) | omega)) | ((with_reducible refine Below.alloc ?_ ?_ _); rotate_left; · (first | exact Nat.le_refl _ | (simp; done) | (simp; omega) | omega)) | (with_reducible apply Below.drew) | (with_reducible apply below_drewN') | (refine Below.trans ?_ (Below.mono (by assumption) (by first | exact Nat.le_refl _ | (simp; done) | (simp; omega) | omega))) | exact Below.refl _ _ | assumption)) (by repeat (first | (with_reducible exact Below.refl _ _) | (with_reducible assumption) | ((with_reducible refine Below.setCell ?_ ?_ _); rotate_left; · (first | exact Nat.le_refl _ | (simp; done) | (simp; omega) | omega)) | ((with_reducible refine Below.alloc ?_ ?_ _); rotate_left; · (first | exact Nat.le_refl _ | (simp; done) | (simp; omega) | omega)) | (with_reducible apply Below.drew) | (with_reducible apply below_drewN') | (refine Below.trans ?_ (Below.mono (by assumption) (by first | exact Nat.le_refl _ | (simp; done) | (simp; omega) | omega))) | exact Below.refl _ _ | assumption))
            case ca0R5 => (first | (simp [Act.put]; done) | (simp [Act.put, *]; done))
            try dsimp only
            refine wpW_det (t' := ?ct1R5) 1 (by rfl) (by kernel_rfl) (NQ_free _) (by kernel_rfl) ?cw1R5 ?ch1R5 ?ca1R5 (Eq.refl _) ?cH1R5
            case cw1R5 => (go_simp; done)
            case ch1R5 =>
              intro ds w' hS K hK
              have hc := (bcell hS).1
              have hf := (bcell hS).2
              have hz := hS.size
              try simp at hz
              go_simp
              try go_bits
              first
                | exact hK _ hS (Gr.refl _)
                | exact hK _ (by repeat (first | (with_reducible exact Below.refl _ _) | (with_reducible assumption) | ((with_reducible refine Below.setCell ?_ ?_ _); rotate_left; · (first | exact Nat.le_refl _ | (simp; done) | (simp; omega) | omega)) | ((with_reducible refine Below.alloc ?_ ?_ _); rotate_left; · (first | exact Nat.le_refl _ | (simp; done) | (simp; omega) | omega)) | (with_reducible apply Below.drew) | (with_reducible apply below_drewN') | (refine Below.trans ?_ (Below.mono (by assumption) (by first | exact Nat.le_refl _ | (simp; done) | (simp; omega) | omega))) | exact Below.refl _ _ | assumption)) (by repeat (first | (with_reducible exact Below.refl _ _) | (with_reducible assumption) | ((with_reducible refine Below.setCell ?_ ?_ _); rotate_left; · (first | exact Nat.le_refl _ | (simp; done) | (simp; omega) | omega)) | ((with_reducible refine Below.alloc ?_ ?_ _); rotate_left; · (first | exact Nat.le_refl _ | (simp; done) | (simp; omega) | omega)) | (with_reducible apply Below.drew) | (with_reducible apply below_drewN') | (refine Below.trans ?_ (Below.mono (by assumption) (by first | exact Nat.le_refl _ | (simp; done) | (simp; omega) | omega))) | exact Below.refl _ _ | assumption))
            case ca1R5 => (first | (simp [Act.put]; done) | (simp [Act.put, *]; done))
            try dsimp only
            refine wpW_det (t' := ?ct2R5) 2 (by rfl) (by kernel_rfl) (NQ_free _) (by kernel_rfl) ?cw2R5 ?ch2R5 ?ca2R5 (Eq.refl _) ?cH2R5
            case cw2R5 => (go_simp; done)
            case ch2R5 =>
              intro ds w' hS K hK
              have hc := (bcell hS).1
              have hf := (bcell hS).2
              have hz := hS.size
              try simp at hz
              go_simp
              try go_bits
              first
                | exact hK _ hS (Gr.refl _)
                | exact hK _ (by repeat (first | (with_reducible exact Below.refl _ _) | (with_reducible assumption) | ((with_reducible refine Below.setCell ?_ ?_ _); rotate_left; · (first | exact Nat.le_refl _ | (simp; done) | (simp; omega) | omega)) | ((with_reducible refine Below.alloc ?_ ?_ _); rotate_left; · (first | exact Nat.le_refl _ | (simp; done) | (simp; omega) | omega)) | (with_reducible apply Below.drew) | (with_reducible apply below_drewN') | (refine Below.trans ?_ (Below.mono (by assumption) (by first | exact Nat.le_refl _ | (simp; done) | (simp; omega) | omega))) | exact Below.refl _ _ | assumption)) (by repeat (first | (with_reducible exact Below.refl _ _) | (with_reducible assumption) | ((with_reducible refine Below.setCell ?_ ?_ _); rotate_left; · (first | exact Nat.le_refl _ | (simp; done) | (simp; omega) | omega)) | ((with_reducible refine Below.alloc ?_ ?_ _); rotate_left; · (first | exact Nat.le_refl _ | (simp; done) | (simp; omega) | omega)) | (with_reducible apply Below.drew) | (with_reducible apply below_drewN') | (refine Below.trans ?_ (Below.mono (by assumption) (by first | exact Nat.le_refl _ | (simp; done) | (simp; omega) | omega))) | exact Below.refl _ _ | assumption))
            case ca2R5 => (first | (simp [Act.put]; done) | (simp [Act.put, *]; done))
            try dsimp only
            have hAx : (if c12 = 1 then (some ⟨g12, 0, none⟩ : Option Addr) else some ⟨g12, 1, none⟩) = none → c12 - 1 = 0 := by split <;> simp
            generalize (if c12 = 1 then (some ⟨g12, 0, none⟩ : Option Addr) else some ⟨g12, 1, none⟩) = Ax at *
            refine wpW_branch [3] (by kernel_rfl) (by simp) ?_
            intro wa hg_wa hS_wa
            refine each_cons ?_ each_nil
            refine wpOp_go (by rfl) (Eq.refl _) (by go_simp; done) ?_
            intro K hK
            go_simp
            try simp only [Act.put]
            refine (copyInts_any zr Ax (c12 - 1) wr.heap.size wa ⟨by omega, HIr.out, hRr.below hS_wa (Nat.le_refl _), Below.size hS_wa⟩ hAx).mono ?_
            rintro e wb ⟨v, rfl, own3, hB3⟩
            obtain ⟨A3, c3, rfl, hR3⟩ := Row.own own3
            refine hK _ _ (Below.trans hS_wa (hB3.mono (Below.size hS_wa))) ?_
            clear hK K own3 hB3 hS_wa hg_wa
            refine wpW_branch [4] (by kernel_rfl) (by simp) ?_
            intro wcc hg_wcc hS_wcc
            refine each_cons ?_ each_nil
            refine wpOp_go (by rfl) (Eq.refl _) (by go_simp; done) ?_
            intro K hK
            go_simp
            try simp only [Act.put]
            refine (anew_any t zr A3 c3 wb.heap.size wcc ⟨by omega, HIr.out, hR3.below hg_wcc (Nat.le_refl _), Below.size hg_wcc⟩).mono ?_
            rintro e wd ⟨v, rfl, own5, hB5⟩
            obtain ⟨A14, c14, rfl, hR14⟩ := Row.own own5
            refine hK _ _ (Below.trans hS_wcc (hB5.mono (Below.size hS_wcc))) ?_
            clear hK K own5 hB5 hS_wcc hg_wcc hR3
            refine wpW_det (t' := ?ct5R6) 5 (by rfl) (by kernel_rfl) (NQ_free _) (by kernel_rfl) ?cw5R6 ?ch5R6 ?ca5R6 (Eq.refl _) ?cH5R6
            case cw5R6 => (go_simp; done)
            case ch5R6 =>
              intro ds w' hS K hK
              have hc := (bcell hS).1
              have hf := (bcell hS).2
              have hz := hS.size
              try simp at hz
              go_simp
              try go_bits
              first
                | exact hK _ hS (Gr.refl _)
                | exact hK _ (by repeat (first | (with_reducible exact Below.refl _ _) | (with_reducible assumption) | ((with_reducible refine Below.setCell ?_ ?_ _); rotate_left; · (first | exact Nat.le_refl _ | (simp; done) | (simp; omega) | omega)) | ((with_reducible refine Below.alloc ?_ ?_ _); rotate_left; · (first | exact Nat.le_refl _ | (simp; done) | (simp; omega) | omega)) | (with_reducible apply Below.drew) | (with_reducible apply below_drewN') | (refine Below.trans ?_ (Below.mono (by assumption) (by first | exact Nat.le_refl _ | (simp; done) | (simp; omega) | omega))) | exact Below.refl _ _ | assumption)) (by repeat (first | (with_reducible exact Below.refl _ _) | (with_reducible assumption) | ((with_reducible refine Below.setCell ?_ ?_ _); rotate_left; · (first | exact Nat.le_refl _ | (simp; done) | (simp; omega) | omega)) | ((with_reducible refine Below.alloc ?_ ?_ _); rotate_left; · (first | exact Nat.le_refl _ | (simp; done) | (simp; omega) | omega)) | (with_reducible apply Below.drew) | (with_reducible apply below_drewN') | (refine Below.trans ?_ (Below.mono (by assumption) (by first | exact Nat.le_refl _ | (simp; done) | (simp; omega) | omega))) | exact Below.refl _ _ | assumption))
            case ca5R6 => (first | (simp [Act.put]; done) | (simp [Act.put, *]; done))
            try dsimp only
            refine wpW_det (t' := ?ct6R6) 6 (by rfl) (by kernel_rfl) (NQ_free _) (by kernel_rfl) ?cw6R6 ?ch6R6 ?ca6R6 (Eq.refl _) ?cH6R6
            case cw6R6 => (go_simp; done)
            case ch6R6 =>
              intro ds w' hS K hK
              have hc := (bcell hS).1
              have hf := (bcell hS).2
              have hz := hS.size
              try simp at hz
              go_simp
              try go_bits
              first
                | exact hK _ hS (Gr.refl _)
                | exact hK _ (by repeat (first | (with_reducible exact Below.refl _ _) | (with_reducible assumption) | ((with_reducible refine Below.setCell ?_ ?_ _); rotate_left; · (first | exact Nat.le_refl _ | (simp; done) | (simp; omega) | omega)) | ((with_reducible refine Below.alloc ?_ ?_ _); rotate_left; · (first | exact Nat.le_refl _ | (simp; done) | (simp; omega) | omega)) | (with_reducible apply Below.drew) | (with_reducible apply below_drewN') | (refine Below.trans ?_ (Below.mono (by assumption) (by first | exact Nat.le_refl _ | (simp; done) | (simp; omega) | omega))) | exact Below.refl _ _ | assumption)) (by repeat (first | (with_reducible exact Below.refl _ _) | (with_reducible assumption) | ((with_reducible refine Below.setCell ?_ ?_ _); rotate_left; · (first | exact Nat.le_refl _ | (simp; done) | (simp; omega) | omega)) | ((with_reducible refine Below.alloc ?_ ?_ _); rotate_left; · (first | exact Nat.le_refl _ | (simp; done) | (simp; omega) | omega)) | (with_reducible apply Below.drew) | (with_reducible apply below_drewN') | (refine Below.trans ?_ (Below.mono (by assumption) (by first | exact Nat.le_refl _ | (simp; done) | (simp; omega) | omega))) | exact Below.refl _ _ | assumption))
            case ca6R6 => (first | (simp [Act.put]; done) | (simp [Act.put, *]; done))
            try dsimp only
            refine wpW_det (t' := ?ct7R6) 7 (by rfl) (by kernel_rfl) (NQ_free _) (by kernel_rfl) ?cw7R6 ?ch7R6 ?ca7R6 (Eq.refl _) ?cH7R6
            case cw7R6 => (go_simp; done)
            case ch7R6 =>
              intro ds w' hS K hK
              have hc := (bcell hS).1
              have hf := (bcell hS).2
              have hz := hS.size
              try simp at hz
              go_simp
              try go_bits
              first
                | exact hK _ hS (Gr.refl _)
                | exact hK _ (by repeat (first | (with_reducible exact Below.refl _ _) | (with_reducible assumption) | ((with_reducible refine Below.setCell ?_ ?_ _); rotate_left; · (first | exact Nat.le_refl _ | (simp; done) | (simp; omega) | omega)) | ((with_reducible refine Below.alloc ?_ ?_ _); rotate_left; · (first | exact Nat.le_refl _ | (simp; done) | (simp; omega) | omega)) | (with_reducible apply Below.drew) | (with_reducible apply below_drewN') | (refine Below.trans ?_ (Below.mono (by assumption) (by first | exact Nat.le_refl _ | (simp; done) | (simp; omega) | omega))) | exact Below.refl _ _ | assumption)) (by repeat (first | (with_reducible exact Below.refl _ _) | (with_reducible assumption) | ((with_reducible refine Below.setCell ?_ ?_ _); rotate_left; · (first | exact Nat.le_refl _ | (simp; done) | (simp; omega) | omega)) | ((with_reducible refine Below.alloc ?_ ?_ _); rotate_left; · (first | exact Nat.le_refl _ | (simp; done) | (simp; omega) | omega)) | (with_reducible apply Below.drew) | (with_reducible apply below_drewN') | (refine Below.trans ?_ (Below.mono (by assumption) (by first | exact Nat.le_refl _ | (simp; done) | (simp; omega) | omega))) | exact Below.refl _ _ | assumption))
            case ca7R6 => (first | (simp [Act.put]; done) | (simp [Act.put, *]; done))
            try dsimp only
            refine wpW_det (t' := ?ct8R6) 8 (by rfl) (by kernel_rfl) (NQ_free _) (by kernel_rfl) ?cw8R6 ?ch8R6 ?ca8R6 (Eq.refl _) ?cH8R6
            case cw8R6 => (go_simp; done)
            case ch8R6 =>
              intro ds w' hS K hK
              have hc := (bcell hS).1
              have hf := (bcell hS).2
              have hz := hS.size
              try simp at hz
              go_simp
              try go_bits
              first
                | exact hK _ hS (Gr.refl _)
                | exact hK _ (by repeat (first | (with_reducible exact Below.refl _ _) | (with_reducible assumption) | ((with_reducible refine Below.setCell ?_ ?_ _); rotate_left; · (first | exact Nat.le_refl _ | (simp; done) | (simp; omega) | omega)) | ((with_reducible refine Below.alloc ?_ ?_ _); rotate_left; · (first | exact Nat.le_refl _ | (simp; done) | (simp; omega) | omega)) | (with_reducible apply Below.drew) | (with_reducible apply below_drewN') | (refine Below.trans ?_ (Below.mono (by assumption) (by first | exact Nat.le_refl _ | (simp; done) | (simp; omega) | omega))) | exact Below.refl _ _ | assumption)) (by repeat (first | (with_reducible exact Below.refl _ _) | (with_reducible assumption) | ((with_reducible refine Below.setCell ?_ ?_ _); rotate_left; · (first | exact Nat.le_refl _ | (simp; done) | (simp; omega) | omega)) | ((with_reducible refine Below.alloc ?_ ?_ _); rotate_left; · (first | exact Nat.le_refl _ | (simp; done) | (simp; omega) | omega)) | (with_reducible apply Below.drew) | (with_reducible apply below_drewN') | (refine Below.trans ?_ (Below.mono (by assumption) (by first | exact Nat.le_refl _ | (simp; done) | (simp; omega) | omega))) | exact Below.refl _ _ | assumption))
            case ca8R6 => (first | (simp [Act.put]; done) | (simp [Act.put, *]; done))
            try dsimp only
            refine wpW_det (t' := ?ct9R6) 9 (by rfl) (by kernel_rfl) (NQ_free _) (by kernel_rfl) ?cw9R6 ?ch9R6 ?ca9R6 (Eq.refl _) ?cH9R6
            case cw9R6 => (go_simp; done)
            case ch9R6 =>
              intro ds w' hS K hK
              have hc := (bcell hS).1
              have hf := (bcell hS).2
              have hz := hS.size
              try simp at hz
              go_simp
              try go_bits
              first
                | exact hK _ hS (Gr.refl _)
                | exact hK _ (by repeat (first | (with_reducible exact Below.refl _ _) | (with_reducible assumption) | ((with_reducible refine Below.setCell ?_ ?_ _); rotate_left; · (first | exact Nat.le_refl _ | (simp; done) | (simp; omega) | omega)) | ((with_reducible refine Below.alloc ?_ ?_ _); rotate_left; · (first | exact Nat.le_refl _ | (simp; done) | (simp; omega) | omega)) | (with_reducible apply Below.drew) | (with_reducible apply below_drewN') | (refine Below.trans ?_ (Below.mono (by assumption) (by first | exact Nat.le_refl _ | (simp; done) | (simp; omega) | omega))) | exact Below.refl _ _ | assumption)) (by repeat (first | (with_reducible exact Below.refl _ _) | (with_reducible assumption) | ((with_reducible refine Below.setCell ?_ ?_ _); rotate_left; · (first | exact Nat.le_refl _ | (simp; done) | (simp; omega) | omega)) | ((with_reducible refine Below.alloc ?_ ?_ _); rotate_left; · (first | exact Nat.le_refl _ | (simp; done) | (simp; omega) | omega)) | (with_reducible apply Below.drew) | (with_reducible apply below_drewN') | (refine Below.trans ?_ (Below.mono (by assumption) (by first | exact Nat.le_refl _ | (simp; done) | (simp; omega) | omega))) | exact Below.refl _ _ | assumption))
            case ca9R6 => (first | (simp [Act.put]; done) | (simp [Act.put, *]; done))
            try dsimp only
            refine wpW_end (by kernel_rfl) ?_
            intro we hg hS
            unfold NQ
            dsimp only
            have hR14 := (hR14.below hg (Nat.le_refl _)).more (Below.size hg)
            have hRb := (hRb.below hS (Nat.le_refl _)).more (Below.size hS)
            have hRm := (hRm.below hS (Nat.le_refl _)).more (Below.size hS)
            have b16 := b15.below hS lb
            have hBX := hBW.trans (Below.mono hS (Below.size hBW))
            clear hg hS b15 lb t0 t1 t2 t3 hBW hRr
            rw [HAr.out] at hR14
            rw [HOr.out, HAr.out]
            have lb := b16.lt
            obtain ⟨t0, t1, t2, t3, _⟩ := blk4 b16
            go_wp2_with fail
            refine (anew_any t (mm :: zr) (some ⟨g12, 0, none⟩) c12 we.heap.size we ⟨by simp; omega, HIm.out, hRm, Nat.le_refl _⟩).mono ?_
            rintro e wf ⟨v, rfl, own16, hB16⟩
            obtain ⟨A16, c16, rfl, hR16⟩ := Row.own own16
            have hRb := (hRb.below hB16 (Nat.le_refl _)).more (Below.size hB16)
            have hR14 := (hR14.below hB16 (Nat.le_refl _)).more (Below.size hB16)
            have hBY := hBX.trans (hB16.mono (Below.size hBX))
            clear own16 hB16 hBX hRm b16 lb t0 t1 t2 t3
            rw [anewR_yes HOm.out] at hR16
            rw [HOm.out, anewR_yes HOm.out]
            go_wp2_with fail
            refine (ranges_any (strV t zs false) (strV t zs false) A7 A14 c7 c14 wf.heap.size wf (by omega) (by omega) hRb hR14 (Nat.le_refl _)).mono ?_
            rw [decide_eq_true (p := strV t zs false = strV t zs false) rfl]
            rintro e wh ⟨rfl, hB17⟩
            have hRb := (hRb.below hB17 (Nat.le_refl _)).more (Below.size hB17)
            have hR16 := (hR16.below hB17 (Nat.le_refl _)).more (Below.size hB17)
            have hBZ := hBY.trans (hB17.mono (Below.size hBY))
            clear hB17 hBY hR14
            go_wp2_with fail
            cases hd : hasB (strV t (mm :: zr) false) pos
            · have HD := Lib.hid hd; clear hd
              refine (lawHas_any (strV t (mm :: zr) false) pos A16 c16 wh.heap.size wh hLD2 hR16 (Nat.le_refl _)).mono ?_
              rw [HD.out]
              rintro e wi' ⟨rfl, hB18⟩
              go_wp2
              go_ret
              exact ⟨rfl, hBZ.trans (hB18.mono (Below.size hBZ))⟩
            · have HD := Lib.hid hd; clear hd
              refine (lawHas_any (strV t (mm :: zr) false) pos A16 c16 wh.heap.size wh hLD2 hR16 (Nat.le_refl _)).mono ?_
              rw [HD.out]
              rintro e wi' ⟨rfl, hB18⟩
              have hRb := (hRb.below hB18 (Nat.le_refl _)).more (Below.size hB18)
              have hBU := hBZ.trans (hB18.mono (Below.size hBZ))
              clear hB18 hBZ hR16
              go_wp2_with fail
              refine (lawHas_any (strV t zs false) pos A7 c7 wi'.heap.size wi' (by omega) hRb (Nat.le_refl _)).mono ?_
              rw [HMO.out HD.out]
              rintro e wj ⟨rfl, hB19⟩
              go_wp2
              go_ret
              exact ⟨rfl, hBU.trans (hB19.mono (Below.size hBU))⟩
          · have hz : ((r + 1 : Nat) : Int) - 1 = (r : Int) := by omega
            rw [hz]
            clear hz
            have hlt : r < zs.length := by omega
            obtain ⟨g, o, hAg, hg, hcs⟩ := (hR.below (hB14.trans (hBr.mono hs14)) hB).2 (by omega)
            have c0 := hcs r _ (intsC_get zs r hlt)
            subst hAg
            clear hcs
            have HL : Hid (mm :: (zs.drop r).reverse = (mm :: (zs.drop (r + 1)).reverse) ++ [zs[r]]) := Lib.hid (by rw [drop_rev zs r hlt]; rfl)
            have hll : (mm :: (zs.drop (r + 1)).reverse).length ≤ 21 := by simp; omega
            have k0 : (0 : Int) ≤ (r : Int) := by omega
            have k1 : (r : Int) < (zs.length : Int) := by omega
            have lg : g < wr.heap.size := by omega
            generalize zs[r] = p at *
            generalize mm :: (zs.drop (r + 1)).reverse = L at *
            go_wp2_with (at_builtin; refine wpList_append_own _ rfl _ _ 62 rfl w14.heap.size 3 i0 (.int .i64 0) 1 8 Tryz.underlying62 hi iz0 iz1 iz2 rfl (by decide) _ _ _ rfl (own.alloc _) ⟨wr.heap.size, 0, none⟩ 1 1 [.int .i64 p] rfl rfl ?c1 ?c2 ?c3 ?c4 ?c5 ?_)
            try
              case c1 =>
                intro j u hu
                rw [Addr.add_lit, Nat.zero_add, (Blk.new wr 3 #[.int .i64 p]).cell j, List.getElem?_toArray]
                exact hu
            try
              case c2 => simp [Value.oneCell']
            try
              case c3 => first | omega | (unfold maxLen; omega)
            try
              case c4 => omega
            try
              case c5 => first | omega | (simp; done) | (simp; omega)
            intro v' w5 own5 hgrow _
            have hB5 : Below w14.heap.size w14 w5 := below_own (hBr.alloc hsr _) (Nat.le_refl _) (own.alloc _) hgrow
            go_wp2
            go_roundw
            case rel => exact ⟨r, by omega, rfl, by rw [HL.out, show intsC (L ++ [p]) = intsC L ++ [.int .i64 p] by simp [intsC], show (L ++ [p]).length = L.length + 1 by simp]; exact own5, hB5⟩
            case measure => first | (simp [intOf]; done) | (simp [intOf]; omega)
      · have hq1 : (readE zs != 0) = true := by simpa using h1
        clear h1
        go_wp2
        go_ret
        exact ⟨rfl, hBB⟩
    · have hq0 : (trackE t != 0) = true := by simpa using h0
      clear h0
      go_wp2
      go_ret
      exact ⟨rfl, hBB2⟩
end Go.Proofs.YtfbnpfhnffahdaaGreatDoor
