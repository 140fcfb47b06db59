/- Contract of cover.add: the line of a face. -/
import Derived.Test.YtaekcfancfoccaaGreatDoorZmCuN
import Derived.Test.YtaekcfancfoccaaGreatDoorZmZkRgW
namespace Go.Proofs.YtaekcfancfoccaaGreatDoor
open Go.RowKit Go.Lib

set_option maxRecDepth 100000 in
set_option maxHeartbeats 8000000 in
theorem add_any (line : Int) (j : Jo) (ws : List (ByteArray × Int)) (A AF : Option Addr) (c cf B jb base : Nat) (w : World) (hL : LibW w) (hn : ws.length ≤ 1000000) (hn0' : 0 < ws.length)
    (hs : ∀ p ∈ ws, p.1.size ≤ 100000 ∧ 0 ≤ p.2 ∧ p.2 ≤ 1000001) (hR : Row w B 3 A ws.length (tknC line ws)) (hB : B ≤ w.heap.size) (hj : Blk w jb 24 (joC j AF cf))
    (hF : w.ownsRow base 83 5 (.slice AF j.fs.length cf) j.fs.length (fcsC j.fs)) (hbase : base ≤ w.heap.size) (hlen : j.fs.length ≤ 12) :
    Calls Tryz.prog 42 #[.pointer (some ⟨jb, 0, none⟩), .slice A ws.length c] w fun e w' => ∃ l cl : Int, e = .returned (.agg #[.int .i64 l, .int .i64 cl, .int .i64 (faceP j ws).2.2]) ∧ Hid ((faceP j ws).2.2 ≠ 0 → l = line ∧ cl = colW ws (faceP j ws).2.1) ∧ AddR j jb base AF cf w w' (faceP j ws).1 := by
  have HL := Lib.hid hL; have HS := Lib.hid hs; have HR := Lib.hid hR
  have hjlt := hj.lt
  have HOW : Hid (∀ q, (Value.slice AF j.fs.length cf).ownBlock = some q → q < w.heap.size) := Lib.hid (fun q e => (hF.lt q e).2)
  clear hL hs hR
  unfold joC at hj
  go_enter Tryz.func42, Tryz.ntmps42
  go_wp2_with fail
  have bj := (hj.alloc (.cells #[.int .i64 0, .int .i64 0, .int .i64 0] 109)).alloc (.cells #[.string ⟨#[102, 97, 99, 101]⟩, .string ⟨#[110, 97, 109, 101]⟩, .string ⟨#[35]⟩, .string ⟨#[35]⟩, .string ⟨#[35]⟩, .string ⟨#[35]⟩] 9)
  have bf : Blk ((w.alloc (.cells #[.int .i64 0, .int .i64 0, .int .i64 0] 109)).alloc (.cells #[.string ⟨#[102, 97, 99, 101]⟩, .string ⟨#[110, 97, 109, 101]⟩, .string ⟨#[35]⟩, .string ⟨#[35]⟩, .string ⟨#[35]⟩, .string ⟨#[35]⟩] 9)) w.heap.size 109 #[.int .i64 0, .int .i64 0, .int .i64 0] := (Blk.new w _ _).alloc _
  have bs : Blk ((w.alloc (.cells #[.int .i64 0, .int .i64 0, .int .i64 0] 109)).alloc (.cells #[.string ⟨#[102, 97, 99, 101]⟩, .string ⟨#[110, 97, 109, 101]⟩, .string ⟨#[35]⟩, .string ⟨#[35]⟩, .string ⟨#[35]⟩, .string ⟨#[35]⟩] 9)) (w.heap.size + 1) 9 (strsC faceFs).toArray := Blk.new' _ _ _ (by simp)
  have o8 := (hF.alloc (.cells #[.int .i64 0, .int .i64 0, .int .i64 0] 109)).alloc (.cells #[.string ⟨#[102, 97, 99, 101]⟩, .string ⟨#[110, 97, 109, 101]⟩, .string ⟨#[35]⟩, .string ⟨#[35]⟩, .string ⟨#[35]⟩, .string ⟨#[35]⟩] 9)
  have hB0 : Below w.heap.size w ((w.alloc (.cells #[.int .i64 0, .int .i64 0, .int .i64 0] 109)).alloc (.cells #[.string ⟨#[102, 97, 99, 101]⟩, .string ⟨#[110, 97, 109, 101]⟩, .string ⟨#[35]⟩, .string ⟨#[35]⟩, .string ⟨#[35]⟩, .string ⟨#[35]⟩] 9)) := (by repeat first | (with_reducible first | exact Below.refl _ _ | assumption) | ((with_reducible first | refine Below.setCell ?_ ?_ _ | refine Below.alloc ?_ ?_ _); rotate_left; · first | exact Nat.le_refl _ | (simp; done) | (simp; omega) | omega) | (with_reducible first | apply Below.drew | apply below_drewN') | refine Below.trans ?_ (Below.mono (by assumption) (by first | exact Nat.le_refl _ | (simp; done) | (simp; omega) | omega)) | exact Below.refl _ _ | assumption)
  have hzw : ((w.alloc (.cells #[.int .i64 0, .int .i64 0, .int .i64 0] 109)).alloc (.cells #[.string ⟨#[102, 97, 99, 101]⟩, .string ⟨#[110, 97, 109, 101]⟩, .string ⟨#[35]⟩, .string ⟨#[35]⟩, .string ⟨#[35]⟩, .string ⟨#[35]⟩] 9)).heap.size = w.heap.size + 1 + 1 := by simp
  generalize ((w.alloc (.cells #[.int .i64 0, .int .i64 0, .int .i64 0] 109)).alloc (.cells #[.string ⟨#[102, 97, 99, 101]⟩, .string ⟨#[110, 97, 109, 101]⟩, .string ⟨#[35]⟩, .string ⟨#[35]⟩, .string ⟨#[35]⟩, .string ⟨#[35]⟩] 9)) = W0 at *
  have hR0 := (HR.out.below hB0 hB).more (Nat.le_trans hB (Below.size hB0))
  have ltS := bs.lt
  refine (form_prog faceFs line ws A _ c 6 W0.heap.size W0 (HL.out.below hB0 (Nat.le_refl _)) (by decide) (by decide) hn hn0' HS.out hR0 (row_blk bs bs.lt rfl) (Nat.le_refl _)).mono ?_
  rintro e wq ⟨k, n, l, cl, nt, A1, A2, q1, q2, m, rfl, HFm, HBAD, HOK, hB1⟩
  have lj := bj.lt
  have lf := bf.lt
  replace bj := bj.below hB1 lj
  replace bf := bf.below hB1 lf
  replace o8 := own_below o8 hB1
  have hBB := hB0.trans (hB1.mono (Below.size hB0))
  have hz1 := Below.size hB1
  have HB := Lib.hid hBB
  have lj1 := bj.lt
  have lf1 := bf.lt
  have hR1 := (HR.out.below hBB hB).more (Nat.le_trans hB (Below.size hBB))
  clear hB0 hR0 bs hB1 hj hF
  have dj : ¬ jb = w.heap.size := by omega
  have dj' : ¬ w.heap.size = jb := by omega
  obtain ⟨j0, j1, j2, j3, jf⟩ := blk4 bj
  obtain ⟨f0, f1, f2, ff⟩ := blk3 bf
  by_cases hn0 : n = 0
  · subst hn0
    obtain ⟨hl6, hnb, hq⟩ := faceP_ok (j := j) hn0' HFm.out
    obtain ⟨rfl, hm, o5, o6⟩ := HOK.out rfl
    rw [show faceFs.length = 6 from rfl] at hm o5 o6
    unfold valsK at o6
    rw [face_hash] at hm o5 o6
    obtain rfl : m = 4 := hm
    rw [show faceFs.length = 6 from rfl, face_name]
    have h0l : 0 < ws.length := by omega
    have h1l : 1 < ws.length := by omega
    have h2l : 2 < ws.length := by omega
    have h3l : 3 < ws.length := by omega
    have h4l : 4 < ws.length := by omega
    have h5l : 5 < ws.length := by omega
    have e1 : (ws.getD 1 w0) = ws[1] := getD_of h1l _
    have e2 : (ws.getD 2 w0) = ws[2] := getD_of h2l _
    have e3 : (ws.getD 3 w0) = ws[3] := getD_of h3l _
    have e4 : (ws.getD 4 w0) = ws[4] := getD_of h4l _
    have e5 : (ws.getD 5 w0) = ws[5] := getD_of h5l _
    have c0 := colW_in h0l
    have c1' := colW_in h1l
    have c2 := colW_in h2l
    have c3 := colW_in h3l
    have c4 := colW_in h4l
    have c5 := colW_in h5l
    have hsz1 := (HS.out _ (List.getElem_mem h1l)).1
    rw [wordT_eq h1l] at hnb
    rw [wordT_eq h1l, show numT ws 2 = numW ws[2].1 by unfold numT; rw [wordT_eq h2l], show numT ws 3 = numW ws[3].1 by unfold numT; rw [wordT_eq h3l], show numT ws 4 = numW ws[4].1 by unfold numT; rw [wordT_eq h4l], show numT ws 5 = numW ws[5].1 by unfold numT; rw [wordT_eq h5l]] at hq
    rw [e2, e3, e4, e5] at o5 o6
    rw [e1]
    obtain ⟨gA, oA, rfl, hgA, hallA⟩ := tknCells' hR1 hn0'
    obtain ⟨a0, a1, a2⟩ := hallA 0 h0l
    rw [Nat.zero_mul, Nat.add_zero] at a0 a1 a2
    obtain ⟨x0, h0⟩ : ∃ c, ws[0].2 = c := ⟨_, rfl⟩
    obtain ⟨nm, c1, h1⟩ : ∃ t c, ws[1] = (t, c) := ⟨_, _, rfl⟩
    obtain ⟨t2, x2, h2⟩ : ∃ t c, ws[2] = (t, c) := ⟨_, _, rfl⟩
    obtain ⟨t3, x3, h3⟩ : ∃ t c, ws[3] = (t, c) := ⟨_, _, rfl⟩
    obtain ⟨t4, x4, h4⟩ : ∃ t c, ws[4] = (t, c) := ⟨_, _, rfl⟩
    obtain ⟨t5, x5, h5⟩ : ∃ t c, ws[5] = (t, c) := ⟨_, _, rfl⟩
    rw [h2, h3, h4, h5] at o5 o6 hq
    rw [h1] at hq hnb hsz1 c1'
    rw [h0] at a2 c0
    rw [h2] at c2
    rw [h3] at c3
    rw [h4] at c4
    rw [h5] at c5
    rw [h1]
    simp only [List.map_cons, List.map_nil] at o6 hq c1' c2 c3 c4 c5 hnb hsz1 ⊢
    have HQ := Lib.hid hq
    have C0 := Lib.hid c0; have C1 := Lib.hid c1'; have C2 := Lib.hid c2; have C3 := Lib.hid c3; have C4 := Lib.hid c4; have C5 := Lib.hid c5
    have HFE := Lib.hid (faceE_q (j := j) (n2 := numW t2) (n3 := numW t3) (n4 := numW t4) (n5 := numW t5) hnb)
    clear hq c0 c1' c2 c3 c4 c5 h0 h1 h2 h3 h4 h5 e1 e2 e3 e4 e5 h0l h1l h2l h3l h4l h5l HFm HBAD HOK hallA hR1 a0 hnb
    obtain ⟨W', hW'⟩ : ∃ W', ws.length = W' := ⟨_, rfl⟩
    rw [hl6]
    clear hl6 hn hn0' hW'
    generalize numW t2 = n2 at *
    generalize numW t3 = n3 at *
    generalize numW t4 = n4 at *
    generalize numW t5 = n5 at *
    obtain ⟨g5, y5, e5, hg5, hl5⟩ := o5.form (by omega)
    obtain ⟨rfl, rfl⟩ : A1 = some ⟨g5, 0, none⟩ ∧ q1 = y5 := by injection e5 with a b c; exact ⟨a, c⟩
    obtain ⟨g6, y6, e6, hg6, hl6⟩ := o6.form (by omega)
    obtain ⟨rfl, rfl⟩ : A2 = some ⟨g6, 0, none⟩ ∧ q2 = y6 := by injection e6 with a b c; exact ⟨a, c⟩
    clear e5 e6
    have bn := (Blk.new wq 157 #[.string nm, .int .i64 line, .int .i64 c1]).alloc (.cells #[.int .i64 l, .int .i64 cl, .int .i64 0] 109)
    replace bj := (bj.alloc (.cells #[.string nm, .int .i64 line, .int .i64 c1] 157)).alloc (.cells #[.int .i64 l, .int .i64 cl, .int .i64 0] 109)
    replace bf := (bf.alloc (.cells #[.string nm, .int .i64 line, .int .i64 c1] 157)).alloc (.cells #[.int .i64 l, .int .i64 cl, .int .i64 0] 109)
    replace o5 := (o5.alloc (.cells #[.string nm, .int .i64 line, .int .i64 c1] 157)).alloc (.cells #[.int .i64 l, .int .i64 cl, .int .i64 0] 109)
    replace o6 := (o6.alloc (.cells #[.string nm, .int .i64 line, .int .i64 c1] 157)).alloc (.cells #[.int .i64 l, .int .i64 cl, .int .i64 0] 109)
    replace o8 := (o8.alloc (.cells #[.string nm, .int .i64 line, .int .i64 c1] 157)).alloc (.cells #[.int .i64 l, .int .i64 cl, .int .i64 0] 109)
    have HB2 := Lib.hid ((HB.out.alloc HB.out.size (.cells #[.string nm, .int .i64 line, .int .i64 c1] 157)).alloc (Nat.le_trans HB.out.size (by simp)) (.cells #[.int .i64 l, .int .i64 cl, .int .i64 0] 109))
    have hzz : ((wq.alloc (.cells #[.string nm, .int .i64 line, .int .i64 c1] 157)).alloc (.cells #[.int .i64 l, .int .i64 cl, .int .i64 0] 109)).heap.size = wq.heap.size + 1 + 1 := by simp
    replace a1 := (World.cell?_alloc_lt (wq.alloc (.cells #[.string nm, .int .i64 line, .int .i64 c1] 157)) (.cells #[.int .i64 l, .int .i64 cl, .int .i64 0] 109) ⟨gA, oA + 1, none⟩ (by simp; omega)).trans ((World.cell?_alloc_lt wq (.cells #[.string nm, .int .i64 line, .int .i64 c1] 157) ⟨gA, oA + 1, none⟩ hgA).trans a1)
    replace a2 := (World.cell?_alloc_lt (wq.alloc (.cells #[.string nm, .int .i64 line, .int .i64 c1] 157)) (.cells #[.int .i64 l, .int .i64 cl, .int .i64 0] 109) ⟨gA, oA + 2, none⟩ (by simp; omega)).trans ((World.cell?_alloc_lt wq (.cells #[.string nm, .int .i64 line, .int .i64 c1] 157) ⟨gA, oA + 2, none⟩ hgA).trans a2)
    go_wp2_with fail
    clear j0 j1 j2 j3 jf f0 f1 f2 ff lj1 lf1 lj lf
    generalize (wq.alloc (.cells #[.string nm, .int .i64 line, .int .i64 c1] 157)).alloc (.cells #[.int .i64 l, .int .i64 cl, .int .i64 0] 109) = W2 at *
    have r0 := o6.cellAt 0 (by omega)
    have r1 := o6.cellAt 1 (by omega)
    have r2 := o6.cellAt 2 (by omega)
    have r3 := o6.cellAt 3 (by omega)
    replace r0 : W2.cell? ⟨g6, 0, none⟩ = some (.int .i64 n2) := r0
    replace r1 : W2.cell? ⟨g6, 1, none⟩ = some (.int .i64 n3) := r1
    replace r2 : W2.cell? ⟨g6, 2, none⟩ = some (.int .i64 n4) := r2
    replace r3 : W2.cell? ⟨g6, 3, none⟩ = some (.int .i64 n5) := r3
    have l6 : g6 < W2.heap.size := by omega
    obtain ⟨m0, m1, m2, mf⟩ := blk3 bn
    have ln1 := bn.lt
    have hdd : w.heap.size + 1 + 1 ≤ wq.heap.size := by omega
    have d5 : ¬ g5 = w.heap.size := by omega
    clear hzz hzw ltS
    refine wp_region_w (Gr _) (by kernel_rfl) (Below.refl _ _).drew ?_
    refine wpW_det (t' := ?ct0R1) 0 (by rfl) (by kernel_rfl) (NQ_free _) (by kernel_rfl) ?cw0R1 ?ch0R1 ?ca0R1 (Eq.refl _) ?cH0R1
    case cw0R1 => (go_simp; done)
    case ch0R1 =>
      intro ds w' hS K hK
      have hc := (bcell hS).1; have hf := (bcell hS).2; have hz := hS.size; (try simp at hz); go_simp; (try go_bits)
      first
        | exact hK _ hS (Gr.refl _)
        | exact hK _ (hS.alloc hS.size _) ((Below.refl _ _).alloc (Nat.le_refl _) _)
    case ca0R1 => (first | (simp [Act.put]; done) | (simp [Act.put, *]; done))
    try dsimp only
    refine wpW_det (t' := ?ct1R1) 1 (by rfl) (by kernel_rfl) (NQ_free _) (by kernel_rfl) ?cw1R1 ?ch1R1 ?ca1R1 (Eq.refl _) ?cH1R1
    case cw1R1 => (go_simp; done)
    case ch1R1 =>
      intro ds w' hS K hK
      have hc := (bcell hS).1; have hf := (bcell hS).2; have hz := hS.size; (try simp at hz); go_simp; (try go_bits)
      first
        | exact hK _ hS (Gr.refl _)
        | exact hK _ (hS.alloc hS.size _) ((Below.refl _ _).alloc (Nat.le_refl _) _)
    case ca1R1 => (first | (simp [Act.put]; done) | (simp [Act.put, *]; done))
    try dsimp only
    refine wpW_det (t' := ?ct2R1) 2 (by rfl) (by kernel_rfl) (NQ_free _) (by kernel_rfl) ?cw2R1 ?ch2R1 ?ca2R1 (Eq.refl _) ?cH2R1
    case cw2R1 => (go_simp; done)
    case ch2R1 =>
      intro ds w' hS K hK
      have hc := (bcell hS).1; have hf := (bcell hS).2; have hz := hS.size; (try simp at hz); go_simp; (try go_bits)
      first
        | exact hK _ hS (Gr.refl _)
        | exact hK _ (hS.alloc hS.size _) ((Below.refl _ _).alloc (Nat.le_refl _) _)
    case ca2R1 => (first | (simp [Act.put]; done) | (simp [Act.put, *]; done))
    try dsimp only
    refine wpW_det (t' := ?ct3R1) 3 (by rfl) (by kernel_rfl) (NQ_free _) (by kernel_rfl) ?cw3R1 ?ch3R1 ?ca3R1 (Eq.refl _) ?cH3R1
    case cw3R1 => (go_simp; done)
    case ch3R1 =>
      intro ds w' hS K hK
      have hc := (bcell hS).1; have hf := (bcell hS).2; have hz := hS.size; (try simp at hz); go_simp; (try go_bits)
      first
        | exact hK _ hS (Gr.refl _)
        | exact hK _ (hS.alloc hS.size _) ((Below.refl _ _).alloc (Nat.le_refl _) _)
    case ca3R1 => (first | (simp [Act.put]; done) | (simp [Act.put, *]; done))
    try dsimp only
    refine wpW_det (t' := ?ct4R1) 4 (by rfl) (by kernel_rfl) (NQ_free _) (by kernel_rfl) ?cw4R1 ?ch4R1 ?ca4R1 (Eq.refl _) ?cH4R1
    case cw4R1 => (go_simp; done)
    case ch4R1 =>
      intro ds w' hS K hK
      have hc := (bcell hS).1; have hf := (bcell hS).2; have hz := hS.size; (try simp at hz); go_simp; (try go_bits)
      first
        | exact hK _ hS (Gr.refl _)
        | exact hK _ (hS.alloc hS.size _) ((Below.refl _ _).alloc (Nat.le_refl _) _)
    case ca4R1 => (first | (simp [Act.put]; done) | (simp [Act.put, *]; done))
    try dsimp only
    refine wpW_det (t' := ?ct5R1) 5 (by rfl) (by kernel_rfl) (NQ_free _) (by kernel_rfl) ?cw5R1 ?ch5R1 ?ca5R1 (Eq.refl _) ?cH5R1
    case cw5R1 => (go_simp; done)
    case ch5R1 =>
      intro ds w' hS K hK
      have hc := (bcell hS).1; have hf := (bcell hS).2; have hz := hS.size; (try simp at hz); go_simp; (try go_bits)
      first
        | exact hK _ hS (Gr.refl _)
        | exact hK _ (hS.alloc hS.size _) ((Below.refl _ _).alloc (Nat.le_refl _) _)
    case ca5R1 => (first | (simp [Act.put]; done) | (simp [Act.put, *]; done))
    try dsimp only
    refine wpW_det (t' := ?ct6R1) 6 (by rfl) (by kernel_rfl) (NQ_free _) (by kernel_rfl) ?cw6R1 ?ch6R1 ?ca6R1 (Eq.refl _) ?cH6R1
    case cw6R1 => (go_simp; done)
    case ch6R1 =>
      intro ds w' hS K hK
      have hc := (bcell hS).1; have hf := (bcell hS).2; have hz := hS.size; (try simp at hz); go_simp; (try go_bits)
      first
        | exact hK _ hS (Gr.refl _)
        | exact hK _ (hS.alloc hS.size _) ((Below.refl _ _).alloc (Nat.le_refl _) _)
    case ca6R1 => (first | (simp [Act.put]; done) | (simp [Act.put, *]; done))
    try dsimp only
    refine wpW_det (t' := ?ct7R1) 7 (by rfl) (by kernel_rfl) (NQ_free _) (by kernel_rfl) ?cw7R1 ?ch7R1 ?ca7R1 (Eq.refl _) ?cH7R1
    case cw7R1 => (go_simp; done)
    case ch7R1 =>
      intro ds w' hS K hK
      have hc := (bcell hS).1; have hf := (bcell hS).2; have hz := hS.size; (try simp at hz); go_simp; (try go_bits)
      first
        | exact hK _ hS (Gr.refl _)
        | exact hK _ (hS.alloc hS.size _) ((Below.refl _ _).alloc (Nat.le_refl _) _)
    case ca7R1 => (first | (simp [Act.put]; done) | (simp [Act.put, *]; done))
    try dsimp only
    refine wpW_det (t' := ?ct8R1) 8 (by rfl) (by kernel_rfl) (NQ_free _) (by kernel_rfl) ?cw8R1 ?ch8R1 ?ca8R1 (Eq.refl _) ?cH8R1
    case cw8R1 => (go_simp; done)
    case ch8R1 =>
      intro ds w' hS K hK
      have hc := (bcell hS).1; have hf := (bcell hS).2; have hz := hS.size; (try simp at hz); go_simp; (try go_bits)
      first
        | exact hK _ hS (Gr.refl _)
        | exact hK _ (hS.alloc hS.size _) ((Below.refl _ _).alloc (Nat.le_refl _) _)
    case ca8R1 => (first | (simp [Act.put]; done) | (simp [Act.put, *]; done))
    try dsimp only
    refine wpW_det (t' := ?ct9R1) 9 (by rfl) (by kernel_rfl) (NQ_free _) (by kernel_rfl) ?cw9R1 ?ch9R1 ?ca9R1 (Eq.refl _) ?cH9R1
    case cw9R1 => (go_simp; done)
    case ch9R1 =>
      intro ds w' hS K hK
      have hc := (bcell hS).1; have hf := (bcell hS).2; have hz := hS.size; (try simp at hz); go_simp; (try go_bits)
      first
        | exact hK _ hS (Gr.refl _)
        | exact hK _ (hS.alloc hS.size _) ((Below.refl _ _).alloc (Nat.le_refl _) _)
    case ca9R1 => (first | (simp [Act.put]; done) | (simp [Act.put, *]; done))
    try dsimp only
    refine wpW_det (t' := ?ct10R1) 10 (by rfl) (by kernel_rfl) (NQ_free _) (by kernel_rfl) ?cw10R1 ?ch10R1 ?ca10R1 (Eq.refl _) ?cH10R1
    case cw10R1 => (go_simp; done)
    case ch10R1 =>
      intro ds w' hS K hK
      have hc := (bcell hS).1; have hf := (bcell hS).2; have hz := hS.size; (try simp at hz); go_simp; (try go_bits)
      first
        | exact hK _ hS (Gr.refl _)
        | exact hK _ (hS.alloc hS.size _) ((Below.refl _ _).alloc (Nat.le_refl _) _)
    case ca10R1 => (first | (simp [Act.put]; done) | (simp [Act.put, *]; done))
    try dsimp only
    refine wpW_det (t' := ?ct11R1) 11 (by rfl) (by kernel_rfl) (NQ_free _) (by kernel_rfl) ?cw11R1 ?ch11R1 ?ca11R1 (Eq.refl _) ?cH11R1
    case cw11R1 => (go_simp; done)
    case ch11R1 =>
      intro ds w' hS K hK
      have hc := (bcell hS).1; have hf := (bcell hS).2; have hz := hS.size; (try simp at hz); go_simp; (try go_bits)
      first
        | exact hK _ hS (Gr.refl _)
        | exact hK _ (hS.alloc hS.size _) ((Below.refl _ _).alloc (Nat.le_refl _) _)
    case ca11R1 => (first | (simp [Act.put]; done) | (simp [Act.put, *]; done))
    try dsimp only
    refine wpW_det (t' := ?ct12R1) 12 (by rfl) (by kernel_rfl) (NQ_free _) (by kernel_rfl) ?cw12R1 ?ch12R1 ?ca12R1 (Eq.refl _) ?cH12R1
    case cw12R1 => (go_simp; done)
    case ch12R1 =>
      intro ds w' hS K hK
      have hc := (bcell hS).1; have hf := (bcell hS).2; have hz := hS.size; (try simp at hz); go_simp; (try go_bits)
      first
        | exact hK _ hS (Gr.refl _)
        | exact hK _ (hS.alloc hS.size _) ((Below.refl _ _).alloc (Nat.le_refl _) _)
    case ca12R1 => (first | (simp [Act.put]; done) | (simp [Act.put, *]; done))
    try dsimp only
    refine wpW_det (t' := ?ct13R1) 13 (by rfl) (by kernel_rfl) (NQ_free _) (by kernel_rfl) ?cw13R1 ?ch13R1 ?ca13R1 (Eq.refl _) ?cH13R1
    case cw13R1 => (go_simp; done)
    case ch13R1 =>
      intro ds w' hS K hK
      have hc := (bcell hS).1; have hf := (bcell hS).2; have hz := hS.size; (try simp at hz); go_simp; (try go_bits)
      first
        | exact hK _ hS (Gr.refl _)
        | exact hK _ (hS.alloc hS.size _) ((Below.refl _ _).alloc (Nat.le_refl _) _)
    case ca13R1 => (first | (simp [Act.put]; done) | (simp [Act.put, *]; done))
    try dsimp only
    refine wpW_det (t' := ?ct14R1) 14 (by rfl) (by kernel_rfl) (NQ_free _) (by kernel_rfl) ?cw14R1 ?ch14R1 ?ca14R1 (Eq.refl _) ?cH14R1
    case cw14R1 => (go_simp; done)
    case ch14R1 =>
      intro ds w' hS K hK
      have hc := (bcell hS).1; have hf := (bcell hS).2; have hz := hS.size; (try simp at hz); go_simp; (try go_bits)
      first
        | exact hK _ hS (Gr.refl _)
        | exact hK _ (hS.alloc hS.size _) ((Below.refl _ _).alloc (Nat.le_refl _) _)
    case ca14R1 => (first | (simp [Act.put]; done) | (simp [Act.put, *]; done))
    try dsimp only
    refine wpW_det (t' := ?ct15R1) 15 (by rfl) (by kernel_rfl) (NQ_free _) (by kernel_rfl) ?cw15R1 ?ch15R1 ?ca15R1 (Eq.refl _) ?cH15R1
    case cw15R1 => (go_simp; done)
    case ch15R1 =>
      intro ds w' hS K hK
      have hc := (bcell hS).1; have hf := (bcell hS).2; have hz := hS.size; (try simp at hz); go_simp; (try go_bits)
      first
        | exact hK _ hS (Gr.refl _)
        | exact hK _ (hS.alloc hS.size _) ((Below.refl _ _).alloc (Nat.le_refl _) _)
    case ca15R1 => (first | (simp [Act.put]; done) | (simp [Act.put, *]; done))
    try dsimp only
    refine wpW_det (t' := ?ct16R1) 16 (by rfl) (by kernel_rfl) (NQ_free _) (by kernel_rfl) ?cw16R1 ?ch16R1 ?ca16R1 (Eq.refl _) ?cH16R1
    case cw16R1 => (go_simp; done)
    case ch16R1 =>
      intro ds w' hS K hK
      have hc := (bcell hS).1; have hf := (bcell hS).2; have hz := hS.size; (try simp at hz); go_simp; (try go_bits)
      first
        | exact hK _ hS (Gr.refl _)
        | exact hK _ (hS.alloc hS.size _) ((Below.refl _ _).alloc (Nat.le_refl _) _)
    case ca16R1 => (first | (simp [Act.put]; done) | (simp [Act.put, *]; done))
    try dsimp only
    clear m0 m1 m2 mf r0 r1 r2 r3
    refine wpW_branch [17] (by kernel_rfl) (by simp) ?_
    intro w1 hg1 hS1
    try have z := Blk.gr z hg1
    try (have zz := blk5 z; obtain ⟨z0, z1, z2, z3, z4, zf⟩ := zz)
    try have lz := z.lt
    refine each_cons ?_ (each_nil)
    · refine wpOp_go (by rfl) (Eq.refl _) (by go_simp; done) ?_
      intro K hK
      go_simp
      try simp only [Act.put]
      have z := Blk.new w1 83 #[.string ⟨#[]⟩, .int .i64 0, .int .i64 0, .int .i64 0, .int .i64 0]
      have hzp := Below.size hS1
      refine hK _ _ (Below.alloc hS1 (Below.size hS1) _) ?_
      clear hK K
      generalize w1.heap.size = gz at *
      refine wpW_branch [18] (by kernel_rfl) (by simp) ?_
      intro w2 hg2 hS2
      try have z := Blk.gr z hg2
      try (have zz := blk5 z; obtain ⟨z0, z1, z2, z3, z4, zf⟩ := zz)
      try have lz := z.lt
      refine each_cons ?_ (each_nil)
      · refine wpOp_go (by rfl) (Eq.refl _) (by go_simp; done) ?_
        intro K hK
        go_simp
        try simp only [Act.put]
        have z := Blk.set5 z (.string nm) (.int .i64 n2) (.int .i64 n3) (.int .i64 n4) (.int .i64 n5)
        refine hK _ _ (Below.set5 hS2 hzp) ?_
        clear hK K z0 z1 z2 z3 z4 zf
        refine wpW_end (by kernel_rfl) ?_
        intro we hg hS
        unfold NQ
        dsimp only
        replace z := Blk.gr z hg
        have hW2 := Below.size hS
        replace bj := bj.gr hS
        replace bf := bf.gr hS
        replace bn := bn.gr hS
        replace o5 := own_below o5 hS
        replace o6 := own_below o6 hS
        replace o8 := own_below o8 hS
        replace HB2 := Lib.hid (HB2.out.trans (hS.mono HB2.out.size))
        replace a1 := (hS.cell (p := ⟨gA, oA + 1, none⟩) (show gA < W2.heap.size by omega)).trans a1
        replace a2 := (hS.cell (p := ⟨gA, oA + 2, none⟩) (show gA < W2.heap.size by omega)).trans a2
        have lA : gA < we.heap.size := by omega
        have p1 := o5.cellAt 1 (by omega)
        have p2 := o5.cellAt 2 (by omega)
        have p4 := o5.cellAt 4 (by omega)
        have p5 := o5.cellAt 5 (by omega)
        have p7 := o5.cellAt 7 (by omega)
        have p8 := o5.cellAt 8 (by omega)
        have p10 := o5.cellAt 10 (by omega)
        have p11 := o5.cellAt 11 (by omega)
        have r0 := o6.cellAt 0 (by omega)
        have r1 := o6.cellAt 1 (by omega)
        have r2 := o6.cellAt 2 (by omega)
        have r3 := o6.cellAt 3 (by omega)
        replace p1 : we.cell? ⟨g5, 1, none⟩ = some (.int .i64 line) := p1
        replace p2 : we.cell? ⟨g5, 2, none⟩ = some (.int .i64 x2) := p2
        replace p4 : we.cell? ⟨g5, 4, none⟩ = some (.int .i64 line) := p4
        replace p5 : we.cell? ⟨g5, 5, none⟩ = some (.int .i64 x3) := p5
        replace p7 : we.cell? ⟨g5, 7, none⟩ = some (.int .i64 line) := p7
        replace p8 : we.cell? ⟨g5, 8, none⟩ = some (.int .i64 x4) := p8
        replace p10 : we.cell? ⟨g5, 10, none⟩ = some (.int .i64 line) := p10
        replace p11 : we.cell? ⟨g5, 11, none⟩ = some (.int .i64 x5) := p11
        replace r0 : we.cell? ⟨g6, 0, none⟩ = some (.int .i64 n2) := r0
        replace r1 : we.cell? ⟨g6, 1, none⟩ = some (.int .i64 n3) := r1
        replace r2 : we.cell? ⟨g6, 2, none⟩ = some (.int .i64 n4) := r2
        replace r3 : we.cell? ⟨g6, 3, none⟩ = some (.int .i64 n5) := r3
        have l5 : g5 < we.heap.size := by omega
        replace l6 : g6 < we.heap.size := by omega
        have hgz : wq.heap.size + 1 ≤ gz := by omega
        obtain ⟨j0, j1, j2, j3, jf⟩ := blk4 bj
        obtain ⟨f0, f1, f2, ff⟩ := blk3 bf
        obtain ⟨m0, m1, m2, mf⟩ := blk3 bn
        obtain ⟨z0, z1, z2, z3, z4, zf⟩ := blk5 z
        have lj1 := bj.lt
        have lf1 := bf.lt
        replace ln1 := bn.lt
        have lz1 := z.lt
        have HZ := Lib.hid z
        have BJ := Lib.hid bj; have BF := Lib.hid bf; have O8 := Lib.hid o8
        have hl8 : j.fs.length ≤ 1000000 := by omega
        have HFER : Hid (∀ w', Gr we w' → Calls Tryz.prog 80 #[.slice AF j.fs.length cf, .agg #[.string nm, .int .i64 n2, .int .i64 n3, .int .i64 n4, .int .i64 n5], .int .i64 j.thick] w' fun e w'' => e = .returned (.int .i64 (faceE j.fs nm ⟨n2, n3, n4, n5⟩ j.thick)) ∧ Below w'.heap.size w' w'') := Lib.hid (fun w' hg => by
          obtain ⟨Ax, cx, ex, Rx⟩ := Row.own o8
          injection ex with ea _ ec
          subst ea ec
          exact faceErr_any j.fs AF cf nm ⟨n2, n3, n4, n5⟩ j.thick we.heap.size w' (by omega) hl8 (Rx.below hg (Nat.le_refl _)) (Below.size hg))
        clear z bj bn o5 o6 o8 hS hg hzp hW2 hl5 hl6 hg5 hg6 hz1 hgA
        by_cases h12 : j.fs.length = 12
        · have HE : Hid (faceP j ws = (none, 0, 8)) := Lib.hid (by rw [HQ.out]; unfold faceQ; rw [if_pos h12])
          have g12 : ((j.fs.length : Int) == 12) = true := by simp [h12]
          go_wp2_with fail
          have z1 := Blk.set3 bf (.int .i64 line) (.int .i64 x0) (.int .i64 8)
          have zB := Below.set3 (g := w.heap.size) (u0 := .int .i64 line) (u1 := .int .i64 x0) (u2 := .int .i64 8) HB2.out (Nat.le_refl _)
          have HQ3 : Hid (AddR j jb base AF cf w _ (faceP j ws).1) := Lib.hid (by rw [HE.out]; exact zB)
          have HQ2 : Hid ((faceP j ws).2.2 ≠ 0 → line = line ∧ x0 = colW ws (faceP j ws).2.1) := Lib.hid (fun _ => ⟨rfl, by rw [HE.out]; exact C0.out.symm⟩)
          have HQ1 : Hid (Ending.returned (.agg #[.int .i64 line, .int .i64 x0, .int .i64 8]) = .returned (.agg #[.int .i64 line, .int .i64 x0, .int .i64 (faceP j ws).2.2])) := Lib.hid (by rw [HE.out])
          obtain ⟨b0, b1, b2, _⟩ := blk3 z1
          refine bodyPost_ret (v := .agg #[.int .i64 line, .int .i64 x0, .int .i64 8]) ?_ rfl ⟨line, x0, HQ1.out, HQ2, HQ3.out⟩
          simp [results, Tryz.results42, go_sem, b0, b1, b2]
        · have g12 : ((j.fs.length : Int) == 12) = false := beq_eq_false_iff_ne.2 (by omega)
          have H12 := Lib.hid h12
          clear h12
          obtain ⟨E, hE⟩ : ∃ E, faceE j.fs nm ⟨n2, n3, n4, n5⟩ j.thick = E := ⟨_, rfl⟩
          rw [hE] at HFER
          have HEE : Hid (E = if j.fs.any (fun p => sameB p.1 nm) = true then 5 else if wi n2 (-20000) 20000 = false ∨ wi n3 0 j.thick = false ∨ wi n4 (-20000) 20000 = false ∨ wi n5 0 j.thick = false then 2 else if n2 = n4 ∧ n3 = n5 then 11 else 0) := Lib.hid (hE.symm.trans HFE.out)
          clear hE HFE
          go_wp2_with fail
          refine wp_region_w (Gr _) (by kernel_rfl) (Below.refl _ _).drew ?_
          refine wpW_det (t' := ?ct0R2) 0 (by rfl) (by kernel_rfl) (NQ_free _) (by kernel_rfl) ?cw0R2 ?ch0R2 ?ca0R2 (Eq.refl _) ?cH0R2
          case cw0R2 => (go_simp; done)
          case ch0R2 =>
            intro ds w' hS K hK
            have hc := (bcell hS).1; have hf := (bcell hS).2; have hz := hS.size; (try simp at hz); go_simp; (try go_bits)
            first
              | exact hK _ hS (Gr.refl _)
              | (go_at_call 80; refine (HFER.out _ hS).mono ?_; rintro e wy ⟨rfl, hBy⟩; exact hK _ (Below.trans hS (Below.mono hBy (Below.size hS))) hBy)
              | exact hK _ (hS.alloc hS.size _) ((Below.refl _ _).alloc (Nat.le_refl _) _)
          case ca0R2 => (first | (simp [Act.put]; done) | (simp [Act.put, *]; done))
          try dsimp only
          refine wpW_det (t' := ?ct1R2) 1 (by rfl) (by kernel_rfl) (NQ_free _) (by kernel_rfl) ?cw1R2 ?ch1R2 ?ca1R2 (Eq.refl _) ?cH1R2
          case cw1R2 => (go_simp; done)
          case ch1R2 =>
            intro ds w' hS K hK
            have hc := (bcell hS).1; have hf := (bcell hS).2; have hz := hS.size; (try simp at hz); go_simp; (try go_bits)
            first
              | exact hK _ hS (Gr.refl _)
              | (go_at_call 80; refine (HFER.out _ hS).mono ?_; rintro e wy ⟨rfl, hBy⟩; exact hK _ (Below.trans hS (Below.mono hBy (Below.size hS))) hBy)
              | exact hK _ (hS.alloc hS.size _) ((Below.refl _ _).alloc (Nat.le_refl _) _)
          case ca1R2 => (first | (simp [Act.put]; done) | (simp [Act.put, *]; done))
          try dsimp only
          refine wpW_det (t' := ?ct2R2) 2 (by rfl) (by kernel_rfl) (NQ_free _) (by kernel_rfl) ?cw2R2 ?ch2R2 ?ca2R2 (Eq.refl _) ?cH2R2
          case cw2R2 => (go_simp; done)
          case ch2R2 =>
            intro ds w' hS K hK
            have hc := (bcell hS).1; have hf := (bcell hS).2; have hz := hS.size; (try simp at hz); go_simp; (try go_bits)
            first
              | exact hK _ hS (Gr.refl _)
              | (go_at_call 80; refine (HFER.out _ hS).mono ?_; rintro e wy ⟨rfl, hBy⟩; exact hK _ (Below.trans hS (Below.mono hBy (Below.size hS))) hBy)
              | exact hK _ (hS.alloc hS.size _) ((Below.refl _ _).alloc (Nat.le_refl _) _)
          case ca2R2 => (first | (simp [Act.put]; done) | (simp [Act.put, *]; done))
          try dsimp only
          refine wpW_det (t' := ?ct3R2) 3 (by rfl) (by kernel_rfl) (NQ_free _) (by kernel_rfl) ?cw3R2 ?ch3R2 ?ca3R2 (Eq.refl _) ?cH3R2
          case cw3R2 => (go_simp; done)
          case ch3R2 =>
            intro ds w' hS K hK
            have hc := (bcell hS).1; have hf := (bcell hS).2; have hz := hS.size; (try simp at hz); go_simp; (try go_bits)
            first
              | exact hK _ hS (Gr.refl _)
              | (go_at_call 80; refine (HFER.out _ hS).mono ?_; rintro e wy ⟨rfl, hBy⟩; exact hK _ (Below.trans hS (Below.mono hBy (Below.size hS))) hBy)
              | exact hK _ (hS.alloc hS.size _) ((Below.refl _ _).alloc (Nat.le_refl _) _)
          case ca3R2 => (first | (simp [Act.put]; done) | (simp [Act.put, *]; done))
          try dsimp only
          refine wpW_det (t' := ?ct4R2) 4 (by rfl) (by kernel_rfl) (NQ_free _) (by kernel_rfl) ?cw4R2 ?ch4R2 ?ca4R2 (Eq.refl _) ?cH4R2
          case cw4R2 => (go_simp; done)
          case ch4R2 =>
            intro ds w' hS K hK
            have hc := (bcell hS).1; have hf := (bcell hS).2; have hz := hS.size; (try simp at hz); go_simp; (try go_bits)
            first
              | exact hK _ hS (Gr.refl _)
              | (go_at_call 80; refine (HFER.out _ hS).mono ?_; rintro e wy ⟨rfl, hBy⟩; exact hK _ (Below.trans hS (Below.mono hBy (Below.size hS))) hBy)
              | exact hK _ (hS.alloc hS.size _) ((Below.refl _ _).alloc (Nat.le_refl _) _)
          case ca4R2 => (first | (simp [Act.put]; done) | (simp [Act.put, *]; done))
          try dsimp only
          refine wpW_det (t' := ?ct5R2) 5 (by rfl) (by kernel_rfl) (NQ_free _) (by kernel_rfl) ?cw5R2 ?ch5R2 ?ca5R2 (Eq.refl _) ?cH5R2
          case cw5R2 => (go_simp; done)
          case ch5R2 =>
            intro ds w' hS K hK
            have hc := (bcell hS).1; have hf := (bcell hS).2; have hz := hS.size; (try simp at hz); go_simp; (try go_bits)
            first
              | exact hK _ hS (Gr.refl _)
              | (go_at_call 80; refine (HFER.out _ hS).mono ?_; rintro e wy ⟨rfl, hBy⟩; exact hK _ (Below.trans hS (Below.mono hBy (Below.size hS))) hBy)
              | exact hK _ (hS.alloc hS.size _) ((Below.refl _ _).alloc (Nat.le_refl _) _)
          case ca5R2 => (first | (simp [Act.put]; done) | (simp [Act.put, *]; done))
          try dsimp only
          refine wpW_det (t' := ?ct6R2) 6 (by rfl) (by kernel_rfl) (NQ_free _) (by kernel_rfl) ?cw6R2 ?ch6R2 ?ca6R2 (Eq.refl _) ?cH6R2
          case cw6R2 => (go_simp; done)
          case ch6R2 =>
            intro ds w' hS K hK
            have hc := (bcell hS).1; have hf := (bcell hS).2; have hz := hS.size; (try simp at hz); go_simp; (try go_bits)
            first
              | exact hK _ hS (Gr.refl _)
              | (go_at_call 80; refine (HFER.out _ hS).mono ?_; rintro e wy ⟨rfl, hBy⟩; exact hK _ (Below.trans hS (Below.mono hBy (Below.size hS))) hBy)
              | exact hK _ (hS.alloc hS.size _) ((Below.refl _ _).alloc (Nat.le_refl _) _)
          case ca6R2 => (first | (simp [Act.put]; done) | (simp [Act.put, *]; done))
          try dsimp only
          refine wpW_det (t' := ?ct7R2) 7 (by rfl) (by kernel_rfl) (NQ_free _) (by kernel_rfl) ?cw7R2 ?ch7R2 ?ca7R2 (Eq.refl _) ?cH7R2
          case cw7R2 => (go_simp; done)
          case ch7R2 =>
            intro ds w' hS K hK
            have hc := (bcell hS).1; have hf := (bcell hS).2; have hz := hS.size; (try simp at hz); go_simp; (try go_bits)
            first
              | exact hK _ hS (Gr.refl _)
              | (go_at_call 80; refine (HFER.out _ hS).mono ?_; rintro e wy ⟨rfl, hBy⟩; exact hK _ (Below.trans hS (Below.mono hBy (Below.size hS))) hBy)
              | exact hK _ (hS.alloc hS.size _) ((Below.refl _ _).alloc (Nat.le_refl _) _)
          case ca7R2 => (first | (simp [Act.put]; done) | (simp [Act.put, *]; done))
          try dsimp only
          refine wpW_det (t' := ?ct8R2) 8 (by rfl) (by kernel_rfl) (NQ_free _) (by kernel_rfl) ?cw8R2 ?ch8R2 ?ca8R2 (Eq.refl _) ?cH8R2
          case cw8R2 => (go_simp; done)
          case ch8R2 =>
            intro ds w' hS K hK
            have hc := (bcell hS).1; have hf := (bcell hS).2; have hz := hS.size; (try simp at hz); go_simp; (try go_bits)
            first
              | exact hK _ hS (Gr.refl _)
              | (go_at_call 80; refine (HFER.out _ hS).mono ?_; rintro e wy ⟨rfl, hBy⟩; exact hK _ (Below.trans hS (Below.mono hBy (Below.size hS))) hBy)
              | exact hK _ (hS.alloc hS.size _) ((Below.refl _ _).alloc (Nat.le_refl _) _)
          case ca8R2 => (first | (simp [Act.put]; done) | (simp [Act.put, *]; done))
          try dsimp only
          refine wpW_det (t' := ?ct9R2) 9 (by rfl) (by kernel_rfl) (NQ_free _) (by kernel_rfl) ?cw9R2 ?ch9R2 ?ca9R2 (Eq.refl _) ?cH9R2
          case cw9R2 => (go_simp; done)
          case ch9R2 =>
            intro ds w' hS K hK
            have hc := (bcell hS).1; have hf := (bcell hS).2; have hz := hS.size; (try simp at hz); go_simp; (try go_bits)
            first
              | exact hK _ hS (Gr.refl _)
              | (go_at_call 80; refine (HFER.out _ hS).mono ?_; rintro e wy ⟨rfl, hBy⟩; exact hK _ (Below.trans hS (Below.mono hBy (Below.size hS))) hBy)
              | exact hK _ (hS.alloc hS.size _) ((Below.refl _ _).alloc (Nat.le_refl _) _)
          case ca9R2 => (first | (simp [Act.put]; done) | (simp [Act.put, *]; done))
          try dsimp only
          refine wpW_det (t' := ?ct10R2) 10 (by rfl) (by kernel_rfl) (NQ_free _) (by kernel_rfl) ?cw10R2 ?ch10R2 ?ca10R2 (Eq.refl _) ?cH10R2
          case cw10R2 => (go_simp; done)
          case ch10R2 =>
            intro ds w' hS K hK
            have hc := (bcell hS).1; have hf := (bcell hS).2; have hz := hS.size; (try simp at hz); go_simp; (try go_bits)
            first
              | exact hK _ hS (Gr.refl _)
              | (go_at_call 80; refine (HFER.out _ hS).mono ?_; rintro e wy ⟨rfl, hBy⟩; exact hK _ (Below.trans hS (Below.mono hBy (Below.size hS))) hBy)
              | exact hK _ (hS.alloc hS.size _) ((Below.refl _ _).alloc (Nat.le_refl _) _)
          case ca10R2 => (first | (simp [Act.put]; done) | (simp [Act.put, *]; done))
          try dsimp only
          refine wpW_end (by kernel_rfl) ?_
          intro wg hg hS
          unfold NQ
          dsimp only
          replace a1 := (hS.cell (p := ⟨gA, oA + 1, none⟩) lA).trans a1
          replace a2 := (hS.cell (p := ⟨gA, oA + 2, none⟩) lA).trans a2
          replace p1 := (hS.cell (p := ⟨g5, 1, none⟩) l5).trans p1
          replace p2 := (hS.cell (p := ⟨g5, 2, none⟩) l5).trans p2
          replace p4 := (hS.cell (p := ⟨g5, 4, none⟩) l5).trans p4
          replace p5 := (hS.cell (p := ⟨g5, 5, none⟩) l5).trans p5
          replace p7 := (hS.cell (p := ⟨g5, 7, none⟩) l5).trans p7
          replace p8 := (hS.cell (p := ⟨g5, 8, none⟩) l5).trans p8
          replace p10 := (hS.cell (p := ⟨g5, 10, none⟩) l5).trans p10
          replace p11 := (hS.cell (p := ⟨g5, 11, none⟩) l5).trans p11
          replace r0 := (hS.cell (p := ⟨g6, 0, none⟩) l6).trans r0
          replace r1 := (hS.cell (p := ⟨g6, 1, none⟩) l6).trans r1
          replace r2 := (hS.cell (p := ⟨g6, 2, none⟩) l6).trans r2
          replace r3 := (hS.cell (p := ⟨g6, 3, none⟩) l6).trans r3
          replace BJ := Lib.hid (BJ.out.gr hS)
          replace BF := Lib.hid (BF.out.gr hS)
          replace O8 := Lib.hid (own_below O8.out hS)
          replace HZ := Lib.hid (HZ.out.gr hS)
          replace HB2 := Lib.hid (HB2.out.trans (hS.mono HB2.out.size))
          replace m0 := (hS.cell (p := ⟨wq.heap.size, 0, none⟩) ln1).trans m0
          replace m1 := (hS.cell (p := ⟨wq.heap.size, 1, none⟩) ln1).trans m1
          replace m2 := (hS.cell (p := ⟨wq.heap.size, 2, none⟩) ln1).trans m2
          have hWg := Below.size hS
          replace lA : gA < wg.heap.size := by omega
          replace l5 : g5 < wg.heap.size := by omega
          replace l6 : g6 < wg.heap.size := by omega
          replace ln1 : wq.heap.size < wg.heap.size := by omega
          clear j0 j1 j2 j3 jf f0 f1 f2 ff mf z0 z1 z2 z3 z4 zf lj1 lf1 lz1 hS hg
          obtain ⟨j0, j1, j2, j3, jf⟩ := blk4 BJ.out
          obtain ⟨f0, f1, f2, ff⟩ := blk3 BF.out
          obtain ⟨z0, z1, z2, z3, z4, zf⟩ := blk5 HZ.out
          have lj1 := BJ.out.lt
          have lf1 := BF.out.lt
          have lz1 := HZ.out.lt
          by_cases hany : j.fs.any (fun p => sameB p.1 nm) = true
          · have HE : Hid (faceP j ws = (none, 1, 5)) := Lib.hid (by rw [HQ.out]; unfold faceQ; rw [if_neg H12.out, if_pos hany])
            obtain rfl : E = 5 := by rw [HEE.out, if_pos hany]
            go_wp2_with fail
            have z1 := Blk.set3 BF.out (.int .i64 line) (.int .i64 c1) (.int .i64 5)
            have zB := Below.set3 (g := w.heap.size) (u0 := .int .i64 line) (u1 := .int .i64 c1) (u2 := .int .i64 5) HB2.out (Nat.le_refl _)
            have HQ3 : Hid (AddR j jb base AF cf w _ (faceP j ws).1) := Lib.hid (by rw [HE.out]; exact zB)
            have HQ2 : Hid ((faceP j ws).2.2 ≠ 0 → line = line ∧ c1 = colW ws (faceP j ws).2.1) := Lib.hid (fun _ => ⟨rfl, by rw [HE.out]; exact C1.out.symm⟩)
            have HQ1 : Hid (Ending.returned (.agg #[.int .i64 line, .int .i64 c1, .int .i64 5]) = .returned (.agg #[.int .i64 line, .int .i64 c1, .int .i64 (faceP j ws).2.2])) := Lib.hid (by rw [HE.out])
            obtain ⟨b0, b1, b2, _⟩ := blk3 z1
            refine bodyPost_ret (v := .agg #[.int .i64 line, .int .i64 c1, .int .i64 5]) ?_ rfl ⟨line, c1, HQ1.out, HQ2, HQ3.out⟩
            simp [results, Tryz.results42, go_sem, b0, b1, b2]
          · by_cases hz : (wi n2 (-20000) 20000 = true ∧ wi n3 0 j.thick = true ∧ wi n4 (-20000) 20000 = true ∧ wi n5 0 j.thick = true) ∧ (n2 = n4 ∧ n3 = n5)
            · obtain ⟨⟨h2, h3, h4, h5⟩, he⟩ := hz
              have HE : Hid (faceP j ws = (none, 2, 11)) := Lib.hid (by rw [HQ.out]; unfold faceQ; rw [if_neg H12.out, if_neg hany, if_neg (by rw [h2]; simp), if_neg (by rw [h3]; simp), if_neg (by rw [h4]; simp), if_neg (by rw [h5]; simp), if_pos he])
              obtain rfl : E = 11 := by rw [HEE.out, if_neg hany, if_neg (by rw [h2, h3, h4, h5]; simp), if_pos he]
              clear h2 h3 h4 h5 he
              go_wp2_with fail
              have z1 := Blk.set3 BF.out (.int .i64 line) (.int .i64 x2) (.int .i64 11)
              have zB := Below.set3 (g := w.heap.size) (u0 := .int .i64 line) (u1 := .int .i64 x2) (u2 := .int .i64 11) HB2.out (Nat.le_refl _)
              have HQ3 : Hid (AddR j jb base AF cf w _ (faceP j ws).1) := Lib.hid (by rw [HE.out]; exact zB)
              have HQ2 : Hid ((faceP j ws).2.2 ≠ 0 → line = line ∧ x2 = colW ws (faceP j ws).2.1) := Lib.hid (fun _ => ⟨rfl, by rw [HE.out]; exact C2.out.symm⟩)
              have HQ1 : Hid (Ending.returned (.agg #[.int .i64 line, .int .i64 x2, .int .i64 11]) = .returned (.agg #[.int .i64 line, .int .i64 x2, .int .i64 (faceP j ws).2.2])) := Lib.hid (by rw [HE.out])
              obtain ⟨b0, b1, b2, _⟩ := blk3 z1
              refine bodyPost_ret (v := .agg #[.int .i64 line, .int .i64 x2, .int .i64 11]) ?_ rfl ⟨line, x2, HQ1.out, HQ2, HQ3.out⟩
              simp [results, Tryz.results42, go_sem, b0, b1, b2]
            · have HOKE : Hid (wi n2 (-20000) 20000 = true → wi n3 0 j.thick = true → wi n4 (-20000) 20000 = true → wi n5 0 j.thick = true → faceP j ws = (some (nm, ⟨n2, n3, n4, n5⟩), 0, 0)) := Lib.hid (fun h2 h3 h4 h5 => by
                rw [HQ.out]; unfold faceQ; rw [if_neg H12.out, if_neg hany, if_neg (by rw [h2]; simp), if_neg (by rw [h3]; simp), if_neg (by rw [h4]; simp), if_neg (by rw [h5]; simp), if_neg (fun he => hz ⟨⟨h2, h3, h4, h5⟩, he⟩)])
              have HE2 : Hid (wi n2 (-20000) 20000 = false → faceP j ws = (none, 2, 2)) := Lib.hid (fun h2 => by
                rw [HQ.out]; unfold faceQ; rw [if_neg H12.out, if_neg hany, if_pos h2])
              have HE3 : Hid (wi n2 (-20000) 20000 = true → wi n3 0 j.thick = false → faceP j ws = (none, 3, 2)) := Lib.hid (fun h2 h3 => by
                rw [HQ.out]; unfold faceQ; rw [if_neg H12.out, if_neg hany, if_neg (by rw [h2]; simp), if_pos h3])
              have HE4 : Hid (wi n2 (-20000) 20000 = true → wi n3 0 j.thick = true → wi n4 (-20000) 20000 = false → faceP j ws = (none, 4, 2)) := Lib.hid (fun h2 h3 h4 => by
                rw [HQ.out]; unfold faceQ; rw [if_neg H12.out, if_neg hany, if_neg (by rw [h2]; simp), if_neg (by rw [h3]; simp), if_pos h4])
              have HE5 : Hid (wi n2 (-20000) 20000 = true → wi n3 0 j.thick = true → wi n4 (-20000) 20000 = true → wi n5 0 j.thick = false → faceP j ws = (none, 5, 2)) := Lib.hid (fun h2 h3 h4 h5 => by
                rw [HQ.out]; unfold faceQ; rw [if_neg H12.out, if_neg hany, if_neg (by rw [h2]; simp), if_neg (by rw [h3]; simp), if_neg (by rw [h4]; simp), if_pos h5])
              have hE5 : (E == 5) = false := beq_eq_false_iff_ne.2 (by
                rw [HEE.out, if_neg hany]
                split
                · decide
                · split <;> decide)
              have hE11 : (E == 11) = false := beq_eq_false_iff_ne.2 (by
                rw [HEE.out, if_neg hany]
                split
                · decide
                · rename_i hr
                  split
                  · rename_i he
                    exfalso
                    refine hz ⟨?_, he⟩
                    refine ⟨?_, ?_, ?_, ?_⟩
                    · cases h : wi n2 (-20000) 20000 with
                      | true => rfl
                      | false => exact absurd (.inl h) hr
                    · cases h : wi n3 0 j.thick with
                      | true => rfl
                      | false => exact absurd (.inr (.inl h)) hr
                    · cases h : wi n4 (-20000) 20000 with
                      | true => rfl
                      | false => exact absurd (.inr (.inr (.inl h))) hr
                    · cases h : wi n5 0 j.thick with
                      | true => rfl
                      | false => exact absurd (.inr (.inr (.inr h))) hr
                  · decide)
              clear hany hz HEE HFER
              go_wp2_with fail
              have hM : LpM j.thick line x2 x3 x4 x5 n2 n3 n4 n5 jb w.heap.size g5 g6 wg := ⟨lj1, l5, l6, BF.out, j1, p1, p4, p7, p10, p2, p5, p8, p11, r0, r1, r2, r3⟩
              have hloop := addLoop (q1 := q1) (q2 := q2) hM
              clear m0 m1 m2 ln1 a1 a2 lA j0 j1 j2 j3 jf f0 f1 f2 ff z0 z1 z2 z3 z4 zf p1 p2 p4 p5 p7 p8 p10 p11 r0 r1 r2 r3
              unfold bodyOf at hloop
              conv at hloop in (Option.getD _ Code.skip) => whnf
              refine hloop d5 _ ?_ ?_
              · intro t11 t79 t80 t81 t82 t83 t84 t85 t86 t87 t88 t89 t90 t91 t92 t93 t94 t95 t96 t97 t98 t99 t100 t101 t102 t103 t104 t105 t106 t107 t108 t109 t110 t111 t112 t113 t114 t115 t116 k x w' hG HK
                clear hloop
                have HE : Hid (faceP j ws = (none, k, 2) ∧ colW ws k = x) := Lib.hid (by
                  rcases HK.out with ⟨rfl, rfl, h1⟩ | ⟨rfl, rfl, h1, h2⟩ | ⟨rfl, rfl, h1, h2, h3⟩ | ⟨rfl, rfl, h1, h2, h3, h4⟩
                  · exact ⟨HE2.out h1, C2.out⟩
                  · exact ⟨HE3.out h1 h2, C3.out⟩
                  · exact ⟨HE4.out h1 h2 h3, C4.out⟩
                  · exact ⟨HE5.out h1 h2 h3 h4, C5.out⟩)
                have z1 := Blk.set3 (BF.out.gr hG) (.int .i64 line) (.int .i64 x) (.int .i64 2)
                have zB := Below.set3 (g := w.heap.size) (u0 := .int .i64 line) (u1 := .int .i64 x) (u2 := .int .i64 2) (HB2.out.trans (hG.mono HB2.out.size)) (Nat.le_refl _)
                have HQ3 : Hid (AddR j jb base AF cf w _ (faceP j ws).1) := Lib.hid (by rw [HE.out.1]; exact zB)
                have HQ2 : Hid ((faceP j ws).2.2 ≠ 0 → line = line ∧ x = colW ws (faceP j ws).2.1) := Lib.hid (fun _ => ⟨rfl, by rw [HE.out.1]; exact HE.out.2.symm⟩)
                have HQ1 : Hid (Ending.returned (.agg #[.int .i64 line, .int .i64 x, .int .i64 2]) = .returned (.agg #[.int .i64 line, .int .i64 x, .int .i64 (faceP j ws).2.2])) := Lib.hid (by rw [HE.out.1])
                obtain ⟨b0, b1, b2, _⟩ := blk3 z1
                dsimp only
                simp only [Exit.inBlock, Exit.then]
                refine bodyPost_ret (v := .agg #[.int .i64 line, .int .i64 x, .int .i64 2]) ?_ rfl ⟨line, x, HQ1.out, HQ2, HQ3.out⟩
                simp [results, Tryz.results42, go_sem, b0, b1, b2]
              · intro t11 t79 t80 t81 t82 t83 t84 t85 t86 t87 t88 t89 t90 t91 t92 t93 t94 t95 t96 t97 t98 t99 t100 t101 t102 t103 t104 t105 t106 t107 t108 t109 t110 t111 t112 t113 t114 t115 t116 wr hS HALLOK
                clear hloop
                have HE : Hid (faceP j ws = (some (nm, ⟨n2, n3, n4, n5⟩), 0, 0)) := Lib.hid (HOKE.out HALLOK.out.1 HALLOK.out.2.1 HALLOK.out.2.2.1 HALLOK.out.2.2.2)
                clear HOKE HE2 HE3 HE4 HE5
                replace BJ := Lib.hid (BJ.out.gr hS)
                replace BF := Lib.hid (BF.out.gr hS)
                replace O8 := Lib.hid (own_below O8.out hS)
                replace HZ := Lib.hid (HZ.out.gr hS)
                replace HB2 := Lib.hid (HB2.out.trans (hS.mono HB2.out.size))
                clear lj1 lf1 lz1 hS
                obtain ⟨j0, j1, j2, j3, jf⟩ := blk4 BJ.out
                obtain ⟨f0, f1, f2, ff⟩ := blk3 BF.out
                obtain ⟨z0, z1, z2, z3, z4, zf⟩ := blk5 HZ.out
                have lj1 := BJ.out.lt
                have lf1 := BF.out.lt
                have lz1 := HZ.out.lt
                dsimp only
                go_wp2_with fail
                have hwr := HB2.out.size
                refine addReg19 BJ.out HZ.out O8.out (by omega) hlen (fun e => by have := HOW.out _ e; omega) _ ?_
                intro t117 t118 t119 t120 t121 t122 t123 t124 t125 t126 A' c' wz bj' o9 K2
                dsimp only
                have bf' : Blk wz w.heap.size 109 #[.int .i64 0, .int .i64 0, .int .i64 0] := (K2.same _ lf1 (fun e => dj' e) (fun e => by have := HOW.out _ e.symm; omega)).trans BF.out
                clear j0 j1 j2 j3 jf f0 f1 f2 ff z0 z1 z2 z3 z4 zf lj1 lf1 lz1
                obtain ⟨f0, f1, f2, ff⟩ := blk3 bf'
                have lf1 := bf'.lt
                have HBJ := Lib.hid bj'; have HO9 := Lib.hid o9; have HK2 := Lib.hid K2
                clear bj' o9 K2
                go_wp2
                have z1 := Blk.set3 bf' (.int .i64 0) (.int .i64 0) (.int .i64 0)
                have zj := HBJ.out.far3 (p := w.heap.size) (by omega) (.int .i64 0) (.int .i64 0) (.int .i64 0)
                have zo := HO9.out.kept (grown3 wz w.heap.size (.int .i64 0) (.int .i64 0) (.int .i64 0)) (.inr (own_blk_ne HO9.out bf' (by decide)))
                have zk : KeepsTwo jb (Value.slice AF j.fs.length cf).ownBlock w (((wz.setCell ⟨w.heap.size, 0, none⟩ (.int .i64 0)).setCell ⟨w.heap.size, 1, none⟩ (.int .i64 0)).setCell ⟨w.heap.size, 2, none⟩ (.int .i64 0)) :=
                  ⟨⟨HK2.out.rest.1.trans HB2.out.os, HK2.out.rest.2.1.trans HB2.out.tape, HK2.out.rest.2.2.trans HB2.out.output⟩, by have := HK2.out.size; simp [World.setCell]; omega, fun g hg h1 h2 => (((grown3 wz w.heap.size (.int .i64 0) (.int .i64 0) (.int .i64 0)).block g (by have := HK2.out.size; omega) (fun e => by have := Option.some.inj e; omega)).trans (HK2.out.same g (by omega) h1 h2)).trans (HB2.out.block g hg)⟩
                have HQ3 : Hid (AddR j jb base AF cf w (((wz.setCell ⟨w.heap.size, 0, none⟩ (.int .i64 0)).setCell ⟨w.heap.size, 1, none⟩ (.int .i64 0)).setCell ⟨w.heap.size, 2, none⟩ (.int .i64 0)) (faceP j ws).1) := Lib.hid (by rw [HE.out]; exact ⟨A', c', zj, zo, zk⟩)
                have HQ2 : Hid ((faceP j ws).2.2 ≠ 0 → (0 : Int) = line ∧ (0 : Int) = colW ws (faceP j ws).2.1) := Lib.hid (fun h => absurd (by rw [HE.out]) h)
                have HQ1 : Hid (Ending.returned (.agg #[.int .i64 0, .int .i64 0, .int .i64 0]) = .returned (.agg #[.int .i64 0, .int .i64 0, .int .i64 (faceP j ws).2.2])) := Lib.hid (by rw [HE.out])
                obtain ⟨b0, b1, b2, _⟩ := blk3 z1
                refine bodyPost_ret (v := .agg #[.int .i64 0, .int .i64 0, .int .i64 0]) ?_ rfl ⟨0, 0, HQ1.out, HQ2, HQ3.out⟩
                simp [results, Tryz.results42, go_sem, b0, b1, b2]
  · have HQ : Hid (faceP j ws = (none, k, n)) := Lib.hid (faceP_form hn0' HFm.out hn0)
    have g1 : (n != 0) = true := by rw [bne, beq_eq_false_iff_ne.2 hn0]; rfl
    obtain ⟨rfl, rfl⟩ := HBAD.out hn0
    clear HFm HOK hn0
    go_wp2_with fail
    have z1 := ((Blk.set3 bf (.int .i64 l) (.int .i64 (colW ws k)) (.int .i64 n)).alloc (.cells #[.string nt.1, .int .i64 nt.2.1, .int .i64 nt.2.2] 157)).alloc (.cells #[.int .i64 l, .int .i64 (colW ws k), .int .i64 n] 109)
    have hzB := (Below.set3 (g := w.heap.size) (u0 := .int .i64 l) (u1 := .int .i64 (colW ws k)) (u2 := .int .i64 n) HB.out (Nat.le_refl _))
    have zB := (hzB.alloc hzB.size (.cells #[.string nt.1, .int .i64 nt.2.1, .int .i64 nt.2.2] 157)).alloc (Nat.le_trans hzB.size (by simp)) (.cells #[.int .i64 l, .int .i64 (colW ws k), .int .i64 n] 109)
    have HQ3 : Hid (AddR j jb base AF cf w _ (faceP j ws).1) := Lib.hid (by rw [HQ.out]; exact zB)
    have HQ2 : Hid ((faceP j ws).2.2 ≠ 0 → l = l ∧ colW ws k = colW ws (faceP j ws).2.1) := Lib.hid (fun _ => ⟨rfl, by rw [HQ.out]⟩)
    have HQ1 : Hid (Ending.returned (.agg #[.int .i64 l, .int .i64 (colW ws k), .int .i64 n]) = .returned (.agg #[.int .i64 l, .int .i64 (colW ws k), .int .i64 (faceP j ws).2.2])) := Lib.hid (by rw [HQ.out])
    obtain ⟨b0, b1, b2, _⟩ := blk3 z1
    refine bodyPost_ret (v := .agg #[.int .i64 l, .int .i64 (colW ws k), .int .i64 n]) ?_ rfl ⟨l, colW ws k, HQ1.out, HQ2, HQ3.out⟩
    simp [results, Tryz.results42, go_sem, b0, b1, b2]
end Go.Proofs.YtaekcfancfoccaaGreatDoor
