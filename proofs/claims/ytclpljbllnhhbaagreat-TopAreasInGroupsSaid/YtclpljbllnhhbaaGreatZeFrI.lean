/- TopAreasInGroups: the mark of an area (region 53). -/
import Derived.Test.YtclpljbllnhhbaaGreatZeFrD
import Derived.Test.YtclpljbllnhhbaaGreatZeFjG
import Derived.Test.YtclpljbllnhhbaaGreatZeFiF
import Derived.Test.YtclpljbllnhhbaaGreatZeFpR
namespace Go.Proofs.YtclpljbllnhhbaaGreat
open Go.RowKit

/-- The name of an area's mark. -/
def arN : ByteArray := ⟨#[97, 114, 101, 97]⟩
theorem arN_ok : nameB arN = true := by decide +kernel

set_option maxRecDepth 100000 in
set_option maxHeartbeats 32000000 in
theorem topReg53Z (g : Int → Int → Int) (AA : Option Addr) (cA B z5 : Nat) (As : List ArA) {d0 d1 : Int} {W : World} (hA : ArsOk g As AA B W) (hB : B ≤ W.heap.size) {i : Nat} (hi : i < As.length) (_hin : As.length ≤ 1000000) (b5 : Blk W z5 26 #[.int .i64 d0, .int .i64 d1]) {M : Mk} (hln : As[i].2.length ≤ 1000000000) (HCAP : Hid (∀ A c, As[i].1 = .slice A As[i].2.length c → As[i].2.length ≤ c ∧ (A = none → c = 0))) (HMO : Hid (markOfV As[i].2 d0 d1 arN (g (peakV g As[i].2).1 (peakV g As[i].2).2) = (M, 0))) {z : Nat → Value} {ds : List Deferred} (Q : Exit → Act → World → Prop)
    (h : ∀ (y : Nat → Value) (q28 : Nat) (w' : World), Gr W w' → W.heap.size ≤ q28 → Blk w' q28 46 (mkC M) → Q .normal ⟨#[z 0, z 1, z 2, z 3, z 4, .pointer (some ⟨z5, 0, none⟩), z 6, z 7, z 8, z 9, z 10, z 11, z 12, z 13, z 14, z 15, .slice AA As.length cA, z 17, z 18, z 19, .int .i64 i, z 21, z 22, z 23, z 24, z 25, z 26, z 27, .pointer (some ⟨q28, 0, none⟩), .int .i64 0, z 30, z 31, z 32, z 33, z 34, z 35, z 36, z 37, z 38, z 39, z 40, z 41, z 42, z 43, z 44, z 45, z 46, z 47, z 48, z 49, z 50, z 51, z 52, z 53, z 54, z 55, z 56, z 57, z 58, z 59, z 60, z 61, z 62, z 63, z 64, z 65, z 66, z 67, z 68, z 69, z 70, z 71, z 72, z 73, z 74, z 75, z 76, z 77, z 78, z 79, z 80, z 81, z 82, z 83, z 84, z 85, z 86, z 87, z 88, z 89, z 90, z 91, z 92, z 93, z 94, z 95, z 96, z 97, z 98, z 99, z 100, z 101, z 102, z 103, z 104, z 105, z 106, z 107, z 108, z 109, z 110, z 111, z 112, z 113, z 114, z 115, z 116, z 117, z 118, z 119, z 120, z 121, z 122, z 123, z 124, z 125, z 126, z 127, z 128, z 129, z 130, z 131, z 132, z 133, z 134, z 135, z 136, z 137, z 138, z 139, z 140, z 141, z 142, z 143, z 144, z 145, z 146, z 147, z 148, z 149, z 150, z 151, z 152, z 153, z 154, z 155, z 156, z 157, z 158, z 159, z 160, z 161, z 162, z 163, z 164, z 165, z 166, z 167, z 168, z 169, z 170, z 171, z 172, z 173, z 174, z 175, z 176, z 177, z 178, z 179, z 180, z 181, z 182, z 183, z 184, z 185, z 186, z 187, z 188, z 189, z 190, z 191, z 192, z 193, z 194, z 195, z 196, z 197, z 198, z 199, z 200, z 201, z 202, z 203, z 204, z 205, z 206, z 207, z 208, z 209, z 210, z 211, z 212, z 213, z 214, z 215, z 216, z 217, z 218, z 219, z 220, z 221, z 222, z 223, z 224, z 225, z 226, z 227, z 228, z 229, z 230, z 231, z 232, z 233, z 234, z 235, z 236, z 237, z 238, z 239, y 240, y 241, y 242, y 243, y 244, y 245, y 246, y 247, y 248, y 249, z 250, z 251, z 252, z 253, z 254, z 255, z 256, z 257, z 258, z 259, z 260, z 261, z 262, z 263, z 264], ds⟩ w') :
    (regOf Tryz.f3 53).wp Tryz.prog Q ⟨#[z 0, z 1, z 2, z 3, z 4, .pointer (some ⟨z5, 0, none⟩), z 6, z 7, z 8, z 9, z 10, z 11, z 12, z 13, z 14, z 15, .slice AA As.length cA, z 17, z 18, z 19, .int .i64 i, z 21, z 22, z 23, z 24, z 25, z 26, z 27, z 28, z 29, z 30, z 31, z 32, z 33, z 34, z 35, z 36, z 37, z 38, z 39, z 40, z 41, z 42, z 43, z 44, z 45, z 46, z 47, z 48, z 49, z 50, z 51, z 52, z 53, z 54, z 55, z 56, z 57, z 58, z 59, z 60, z 61, z 62, z 63, z 64, z 65, z 66, z 67, z 68, z 69, z 70, z 71, z 72, z 73, z 74, z 75, z 76, z 77, z 78, z 79, z 80, z 81, z 82, z 83, z 84, z 85, z 86, z 87, z 88, z 89, z 90, z 91, z 92, z 93, z 94, z 95, z 96, z 97, z 98, z 99, z 100, z 101, z 102, z 103, z 104, z 105, z 106, z 107, z 108, z 109, z 110, z 111, z 112, z 113, z 114, z 115, z 116, z 117, z 118, z 119, z 120, z 121, z 122, z 123, z 124, z 125, z 126, z 127, z 128, z 129, z 130, z 131, z 132, z 133, z 134, z 135, z 136, z 137, z 138, z 139, z 140, z 141, z 142, z 143, z 144, z 145, z 146, z 147, z 148, z 149, z 150, z 151, z 152, z 153, z 154, z 155, z 156, z 157, z 158, z 159, z 160, z 161, z 162, z 163, z 164, z 165, z 166, z 167, z 168, z 169, z 170, z 171, z 172, z 173, z 174, z 175, z 176, z 177, z 178, z 179, z 180, z 181, z 182, z 183, z 184, z 185, z 186, z 187, z 188, z 189, z 190, z 191, z 192, z 193, z 194, z 195, z 196, z 197, z 198, z 199, z 200, z 201, z 202, z 203, z 204, z 205, z 206, z 207, z 208, z 209, z 210, z 211, z 212, z 213, z 214, z 215, z 216, z 217, z 218, z 219, z 220, z 221, z 222, z 223, z 224, z 225, z 226, z 227, z 228, z 229, z 230, z 231, z 232, z 233, z 234, z 235, z 236, z 237, z 238, z 239, z 240, z 241, z 242, z 243, z 244, z 245, z 246, z 247, z 248, z 249, z 250, z 251, z 252, z 253, z 254, z 255, z 256, z 257, z 258, z 259, z 260, z 261, z 262, z 263, z 264], ds⟩ W := by
  have H := Lib.hid h; clear h
  have j2 : ((i : Int) < (As.length : Int)) := by omega
  obtain ⟨ga, oa, hAA, hga, y0, y1, y2, y3⟩ := hA.cell hi
  obtain ⟨Ai, ci, hai, hRi⟩ := (hA.each _ (List.getElem_mem hi)).row
  obtain ⟨hc1, hc2⟩ := HCAP.out Ai ci hai
  rw [hai] at y0
  obtain ⟨g0, g1, gf⟩ := blk2c b5
  have l5 := b5.lt
  have hgw : ga < W.heap.size := by omega
  have HRI : Hid (∀ w', Gr W w' → Row w' B 2 Ai As[i].2.length (cellsC As[i].2)) := Lib.hid fun w' h => hRi.below h hB
  subst hAA
  clear hai hRi hA HCAP b5
  generalize g (peakV g As[i].2).1 (peakV g As[i].2).2 = lv at *
  generalize (peakV g As[i].2).1 = p0 at *
  generalize (peakV g As[i].2).2 = p1 at *
  generalize As[i].2 = cs at *
  conv in (regOf _ _) => whnf
  refine wp_region_w (Gr _) (by kernel_rfl) (Below.refl _ _).drew ?_
  refine wpW_det (t' := ?ct0R288) 0 (by rfl) (by kernel_rfl) (NQ_free _) (by kernel_rfl) ?cw0R288 ?ch0R288 ?ca0R288 (Eq.refl _) ?cH0R288
  case cw0R288 => (go_simp; done)
  case ch0R288 =>
    intro ds w' hS K hK
    have hc := (bcell hS).1
    have hf := (bcell hS).2
    have hz := hS.size
    try simp at hz
    go_simp
    try go_bits
    first
      | exact hK _ hS (Gr.refl _)
      | exact hK _ (by repeat (first | (with_reducible exact Below.refl _ _) | (with_reducible assumption) | ((with_reducible refine Below.setCell ?_ ?_ _); rotate_left; · (first | exact Nat.le_refl _ | (simp; done) | (simp; omega) | omega)) | ((with_reducible refine Below.alloc ?_ ?_ _); rotate_left; · (first | exact Nat.le_refl _ | (simp; done) | (simp; omega) | omega)) | (with_reducible apply Below.drew) | (with_reducible apply below_drewN') | (refine Below.trans ?_ (Below.mono (by assumption) (by first | exact Nat.le_refl _ | (simp; done) | (simp; omega) | omega))) | exact Below.refl _ _ | assumption)) (by repeat (first | (with_reducible exact Below.refl _ _) | (with_reducible assumption) | ((with_reducible refine Below.setCell ?_ ?_ _); rotate_left; · (first | exact Nat.le_refl _ | (simp; done) | (simp; omega) | omega)) | ((with_reducible refine Below.alloc ?_ ?_ _); rotate_left; · (first | exact Nat.le_refl _ | (simp; done) | (simp; omega) | omega)) | (with_reducible apply Below.drew) | (with_reducible apply below_drewN') | (refine Below.trans ?_ (Below.mono (by assumption) (by first | exact Nat.le_refl _ | (simp; done) | (simp; omega) | omega))) | exact Below.refl _ _ | assumption))
  case ca0R288 => (first | (simp [Act.put]; done) | (simp [Act.put, *]; done))
  try dsimp only
  refine wpW_det (t' := ?ct1R288) 1 (by rfl) (by kernel_rfl) (NQ_free _) (by kernel_rfl) ?cw1R288 ?ch1R288 ?ca1R288 (Eq.refl _) ?cH1R288
  case cw1R288 => (go_simp; done)
  case ch1R288 =>
    intro ds w' hS K hK
    have hc := (bcell hS).1
    have hf := (bcell hS).2
    have hz := hS.size
    try simp at hz
    go_simp
    try go_bits
    first
      | exact hK _ hS (Gr.refl _)
      | exact hK _ (by repeat (first | (with_reducible exact Below.refl _ _) | (with_reducible assumption) | ((with_reducible refine Below.setCell ?_ ?_ _); rotate_left; · (first | exact Nat.le_refl _ | (simp; done) | (simp; omega) | omega)) | ((with_reducible refine Below.alloc ?_ ?_ _); rotate_left; · (first | exact Nat.le_refl _ | (simp; done) | (simp; omega) | omega)) | (with_reducible apply Below.drew) | (with_reducible apply below_drewN') | (refine Below.trans ?_ (Below.mono (by assumption) (by first | exact Nat.le_refl _ | (simp; done) | (simp; omega) | omega))) | exact Below.refl _ _ | assumption)) (by repeat (first | (with_reducible exact Below.refl _ _) | (with_reducible assumption) | ((with_reducible refine Below.setCell ?_ ?_ _); rotate_left; · (first | exact Nat.le_refl _ | (simp; done) | (simp; omega) | omega)) | ((with_reducible refine Below.alloc ?_ ?_ _); rotate_left; · (first | exact Nat.le_refl _ | (simp; done) | (simp; omega) | omega)) | (with_reducible apply Below.drew) | (with_reducible apply below_drewN') | (refine Below.trans ?_ (Below.mono (by assumption) (by first | exact Nat.le_refl _ | (simp; done) | (simp; omega) | omega))) | exact Below.refl _ _ | assumption))
  case ca1R288 => (first | (simp [Act.put]; done) | (simp [Act.put, *]; done))
  try dsimp only
  refine wpW_det (t' := ?ct2R288) 2 (by rfl) (by kernel_rfl) (NQ_free _) (by kernel_rfl) ?cw2R288 ?ch2R288 ?ca2R288 (Eq.refl _) ?cH2R288
  case cw2R288 => (go_simp; done)
  case ch2R288 =>
    intro ds w' hS K hK
    have hc := (bcell hS).1
    have hf := (bcell hS).2
    have hz := hS.size
    try simp at hz
    go_simp
    try go_bits
    first
      | exact hK _ hS (Gr.refl _)
      | exact hK _ (by repeat (first | (with_reducible exact Below.refl _ _) | (with_reducible assumption) | ((with_reducible refine Below.setCell ?_ ?_ _); rotate_left; · (first | exact Nat.le_refl _ | (simp; done) | (simp; omega) | omega)) | ((with_reducible refine Below.alloc ?_ ?_ _); rotate_left; · (first | exact Nat.le_refl _ | (simp; done) | (simp; omega) | omega)) | (with_reducible apply Below.drew) | (with_reducible apply below_drewN') | (refine Below.trans ?_ (Below.mono (by assumption) (by first | exact Nat.le_refl _ | (simp; done) | (simp; omega) | omega))) | exact Below.refl _ _ | assumption)) (by repeat (first | (with_reducible exact Below.refl _ _) | (with_reducible assumption) | ((with_reducible refine Below.setCell ?_ ?_ _); rotate_left; · (first | exact Nat.le_refl _ | (simp; done) | (simp; omega) | omega)) | ((with_reducible refine Below.alloc ?_ ?_ _); rotate_left; · (first | exact Nat.le_refl _ | (simp; done) | (simp; omega) | omega)) | (with_reducible apply Below.drew) | (with_reducible apply below_drewN') | (refine Below.trans ?_ (Below.mono (by assumption) (by first | exact Nat.le_refl _ | (simp; done) | (simp; omega) | omega))) | exact Below.refl _ _ | assumption))
  case ca2R288 => (first | (simp [Act.put]; done) | (simp [Act.put, *]; done))
  try dsimp only
  refine wpW_det (t' := ?ct3R288) 3 (by rfl) (by kernel_rfl) (NQ_free _) (by kernel_rfl) ?cw3R288 ?ch3R288 ?ca3R288 (Eq.refl _) ?cH3R288
  case cw3R288 => (go_simp; done)
  case ch3R288 =>
    intro ds w' hS K hK
    have hc := (bcell hS).1
    have hf := (bcell hS).2
    have hz := hS.size
    try simp at hz
    go_simp
    try go_bits
    first
      | exact hK _ hS (Gr.refl _)
      | exact hK _ (by repeat (first | (with_reducible exact Below.refl _ _) | (with_reducible assumption) | ((with_reducible refine Below.setCell ?_ ?_ _); rotate_left; · (first | exact Nat.le_refl _ | (simp; done) | (simp; omega) | omega)) | ((with_reducible refine Below.alloc ?_ ?_ _); rotate_left; · (first | exact Nat.le_refl _ | (simp; done) | (simp; omega) | omega)) | (with_reducible apply Below.drew) | (with_reducible apply below_drewN') | (refine Below.trans ?_ (Below.mono (by assumption) (by first | exact Nat.le_refl _ | (simp; done) | (simp; omega) | omega))) | exact Below.refl _ _ | assumption)) (by repeat (first | (with_reducible exact Below.refl _ _) | (with_reducible assumption) | ((with_reducible refine Below.setCell ?_ ?_ _); rotate_left; · (first | exact Nat.le_refl _ | (simp; done) | (simp; omega) | omega)) | ((with_reducible refine Below.alloc ?_ ?_ _); rotate_left; · (first | exact Nat.le_refl _ | (simp; done) | (simp; omega) | omega)) | (with_reducible apply Below.drew) | (with_reducible apply below_drewN') | (refine Below.trans ?_ (Below.mono (by assumption) (by first | exact Nat.le_refl _ | (simp; done) | (simp; omega) | omega))) | exact Below.refl _ _ | assumption))
  case ca3R288 => (first | (simp [Act.put]; done) | (simp [Act.put, *]; done))
  try dsimp only
  refine wpW_det (t' := ?ct5R288) 5 (by rfl) (by kernel_rfl) (NQ_free _) (by kernel_rfl) ?cw5R288 ?ch5R288 ?ca5R288 (Eq.refl _) ?cH5R288
  case cw5R288 => (go_simp; done)
  case ch5R288 =>
    intro ds w' hS K hK
    have hc := (bcell hS).1
    have hf := (bcell hS).2
    have hz := hS.size
    try simp at hz
    go_simp
    try go_bits
    first
      | exact hK _ hS (Gr.refl _)
      | exact hK _ (by repeat (first | (with_reducible exact Below.refl _ _) | (with_reducible assumption) | ((with_reducible refine Below.setCell ?_ ?_ _); rotate_left; · (first | exact Nat.le_refl _ | (simp; done) | (simp; omega) | omega)) | ((with_reducible refine Below.alloc ?_ ?_ _); rotate_left; · (first | exact Nat.le_refl _ | (simp; done) | (simp; omega) | omega)) | (with_reducible apply Below.drew) | (with_reducible apply below_drewN') | (refine Below.trans ?_ (Below.mono (by assumption) (by first | exact Nat.le_refl _ | (simp; done) | (simp; omega) | omega))) | exact Below.refl _ _ | assumption)) (by repeat (first | (with_reducible exact Below.refl _ _) | (with_reducible assumption) | ((with_reducible refine Below.setCell ?_ ?_ _); rotate_left; · (first | exact Nat.le_refl _ | (simp; done) | (simp; omega) | omega)) | ((with_reducible refine Below.alloc ?_ ?_ _); rotate_left; · (first | exact Nat.le_refl _ | (simp; done) | (simp; omega) | omega)) | (with_reducible apply Below.drew) | (with_reducible apply below_drewN') | (refine Below.trans ?_ (Below.mono (by assumption) (by first | exact Nat.le_refl _ | (simp; done) | (simp; omega) | omega))) | exact Below.refl _ _ | assumption))
  case ca5R288 => (first | (simp [Act.put]; done) | (simp [Act.put, *]; done))
  try dsimp only
  clear y0 y1 y2 y3 g0 g1 gf l5
  refine wpW_branch [4, 10] (by kernel_rfl) (by simp) ?_
  intro w1 hg1 hS1
  try replace rx := Row.gr rx hg1
  try replace b28 := b28.gr hg1
  clear hg1
  refine each_cons ?_ (each_cons ?_ (each_nil))
  · refine wpOp_go (by rfl) (Eq.refl _) (by go_simp; done) ?_
    intro K hK
    go_simp
    try simp only [Act.put]
    refine (copyArea_any cs Ai ci B p0 p1 lv _ (HRI.out _ hS1) (Nat.le_trans hB (Below.size hS1)) hln hc1 hc2).mono ?_
    rintro e ws ⟨v, rfl, own, hBs⟩
    obtain ⟨D0, e0, rfl, rx, _, _⟩ := own_row2 own
    try replace b28 := b28.gr hBs
    refine hK _ _ (Gr.trans hS1 hBs) ?_
    clear hK K hBs own
    refine wpW_branch [6, 10] (by kernel_rfl) (by simp) ?_
    intro w2 hg2 hS2
    try replace rx := Row.gr rx hg2
    try replace b28 := b28.gr hg2
    clear hg2
    refine each_cons ?_ (each_cons ?_ (each_nil))
    · refine wpOp_go (by rfl) (Eq.refl _) (by go_simp; done) ?_
      intro K hK
      go_simp
      try simp only [Act.put]
      refine (markOf_any cs D0 e0 _ p0 p1 lv d0 d1 arN _ rx (Nat.le_refl _) (by omega) (by decide)).mono ?_
      rw [HMO.out]
      rintro e ws ⟨rfl, hBs⟩
      try replace b28 := b28.gr hBs
      refine hK _ _ (Gr.trans hS2 hBs) ?_
      clear hK K hBs rx
      refine wpW_det (t' := ?ct7R289) 7 (by rfl) (by kernel_rfl) (NQ_free _) (by kernel_rfl) ?cw7R289 ?ch7R289 ?ca7R289 (Eq.refl _) ?cH7R289
      case cw7R289 => (go_simp; done)
      case ch7R289 =>
        intro ds w' hS K hK
        have hc := (bcell hS).1
        have hf := (bcell hS).2
        have hz := hS.size
        try simp at hz
        go_simp
        try go_bits
        first
          | exact hK _ hS (Gr.refl _)
          | exact hK _ (by repeat (first | (with_reducible exact Below.refl _ _) | (with_reducible assumption) | ((with_reducible refine Below.setCell ?_ ?_ _); rotate_left; · (first | exact Nat.le_refl _ | (simp; done) | (simp; omega) | omega)) | ((with_reducible refine Below.alloc ?_ ?_ _); rotate_left; · (first | exact Nat.le_refl _ | (simp; done) | (simp; omega) | omega)) | (with_reducible apply Below.drew) | (with_reducible apply below_drewN') | (refine Below.trans ?_ (Below.mono (by assumption) (by first | exact Nat.le_refl _ | (simp; done) | (simp; omega) | omega))) | exact Below.refl _ _ | assumption)) (by repeat (first | (with_reducible exact Below.refl _ _) | (with_reducible assumption) | ((with_reducible refine Below.setCell ?_ ?_ _); rotate_left; · (first | exact Nat.le_refl _ | (simp; done) | (simp; omega) | omega)) | ((with_reducible refine Below.alloc ?_ ?_ _); rotate_left; · (first | exact Nat.le_refl _ | (simp; done) | (simp; omega) | omega)) | (with_reducible apply Below.drew) | (with_reducible apply below_drewN') | (refine Below.trans ?_ (Below.mono (by assumption) (by first | exact Nat.le_refl _ | (simp; done) | (simp; omega) | omega))) | exact Below.refl _ _ | assumption))
      case ca7R289 => (first | (simp [Act.put]; done) | (simp [Act.put, *]; done))
      try dsimp only
      refine wpW_det (t' := ?ct8R289) 8 (by rfl) (by kernel_rfl) (NQ_free _) (by kernel_rfl) ?cw8R289 ?ch8R289 ?ca8R289 (Eq.refl _) ?cH8R289
      case cw8R289 => (go_simp; done)
      case ch8R289 =>
        intro ds w' hS K hK
        have hc := (bcell hS).1
        have hf := (bcell hS).2
        have hz := hS.size
        try simp at hz
        go_simp
        try go_bits
        first
          | exact hK _ hS (Gr.refl _)
          | exact hK _ (by repeat (first | (with_reducible exact Below.refl _ _) | (with_reducible assumption) | ((with_reducible refine Below.setCell ?_ ?_ _); rotate_left; · (first | exact Nat.le_refl _ | (simp; done) | (simp; omega) | omega)) | ((with_reducible refine Below.alloc ?_ ?_ _); rotate_left; · (first | exact Nat.le_refl _ | (simp; done) | (simp; omega) | omega)) | (with_reducible apply Below.drew) | (with_reducible apply below_drewN') | (refine Below.trans ?_ (Below.mono (by assumption) (by first | exact Nat.le_refl _ | (simp; done) | (simp; omega) | omega))) | exact Below.refl _ _ | assumption)) (by repeat (first | (with_reducible exact Below.refl _ _) | (with_reducible assumption) | ((with_reducible refine Below.setCell ?_ ?_ _); rotate_left; · (first | exact Nat.le_refl _ | (simp; done) | (simp; omega) | omega)) | ((with_reducible refine Below.alloc ?_ ?_ _); rotate_left; · (first | exact Nat.le_refl _ | (simp; done) | (simp; omega) | omega)) | (with_reducible apply Below.drew) | (with_reducible apply below_drewN') | (refine Below.trans ?_ (Below.mono (by assumption) (by first | exact Nat.le_refl _ | (simp; done) | (simp; omega) | omega))) | exact Below.refl _ _ | assumption))
      case ca8R289 => (first | (simp [Act.put]; done) | (simp [Act.put, *]; done))
      try dsimp only
      refine wpW_det (t' := ?ct9R289) 9 (by rfl) (by kernel_rfl) (NQ_free _) (by kernel_rfl) ?cw9R289 ?ch9R289 ?ca9R289 (Eq.refl _) ?cH9R289
      case cw9R289 => (go_simp; done)
      case ch9R289 =>
        intro ds w' hS K hK
        have hc := (bcell hS).1
        have hf := (bcell hS).2
        have hz := hS.size
        try simp at hz
        go_simp
        try go_bits
        first
          | exact hK _ hS (Gr.refl _)
          | exact hK _ (by repeat (first | (with_reducible exact Below.refl _ _) | (with_reducible assumption) | ((with_reducible refine Below.setCell ?_ ?_ _); rotate_left; · (first | exact Nat.le_refl _ | (simp; done) | (simp; omega) | omega)) | ((with_reducible refine Below.alloc ?_ ?_ _); rotate_left; · (first | exact Nat.le_refl _ | (simp; done) | (simp; omega) | omega)) | (with_reducible apply Below.drew) | (with_reducible apply below_drewN') | (refine Below.trans ?_ (Below.mono (by assumption) (by first | exact Nat.le_refl _ | (simp; done) | (simp; omega) | omega))) | exact Below.refl _ _ | assumption)) (by repeat (first | (with_reducible exact Below.refl _ _) | (with_reducible assumption) | ((with_reducible refine Below.setCell ?_ ?_ _); rotate_left; · (first | exact Nat.le_refl _ | (simp; done) | (simp; omega) | omega)) | ((with_reducible refine Below.alloc ?_ ?_ _); rotate_left; · (first | exact Nat.le_refl _ | (simp; done) | (simp; omega) | omega)) | (with_reducible apply Below.drew) | (with_reducible apply below_drewN') | (refine Below.trans ?_ (Below.mono (by assumption) (by first | exact Nat.le_refl _ | (simp; done) | (simp; omega) | omega))) | exact Below.refl _ _ | assumption))
      case ca9R289 => (first | (simp [Act.put]; done) | (simp [Act.put, *]; done))
      try dsimp only
      refine wpW_branch [10] (by kernel_rfl) (by simp) ?_
      intro w3 hg3 hS3
      try replace rx := Row.gr rx hg3
      try replace b28 := b28.gr hg3
      clear hg3
      refine each_cons ?_ (each_nil)
      · refine wpOp_go (by rfl) (Eq.refl _) (by go_simp; done) ?_
        intro K hK
        go_simp
        try simp only [Act.put]
        have b28 := Blk.new w3 46 (mkC mk0)
        have hgA : Gr w3 (w3.alloc (.cells (mkC mk0) 46)) := (Below.refl _ _).alloc (Nat.le_refl _) _
        try replace rx := Row.gr rx hgA
        have hq28 := Below.size hS3
        obtain ⟨N28, hN28⟩ : ∃ N, w3.heap.size = N := ⟨_, rfl⟩
        rw [hN28] at b28 hq28 ⊢
        refine hK _ _ (Gr.trans hS3 hgA) ?_
        clear hK K hgA hN28
        refine wpW_branch [11] (by kernel_rfl) (by simp) ?_
        intro w4 hg4 hS4
        try replace rx := Row.gr rx hg4
        try replace b28 := b28.gr hg4
        clear hg4
        refine each_cons ?_ (each_nil)
        · refine wpOp_go (by rfl) (Eq.refl _) (by go_simp; done) ?_
          intro K hK
          obtain ⟨z0, z1, z2, z3, z4, z5', zf⟩ := blk6 b28
          have l28 := b28.lt
          go_simp
          try simp only [Act.put]
          replace b28 := b28.set6 (.string M.nm) (.int .i64 M.al) (.int .i64 M.ah) (.int .i64 M.dl) (.int .i64 M.dh) (.int .i64 M.lv)
          have hg28 : Gr W _ := Below.set6 (u0 := .string M.nm) (u1 := .int .i64 M.al) (u2 := .int .i64 M.ah) (u3 := .int .i64 M.dl) (u4 := .int .i64 M.dh) (u5 := .int .i64 M.lv) hS4 hq28
          refine hK _ _ hg28 ?_
          clear hK K z0 z1 z2 z3 z4 z5' zf l28
          refine wpW_det (t' := ?ct12R290) 12 (by rfl) (by kernel_rfl) (NQ_free _) (by kernel_rfl) ?cw12R290 ?ch12R290 ?ca12R290 (Eq.refl _) ?cH12R290
          case cw12R290 => (go_simp; done)
          case ch12R290 =>
            intro ds w' hS K hK
            have hc := (bcell hS).1
            have hf := (bcell hS).2
            have hz := hS.size
            try simp at hz
            go_simp
            try go_bits
            first
              | exact hK _ hS (Gr.refl _)
              | exact hK _ (by repeat (first | (with_reducible exact Below.refl _ _) | (with_reducible assumption) | ((with_reducible refine Below.setCell ?_ ?_ _); rotate_left; · (first | exact Nat.le_refl _ | (simp; done) | (simp; omega) | omega)) | ((with_reducible refine Below.alloc ?_ ?_ _); rotate_left; · (first | exact Nat.le_refl _ | (simp; done) | (simp; omega) | omega)) | (with_reducible apply Below.drew) | (with_reducible apply below_drewN') | (refine Below.trans ?_ (Below.mono (by assumption) (by first | exact Nat.le_refl _ | (simp; done) | (simp; omega) | omega))) | exact Below.refl _ _ | assumption)) (by repeat (first | (with_reducible exact Below.refl _ _) | (with_reducible assumption) | ((with_reducible refine Below.setCell ?_ ?_ _); rotate_left; · (first | exact Nat.le_refl _ | (simp; done) | (simp; omega) | omega)) | ((with_reducible refine Below.alloc ?_ ?_ _); rotate_left; · (first | exact Nat.le_refl _ | (simp; done) | (simp; omega) | omega)) | (with_reducible apply Below.drew) | (with_reducible apply below_drewN') | (refine Below.trans ?_ (Below.mono (by assumption) (by first | exact Nat.le_refl _ | (simp; done) | (simp; omega) | omega))) | exact Below.refl _ _ | assumption))
          case ca12R290 => (first | (simp [Act.put]; done) | (simp [Act.put, *]; done))
          try dsimp only
          refine wpW_end (by kernel_rfl) ?_
          intro we hg hS
          unfold NQ
          dsimp only
          exact H.out (frA [(240, _), (241, _), (242, _), (243, _), (244, _), (245, _), (246, _), (247, _), (248, _), (249, _)]) N28 we hS hq28 (b28.gr hg)
    · refine wpOp_go (by rfl) (Eq.refl _) (by go_simp; done) ?_
      intro K hK
      go_simp
      try simp only [Act.put]
      have b28 := Blk.new w2 46 (mkC mk0)
      have hgA : Gr w2 (w2.alloc (.cells (mkC mk0) 46)) := (Below.refl _ _).alloc (Nat.le_refl _) _
      try replace rx := Row.gr rx hgA
      have hq28 := Below.size hS2
      obtain ⟨N28, hN28⟩ : ∃ N, w2.heap.size = N := ⟨_, rfl⟩
      rw [hN28] at b28 hq28 ⊢
      refine hK _ _ (Gr.trans hS2 hgA) ?_
      clear hK K hgA hN28
      refine wpW_branch [6] (by kernel_rfl) (by simp) ?_
      intro w3 hg3 hS3
      try replace rx := Row.gr rx hg3
      try replace b28 := b28.gr hg3
      clear hg3
      refine each_cons ?_ (each_nil)
      · refine wpOp_go (by rfl) (Eq.refl _) (by go_simp; done) ?_
        intro K hK
        go_simp
        try simp only [Act.put]
        refine (markOf_any cs D0 e0 _ p0 p1 lv d0 d1 arN _ rx (Nat.le_refl _) (by omega) (by decide)).mono ?_
        rw [HMO.out]
        rintro e ws ⟨rfl, hBs⟩
        try replace b28 := b28.gr hBs
        refine hK _ _ (Gr.trans hS3 hBs) ?_
        clear hK K hBs rx
        refine wpW_det (t' := ?ct7R291) 7 (by rfl) (by kernel_rfl) (NQ_free _) (by kernel_rfl) ?cw7R291 ?ch7R291 ?ca7R291 (Eq.refl _) ?cH7R291
        case cw7R291 => (go_simp; done)
        case ch7R291 =>
          intro ds w' hS K hK
          have hc := (bcell hS).1
          have hf := (bcell hS).2
          have hz := hS.size
          try simp at hz
          go_simp
          try go_bits
          first
            | exact hK _ hS (Gr.refl _)
            | exact hK _ (by repeat (first | (with_reducible exact Below.refl _ _) | (with_reducible assumption) | ((with_reducible refine Below.setCell ?_ ?_ _); rotate_left; · (first | exact Nat.le_refl _ | (simp; done) | (simp; omega) | omega)) | ((with_reducible refine Below.alloc ?_ ?_ _); rotate_left; · (first | exact Nat.le_refl _ | (simp; done) | (simp; omega) | omega)) | (with_reducible apply Below.drew) | (with_reducible apply below_drewN') | (refine Below.trans ?_ (Below.mono (by assumption) (by first | exact Nat.le_refl _ | (simp; done) | (simp; omega) | omega))) | exact Below.refl _ _ | assumption)) (by repeat (first | (with_reducible exact Below.refl _ _) | (with_reducible assumption) | ((with_reducible refine Below.setCell ?_ ?_ _); rotate_left; · (first | exact Nat.le_refl _ | (simp; done) | (simp; omega) | omega)) | ((with_reducible refine Below.alloc ?_ ?_ _); rotate_left; · (first | exact Nat.le_refl _ | (simp; done) | (simp; omega) | omega)) | (with_reducible apply Below.drew) | (with_reducible apply below_drewN') | (refine Below.trans ?_ (Below.mono (by assumption) (by first | exact Nat.le_refl _ | (simp; done) | (simp; omega) | omega))) | exact Below.refl _ _ | assumption))
        case ca7R291 => (first | (simp [Act.put]; done) | (simp [Act.put, *]; done))
        try dsimp only
        refine wpW_det (t' := ?ct8R291) 8 (by rfl) (by kernel_rfl) (NQ_free _) (by kernel_rfl) ?cw8R291 ?ch8R291 ?ca8R291 (Eq.refl _) ?cH8R291
        case cw8R291 => (go_simp; done)
        case ch8R291 =>
          intro ds w' hS K hK
          have hc := (bcell hS).1
          have hf := (bcell hS).2
          have hz := hS.size
          try simp at hz
          go_simp
          try go_bits
          first
            | exact hK _ hS (Gr.refl _)
            | exact hK _ (by repeat (first | (with_reducible exact Below.refl _ _) | (with_reducible assumption) | ((with_reducible refine Below.setCell ?_ ?_ _); rotate_left; · (first | exact Nat.le_refl _ | (simp; done) | (simp; omega) | omega)) | ((with_reducible refine Below.alloc ?_ ?_ _); rotate_left; · (first | exact Nat.le_refl _ | (simp; done) | (simp; omega) | omega)) | (with_reducible apply Below.drew) | (with_reducible apply below_drewN') | (refine Below.trans ?_ (Below.mono (by assumption) (by first | exact Nat.le_refl _ | (simp; done) | (simp; omega) | omega))) | exact Below.refl _ _ | assumption)) (by repeat (first | (with_reducible exact Below.refl _ _) | (with_reducible assumption) | ((with_reducible refine Below.setCell ?_ ?_ _); rotate_left; · (first | exact Nat.le_refl _ | (simp; done) | (simp; omega) | omega)) | ((with_reducible refine Below.alloc ?_ ?_ _); rotate_left; · (first | exact Nat.le_refl _ | (simp; done) | (simp; omega) | omega)) | (with_reducible apply Below.drew) | (with_reducible apply below_drewN') | (refine Below.trans ?_ (Below.mono (by assumption) (by first | exact Nat.le_refl _ | (simp; done) | (simp; omega) | omega))) | exact Below.refl _ _ | assumption))
        case ca8R291 => (first | (simp [Act.put]; done) | (simp [Act.put, *]; done))
        try dsimp only
        refine wpW_det (t' := ?ct9R291) 9 (by rfl) (by kernel_rfl) (NQ_free _) (by kernel_rfl) ?cw9R291 ?ch9R291 ?ca9R291 (Eq.refl _) ?cH9R291
        case cw9R291 => (go_simp; done)
        case ch9R291 =>
          intro ds w' hS K hK
          have hc := (bcell hS).1
          have hf := (bcell hS).2
          have hz := hS.size
          try simp at hz
          go_simp
          try go_bits
          first
            | exact hK _ hS (Gr.refl _)
            | exact hK _ (by repeat (first | (with_reducible exact Below.refl _ _) | (with_reducible assumption) | ((with_reducible refine Below.setCell ?_ ?_ _); rotate_left; · (first | exact Nat.le_refl _ | (simp; done) | (simp; omega) | omega)) | ((with_reducible refine Below.alloc ?_ ?_ _); rotate_left; · (first | exact Nat.le_refl _ | (simp; done) | (simp; omega) | omega)) | (with_reducible apply Below.drew) | (with_reducible apply below_drewN') | (refine Below.trans ?_ (Below.mono (by assumption) (by first | exact Nat.le_refl _ | (simp; done) | (simp; omega) | omega))) | exact Below.refl _ _ | assumption)) (by repeat (first | (with_reducible exact Below.refl _ _) | (with_reducible assumption) | ((with_reducible refine Below.setCell ?_ ?_ _); rotate_left; · (first | exact Nat.le_refl _ | (simp; done) | (simp; omega) | omega)) | ((with_reducible refine Below.alloc ?_ ?_ _); rotate_left; · (first | exact Nat.le_refl _ | (simp; done) | (simp; omega) | omega)) | (with_reducible apply Below.drew) | (with_reducible apply below_drewN') | (refine Below.trans ?_ (Below.mono (by assumption) (by first | exact Nat.le_refl _ | (simp; done) | (simp; omega) | omega))) | exact Below.refl _ _ | assumption))
        case ca9R291 => (first | (simp [Act.put]; done) | (simp [Act.put, *]; done))
        try dsimp only
        refine wpW_branch [11] (by kernel_rfl) (by simp) ?_
        intro w4 hg4 hS4
        try replace rx := Row.gr rx hg4
        try replace b28 := b28.gr hg4
        clear hg4
        refine each_cons ?_ (each_nil)
        · refine wpOp_go (by rfl) (Eq.refl _) (by go_simp; done) ?_
          intro K hK
          obtain ⟨z0, z1, z2, z3, z4, z5', zf⟩ := blk6 b28
          have l28 := b28.lt
          go_simp
          try simp only [Act.put]
          replace b28 := b28.set6 (.string M.nm) (.int .i64 M.al) (.int .i64 M.ah) (.int .i64 M.dl) (.int .i64 M.dh) (.int .i64 M.lv)
          have hg28 : Gr W _ := Below.set6 (u0 := .string M.nm) (u1 := .int .i64 M.al) (u2 := .int .i64 M.ah) (u3 := .int .i64 M.dl) (u4 := .int .i64 M.dh) (u5 := .int .i64 M.lv) hS4 hq28
          refine hK _ _ hg28 ?_
          clear hK K z0 z1 z2 z3 z4 z5' zf l28
          refine wpW_det (t' := ?ct12R292) 12 (by rfl) (by kernel_rfl) (NQ_free _) (by kernel_rfl) ?cw12R292 ?ch12R292 ?ca12R292 (Eq.refl _) ?cH12R292
          case cw12R292 => (go_simp; done)
          case ch12R292 =>
            intro ds w' hS K hK
            have hc := (bcell hS).1
            have hf := (bcell hS).2
            have hz := hS.size
            try simp at hz
            go_simp
            try go_bits
            first
              | exact hK _ hS (Gr.refl _)
              | exact hK _ (by repeat (first | (with_reducible exact Below.refl _ _) | (with_reducible assumption) | ((with_reducible refine Below.setCell ?_ ?_ _); rotate_left; · (first | exact Nat.le_refl _ | (simp; done) | (simp; omega) | omega)) | ((with_reducible refine Below.alloc ?_ ?_ _); rotate_left; · (first | exact Nat.le_refl _ | (simp; done) | (simp; omega) | omega)) | (with_reducible apply Below.drew) | (with_reducible apply below_drewN') | (refine Below.trans ?_ (Below.mono (by assumption) (by first | exact Nat.le_refl _ | (simp; done) | (simp; omega) | omega))) | exact Below.refl _ _ | assumption)) (by repeat (first | (with_reducible exact Below.refl _ _) | (with_reducible assumption) | ((with_reducible refine Below.setCell ?_ ?_ _); rotate_left; · (first | exact Nat.le_refl _ | (simp; done) | (simp; omega) | omega)) | ((with_reducible refine Below.alloc ?_ ?_ _); rotate_left; · (first | exact Nat.le_refl _ | (simp; done) | (simp; omega) | omega)) | (with_reducible apply Below.drew) | (with_reducible apply below_drewN') | (refine Below.trans ?_ (Below.mono (by assumption) (by first | exact Nat.le_refl _ | (simp; done) | (simp; omega) | omega))) | exact Below.refl _ _ | assumption))
          case ca12R292 => (first | (simp [Act.put]; done) | (simp [Act.put, *]; done))
          try dsimp only
          refine wpW_end (by kernel_rfl) ?_
          intro we hg hS
          unfold NQ
          dsimp only
          exact H.out (frA [(240, _), (241, _), (242, _), (243, _), (244, _), (245, _), (246, _), (247, _), (248, _), (249, _)]) N28 we hS hq28 (b28.gr hg)
  · refine wpOp_go (by rfl) (Eq.refl _) (by go_simp; done) ?_
    intro K hK
    go_simp
    try simp only [Act.put]
    have b28 := Blk.new w1 46 (mkC mk0)
    have hgA : Gr w1 (w1.alloc (.cells (mkC mk0) 46)) := (Below.refl _ _).alloc (Nat.le_refl _) _
    try replace rx := Row.gr rx hgA
    have hq28 := Below.size hS1
    obtain ⟨N28, hN28⟩ : ∃ N, w1.heap.size = N := ⟨_, rfl⟩
    rw [hN28] at b28 hq28 ⊢
    refine hK _ _ (Gr.trans hS1 hgA) ?_
    clear hK K hgA hN28
    refine wpW_branch [4] (by kernel_rfl) (by simp) ?_
    intro w2 hg2 hS2
    try replace rx := Row.gr rx hg2
    try replace b28 := b28.gr hg2
    clear hg2
    refine each_cons ?_ (each_nil)
    · refine wpOp_go (by rfl) (Eq.refl _) (by go_simp; done) ?_
      intro K hK
      go_simp
      try simp only [Act.put]
      refine (copyArea_any cs Ai ci B p0 p1 lv _ (HRI.out _ hS2) (Nat.le_trans hB (Below.size hS2)) hln hc1 hc2).mono ?_
      rintro e ws ⟨v, rfl, own, hBs⟩
      obtain ⟨D0, e0, rfl, rx, _, _⟩ := own_row2 own
      try replace b28 := b28.gr hBs
      refine hK _ _ (Gr.trans hS2 hBs) ?_
      clear hK K hBs own
      refine wpW_branch [6] (by kernel_rfl) (by simp) ?_
      intro w3 hg3 hS3
      try replace rx := Row.gr rx hg3
      try replace b28 := b28.gr hg3
      clear hg3
      refine each_cons ?_ (each_nil)
      · refine wpOp_go (by rfl) (Eq.refl _) (by go_simp; done) ?_
        intro K hK
        go_simp
        try simp only [Act.put]
        refine (markOf_any cs D0 e0 _ p0 p1 lv d0 d1 arN _ rx (Nat.le_refl _) (by omega) (by decide)).mono ?_
        rw [HMO.out]
        rintro e ws ⟨rfl, hBs⟩
        try replace b28 := b28.gr hBs
        refine hK _ _ (Gr.trans hS3 hBs) ?_
        clear hK K hBs rx
        refine wpW_det (t' := ?ct7R293) 7 (by rfl) (by kernel_rfl) (NQ_free _) (by kernel_rfl) ?cw7R293 ?ch7R293 ?ca7R293 (Eq.refl _) ?cH7R293
        case cw7R293 => (go_simp; done)
        case ch7R293 =>
          intro ds w' hS K hK
          have hc := (bcell hS).1
          have hf := (bcell hS).2
          have hz := hS.size
          try simp at hz
          go_simp
          try go_bits
          first
            | exact hK _ hS (Gr.refl _)
            | exact hK _ (by repeat (first | (with_reducible exact Below.refl _ _) | (with_reducible assumption) | ((with_reducible refine Below.setCell ?_ ?_ _); rotate_left; · (first | exact Nat.le_refl _ | (simp; done) | (simp; omega) | omega)) | ((with_reducible refine Below.alloc ?_ ?_ _); rotate_left; · (first | exact Nat.le_refl _ | (simp; done) | (simp; omega) | omega)) | (with_reducible apply Below.drew) | (with_reducible apply below_drewN') | (refine Below.trans ?_ (Below.mono (by assumption) (by first | exact Nat.le_refl _ | (simp; done) | (simp; omega) | omega))) | exact Below.refl _ _ | assumption)) (by repeat (first | (with_reducible exact Below.refl _ _) | (with_reducible assumption) | ((with_reducible refine Below.setCell ?_ ?_ _); rotate_left; · (first | exact Nat.le_refl _ | (simp; done) | (simp; omega) | omega)) | ((with_reducible refine Below.alloc ?_ ?_ _); rotate_left; · (first | exact Nat.le_refl _ | (simp; done) | (simp; omega) | omega)) | (with_reducible apply Below.drew) | (with_reducible apply below_drewN') | (refine Below.trans ?_ (Below.mono (by assumption) (by first | exact Nat.le_refl _ | (simp; done) | (simp; omega) | omega))) | exact Below.refl _ _ | assumption))
        case ca7R293 => (first | (simp [Act.put]; done) | (simp [Act.put, *]; done))
        try dsimp only
        refine wpW_det (t' := ?ct8R293) 8 (by rfl) (by kernel_rfl) (NQ_free _) (by kernel_rfl) ?cw8R293 ?ch8R293 ?ca8R293 (Eq.refl _) ?cH8R293
        case cw8R293 => (go_simp; done)
        case ch8R293 =>
          intro ds w' hS K hK
          have hc := (bcell hS).1
          have hf := (bcell hS).2
          have hz := hS.size
          try simp at hz
          go_simp
          try go_bits
          first
            | exact hK _ hS (Gr.refl _)
            | exact hK _ (by repeat (first | (with_reducible exact Below.refl _ _) | (with_reducible assumption) | ((with_reducible refine Below.setCell ?_ ?_ _); rotate_left; · (first | exact Nat.le_refl _ | (simp; done) | (simp; omega) | omega)) | ((with_reducible refine Below.alloc ?_ ?_ _); rotate_left; · (first | exact Nat.le_refl _ | (simp; done) | (simp; omega) | omega)) | (with_reducible apply Below.drew) | (with_reducible apply below_drewN') | (refine Below.trans ?_ (Below.mono (by assumption) (by first | exact Nat.le_refl _ | (simp; done) | (simp; omega) | omega))) | exact Below.refl _ _ | assumption)) (by repeat (first | (with_reducible exact Below.refl _ _) | (with_reducible assumption) | ((with_reducible refine Below.setCell ?_ ?_ _); rotate_left; · (first | exact Nat.le_refl _ | (simp; done) | (simp; omega) | omega)) | ((with_reducible refine Below.alloc ?_ ?_ _); rotate_left; · (first | exact Nat.le_refl _ | (simp; done) | (simp; omega) | omega)) | (with_reducible apply Below.drew) | (with_reducible apply below_drewN') | (refine Below.trans ?_ (Below.mono (by assumption) (by first | exact Nat.le_refl _ | (simp; done) | (simp; omega) | omega))) | exact Below.refl _ _ | assumption))
        case ca8R293 => (first | (simp [Act.put]; done) | (simp [Act.put, *]; done))
        try dsimp only
        refine wpW_det (t' := ?ct9R293) 9 (by rfl) (by kernel_rfl) (NQ_free _) (by kernel_rfl) ?cw9R293 ?ch9R293 ?ca9R293 (Eq.refl _) ?cH9R293
        case cw9R293 => (go_simp; done)
        case ch9R293 =>
          intro ds w' hS K hK
          have hc := (bcell hS).1
          have hf := (bcell hS).2
          have hz := hS.size
          try simp at hz
          go_simp
          try go_bits
          first
            | exact hK _ hS (Gr.refl _)
            | exact hK _ (by repeat (first | (with_reducible exact Below.refl _ _) | (with_reducible assumption) | ((with_reducible refine Below.setCell ?_ ?_ _); rotate_left; · (first | exact Nat.le_refl _ | (simp; done) | (simp; omega) | omega)) | ((with_reducible refine Below.alloc ?_ ?_ _); rotate_left; · (first | exact Nat.le_refl _ | (simp; done) | (simp; omega) | omega)) | (with_reducible apply Below.drew) | (with_reducible apply below_drewN') | (refine Below.trans ?_ (Below.mono (by assumption) (by first | exact Nat.le_refl _ | (simp; done) | (simp; omega) | omega))) | exact Below.refl _ _ | assumption)) (by repeat (first | (with_reducible exact Below.refl _ _) | (with_reducible assumption) | ((with_reducible refine Below.setCell ?_ ?_ _); rotate_left; · (first | exact Nat.le_refl _ | (simp; done) | (simp; omega) | omega)) | ((with_reducible refine Below.alloc ?_ ?_ _); rotate_left; · (first | exact Nat.le_refl _ | (simp; done) | (simp; omega) | omega)) | (with_reducible apply Below.drew) | (with_reducible apply below_drewN') | (refine Below.trans ?_ (Below.mono (by assumption) (by first | exact Nat.le_refl _ | (simp; done) | (simp; omega) | omega))) | exact Below.refl _ _ | assumption))
        case ca9R293 => (first | (simp [Act.put]; done) | (simp [Act.put, *]; done))
        try dsimp only
        refine wpW_branch [11] (by kernel_rfl) (by simp) ?_
        intro w4 hg4 hS4
        try replace rx := Row.gr rx hg4
        try replace b28 := b28.gr hg4
        clear hg4
        refine each_cons ?_ (each_nil)
        · refine wpOp_go (by rfl) (Eq.refl _) (by go_simp; done) ?_
          intro K hK
          obtain ⟨z0, z1, z2, z3, z4, z5', zf⟩ := blk6 b28
          have l28 := b28.lt
          go_simp
          try simp only [Act.put]
          replace b28 := b28.set6 (.string M.nm) (.int .i64 M.al) (.int .i64 M.ah) (.int .i64 M.dl) (.int .i64 M.dh) (.int .i64 M.lv)
          have hg28 : Gr W _ := Below.set6 (u0 := .string M.nm) (u1 := .int .i64 M.al) (u2 := .int .i64 M.ah) (u3 := .int .i64 M.dl) (u4 := .int .i64 M.dh) (u5 := .int .i64 M.lv) hS4 hq28
          refine hK _ _ hg28 ?_
          clear hK K z0 z1 z2 z3 z4 z5' zf l28
          refine wpW_det (t' := ?ct12R294) 12 (by rfl) (by kernel_rfl) (NQ_free _) (by kernel_rfl) ?cw12R294 ?ch12R294 ?ca12R294 (Eq.refl _) ?cH12R294
          case cw12R294 => (go_simp; done)
          case ch12R294 =>
            intro ds w' hS K hK
            have hc := (bcell hS).1
            have hf := (bcell hS).2
            have hz := hS.size
            try simp at hz
            go_simp
            try go_bits
            first
              | exact hK _ hS (Gr.refl _)
              | exact hK _ (by repeat (first | (with_reducible exact Below.refl _ _) | (with_reducible assumption) | ((with_reducible refine Below.setCell ?_ ?_ _); rotate_left; · (first | exact Nat.le_refl _ | (simp; done) | (simp; omega) | omega)) | ((with_reducible refine Below.alloc ?_ ?_ _); rotate_left; · (first | exact Nat.le_refl _ | (simp; done) | (simp; omega) | omega)) | (with_reducible apply Below.drew) | (with_reducible apply below_drewN') | (refine Below.trans ?_ (Below.mono (by assumption) (by first | exact Nat.le_refl _ | (simp; done) | (simp; omega) | omega))) | exact Below.refl _ _ | assumption)) (by repeat (first | (with_reducible exact Below.refl _ _) | (with_reducible assumption) | ((with_reducible refine Below.setCell ?_ ?_ _); rotate_left; · (first | exact Nat.le_refl _ | (simp; done) | (simp; omega) | omega)) | ((with_reducible refine Below.alloc ?_ ?_ _); rotate_left; · (first | exact Nat.le_refl _ | (simp; done) | (simp; omega) | omega)) | (with_reducible apply Below.drew) | (with_reducible apply below_drewN') | (refine Below.trans ?_ (Below.mono (by assumption) (by first | exact Nat.le_refl _ | (simp; done) | (simp; omega) | omega))) | exact Below.refl _ _ | assumption))
          case ca12R294 => (first | (simp [Act.put]; done) | (simp [Act.put, *]; done))
          try dsimp only
          refine wpW_end (by kernel_rfl) ?_
          intro we hg hS
          unfold NQ
          dsimp only
          exact H.out (frA [(240, _), (241, _), (242, _), (243, _), (244, _), (245, _), (246, _), (247, _), (248, _), (249, _)]) N28 we hS hq28 (b28.gr hg)

set_option maxRecDepth 100000 in
set_option maxHeartbeats 32000000 in
theorem topReg53 (g : Int → Int → Int) (AA : Option Addr) (cA B z5 : Nat) (As : List ArA) {d0 d1 : Int} {W : World} (hA : ArsOk g As AA B W) (hB : B ≤ W.heap.size) {i : Nat} (hi : i < As.length) (hin : As.length ≤ 1000000) (b5 : Blk W z5 26 #[.int .i64 d0, .int .i64 d1]) {M : Mk} (hln : As[i].2.length ≤ 1000000000) (HCAP : Hid (∀ A c, As[i].1 = .slice A As[i].2.length c → As[i].2.length ≤ c ∧ (A = none → c = 0))) (HMO : Hid (markOfV As[i].2 d0 d1 arN (g (peakV g As[i].2).1 (peakV g As[i].2).2) = (M, 0))) {t0 t1 t2 t3 t4 t6 t7 t8 t9 t10 t11 t12 t13 t14 t15 t17 t18 t19 t21 t22 t23 t24 t25 t26 t27 t28 t29 t30 t31 t32 t33 t34 t35 t36 t37 t38 t39 t40 t41 t42 t43 t44 t45 t46 t47 t48 t49 t50 t51 t52 t53 t54 t55 t56 t57 t58 t59 t60 t61 t62 t63 t64 t65 t66 t67 t68 t69 t70 t71 t72 t73 t74 t75 t76 t77 t78 t79 t80 t81 t82 t83 t84 t85 t86 t87 t88 t89 t90 t91 t92 t93 t94 t95 t96 t97 t98 t99 t100 t101 t102 t103 t104 t105 t106 t107 t108 t109 t110 t111 t112 t113 t114 t115 t116 t117 t118 t119 t120 t121 t122 t123 t124 t125 t126 t127 t128 t129 t130 t131 t132 t133 t134 t135 t136 t137 t138 t139 t140 t141 t142 t143 t144 t145 t146 t147 t148 t149 t150 t151 t152 t153 t154 t155 t156 t157 t158 t159 t160 t161 t162 t163 t164 t165 t166 t167 t168 t169 t170 t171 t172 t173 t174 t175 t176 t177 t178 t179 t180 t181 t182 t183 t184 t185 t186 t187 t188 t189 t190 t191 t192 t193 t194 t195 t196 t197 t198 t199 t200 t201 t202 t203 t204 t205 t206 t207 t208 t209 t210 t211 t212 t213 t214 t215 t216 t217 t218 t219 t220 t221 t222 t223 t224 t225 t226 t227 t228 t229 t230 t231 t232 t233 t234 t235 t236 t237 t238 t239 t240 t241 t242 t243 t244 t245 t246 t247 t248 t249 t250 t251 t252 t253 t254 t255 t256 t257 t258 t259 t260 t261 t262 t263 t264 : Value} {ds : List Deferred} (Q : Exit → Act → World → Prop)
    (h : ∀ (y : Nat → Value) (q28 : Nat) (w' : World), Gr W w' → W.heap.size ≤ q28 → Blk w' q28 46 (mkC M) → Q .normal ⟨#[t0, t1, t2, t3, t4, .pointer (some ⟨z5, 0, none⟩), t6, t7, t8, t9, t10, t11, t12, t13, t14, t15, .slice AA As.length cA, t17, t18, t19, .int .i64 i, t21, t22, t23, t24, t25, t26, t27, .pointer (some ⟨q28, 0, none⟩), .int .i64 0, t30, t31, t32, t33, t34, t35, t36, t37, t38, t39, t40, t41, t42, t43, t44, t45, t46, t47, t48, t49, t50, t51, t52, t53, t54, t55, t56, t57, t58, t59, t60, t61, t62, t63, t64, t65, t66, t67, t68, t69, t70, t71, t72, t73, t74, t75, t76, t77, t78, t79, t80, t81, t82, t83, t84, t85, t86, t87, t88, t89, t90, t91, t92, t93, t94, t95, t96, t97, t98, t99, t100, t101, t102, t103, t104, t105, t106, t107, t108, t109, t110, t111, t112, t113, t114, t115, t116, t117, t118, t119, t120, t121, t122, t123, t124, t125, t126, t127, t128, t129, t130, t131, t132, t133, t134, t135, t136, t137, t138, t139, t140, t141, t142, t143, t144, t145, t146, t147, t148, t149, t150, t151, t152, t153, t154, t155, t156, t157, t158, t159, t160, t161, t162, t163, t164, t165, t166, t167, t168, t169, t170, t171, t172, t173, t174, t175, t176, t177, t178, t179, t180, t181, t182, t183, t184, t185, t186, t187, t188, t189, t190, t191, t192, t193, t194, t195, t196, t197, t198, t199, t200, t201, t202, t203, t204, t205, t206, t207, t208, t209, t210, t211, t212, t213, t214, t215, t216, t217, t218, t219, t220, t221, t222, t223, t224, t225, t226, t227, t228, t229, t230, t231, t232, t233, t234, t235, t236, t237, t238, t239, y 240, y 241, y 242, y 243, y 244, y 245, y 246, y 247, y 248, y 249, t250, t251, t252, t253, t254, t255, t256, t257, t258, t259, t260, t261, t262, t263, t264], ds⟩ w') :
    (regOf Tryz.f3 53).wp Tryz.prog Q ⟨#[t0, t1, t2, t3, t4, .pointer (some ⟨z5, 0, none⟩), t6, t7, t8, t9, t10, t11, t12, t13, t14, t15, .slice AA As.length cA, t17, t18, t19, .int .i64 i, t21, t22, t23, t24, t25, t26, t27, t28, t29, t30, t31, t32, t33, t34, t35, t36, t37, t38, t39, t40, t41, t42, t43, t44, t45, t46, t47, t48, t49, t50, t51, t52, t53, t54, t55, t56, t57, t58, t59, t60, t61, t62, t63, t64, t65, t66, t67, t68, t69, t70, t71, t72, t73, t74, t75, t76, t77, t78, t79, t80, t81, t82, t83, t84, t85, t86, t87, t88, t89, t90, t91, t92, t93, t94, t95, t96, t97, t98, t99, t100, t101, t102, t103, t104, t105, t106, t107, t108, t109, t110, t111, t112, t113, t114, t115, t116, t117, t118, t119, t120, t121, t122, t123, t124, t125, t126, t127, t128, t129, t130, t131, t132, t133, t134, t135, t136, t137, t138, t139, t140, t141, t142, t143, t144, t145, t146, t147, t148, t149, t150, t151, t152, t153, t154, t155, t156, t157, t158, t159, t160, t161, t162, t163, t164, t165, t166, t167, t168, t169, t170, t171, t172, t173, t174, t175, t176, t177, t178, t179, t180, t181, t182, t183, t184, t185, t186, t187, t188, t189, t190, t191, t192, t193, t194, t195, t196, t197, t198, t199, t200, t201, t202, t203, t204, t205, t206, t207, t208, t209, t210, t211, t212, t213, t214, t215, t216, t217, t218, t219, t220, t221, t222, t223, t224, t225, t226, t227, t228, t229, t230, t231, t232, t233, t234, t235, t236, t237, t238, t239, t240, t241, t242, t243, t244, t245, t246, t247, t248, t249, t250, t251, t252, t253, t254, t255, t256, t257, t258, t259, t260, t261, t262, t263, t264], ds⟩ W :=
  topReg53Z (z := (frA [(0, t0), (1, t1), (2, t2), (3, t3), (4, t4), (6, t6), (7, t7), (8, t8), (9, t9), (10, t10), (11, t11), (12, t12), (13, t13), (14, t14), (15, t15), (17, t17), (18, t18), (19, t19), (21, t21), (22, t22), (23, t23), (24, t24), (25, t25), (26, t26), (27, t27), (28, t28), (29, t29), (30, t30), (31, t31), (32, t32), (33, t33), (34, t34), (35, t35), (36, t36), (37, t37), (38, t38), (39, t39), (40, t40), (41, t41), (42, t42), (43, t43), (44, t44), (45, t45), (46, t46), (47, t47), (48, t48), (49, t49), (50, t50), (51, t51), (52, t52), (53, t53), (54, t54), (55, t55), (56, t56), (57, t57), (58, t58), (59, t59), (60, t60), (61, t61), (62, t62), (63, t63), (64, t64), (65, t65), (66, t66), (67, t67), (68, t68), (69, t69), (70, t70), (71, t71), (72, t72), (73, t73), (74, t74), (75, t75), (76, t76), (77, t77), (78, t78), (79, t79), (80, t80), (81, t81), (82, t82), (83, t83), (84, t84), (85, t85), (86, t86), (87, t87), (88, t88), (89, t89), (90, t90), (91, t91), (92, t92), (93, t93), (94, t94), (95, t95), (96, t96), (97, t97), (98, t98), (99, t99), (100, t100), (101, t101), (102, t102), (103, t103), (104, t104), (105, t105), (106, t106), (107, t107), (108, t108), (109, t109), (110, t110), (111, t111), (112, t112), (113, t113), (114, t114), (115, t115), (116, t116), (117, t117), (118, t118), (119, t119), (120, t120), (121, t121), (122, t122), (123, t123), (124, t124), (125, t125), (126, t126), (127, t127), (128, t128), (129, t129), (130, t130), (131, t131), (132, t132), (133, t133), (134, t134), (135, t135), (136, t136), (137, t137), (138, t138), (139, t139), (140, t140), (141, t141), (142, t142), (143, t143), (144, t144), (145, t145), (146, t146), (147, t147), (148, t148), (149, t149), (150, t150), (151, t151), (152, t152), (153, t153), (154, t154), (155, t155), (156, t156), (157, t157), (158, t158), (159, t159), (160, t160), (161, t161), (162, t162), (163, t163), (164, t164), (165, t165), (166, t166), (167, t167), (168, t168), (169, t169), (170, t170), (171, t171), (172, t172), (173, t173), (174, t174), (175, t175), (176, t176), (177, t177), (178, t178), (179, t179), (180, t180), (181, t181), (182, t182), (183, t183), (184, t184), (185, t185), (186, t186), (187, t187), (188, t188), (189, t189), (190, t190), (191, t191), (192, t192), (193, t193), (194, t194), (195, t195), (196, t196), (197, t197), (198, t198), (199, t199), (200, t200), (201, t201), (202, t202), (203, t203), (204, t204), (205, t205), (206, t206), (207, t207), (208, t208), (209, t209), (210, t210), (211, t211), (212, t212), (213, t213), (214, t214), (215, t215), (216, t216), (217, t217), (218, t218), (219, t219), (220, t220), (221, t221), (222, t222), (223, t223), (224, t224), (225, t225), (226, t226), (227, t227), (228, t228), (229, t229), (230, t230), (231, t231), (232, t232), (233, t233), (234, t234), (235, t235), (236, t236), (237, t237), (238, t238), (239, t239), (240, t240), (241, t241), (242, t242), (243, t243), (244, t244), (245, t245), (246, t246), (247, t247), (248, t248), (249, t249), (250, t250), (251, t251), (252, t252), (253, t253), (254, t254), (255, t255), (256, t256), (257, t257), (258, t258), (259, t259), (260, t260), (261, t261), (262, t262), (263, t263), (264, t264)])) g AA cA B z5 As hA hB hi hin b5 hln HCAP HMO Q h

end Go.Proofs.YtclpljbllnhhbaaGreat
