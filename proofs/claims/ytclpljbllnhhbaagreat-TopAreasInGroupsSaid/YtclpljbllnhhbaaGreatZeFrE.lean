/- TopAreasInGroups: the mark of a cell (regions 20, 21), the marks of all (loop 2). -/
import Derived.Test.YtclpljbllnhhbaaGreatZeFrD
import Derived.Test.YtclpljbllnhhbaaGreatZeFpR
import Derived.Test.YtclpljbllnhhbaaGreatZeFiG
import Derived.Test.YtclpljbllnhhbaaGreatZeFjG
namespace Go.Proofs.YtclpljbllnhhbaaGreat
open Go.RowKit

theorem blk_row {w : World} {g : Nat} {x : Int × Int} (hb : Blk w g 39 #[.int .i64 x.1, .int .i64 x.2]) : Row w w.heap.size 2 (some ⟨g, 0, none⟩) [x].length (cellsC [x]) := by
  refine ⟨rfl, fun _ => ⟨g, 0, rfl, hb.lt, fun j v hj => ?_⟩⟩
  match j, hj with
  | 0, hj => have hj : some (Value.int .i64 x.1) = some v := hj
             rw [← Option.some.inj hj]; exact hb.cell 0
  | 1, hj => have hj : some (Value.int .i64 x.2) = some v := hj
             rw [← Option.some.inj hj]; exact hb.cell 1
  | k + 2, hj => have hj : (none : Option Value) = some v := hj
                 cases hj
theorem Blk.far4q {g p : Nat} {b : World} {t : TypeId} {cs : Array Value} (h : Blk b g t cs) (hp : g ≠ p) (u0 u1 u2 u3 : Value) : Blk ((((b.setCell ⟨p, 0, none⟩ u0).setCell ⟨p, 1, none⟩ u1).setCell ⟨p, 2, none⟩ u2).setCell ⟨p, 3, none⟩ u3) g t cs :=
  (((h.far (p := ⟨p, 0, none⟩) hp u0).far (p := ⟨p, 1, none⟩) hp u1).far (p := ⟨p, 2, none⟩) hp u2).far (p := ⟨p, 3, none⟩) hp u3

set_option maxRecDepth 100000 in
set_option maxHeartbeats 32000000 in
theorem topReg20Z (l : List Sc) (A AC : Option Addr) (c cC B : Nat) (C : List (Int × Int)) {W : World} (HL : Hid (∀ w', Gr W w' → ScOk l A B w')) (hC : Row W B 2 AC C.length (cellsC C)) (hB : B ≤ W.heap.size) (HG : Hid (∀ s ∈ l, ScGood s)) {k : Nat} (hk : k < C.length) (x : Int × Int) (hx : C[k] = x) (hs : inS x) {z : Nat → Value} {ds : List Deferred} (Q : Exit → Act → World → Prop)
    (h : ∀ (y : Nat → Value) (q g4 : Nat) (w' : World), Gr W w' → W.heap.size ≤ q → Blk w' q 42 #[.slice (some ⟨g4, 0, none⟩) 1 1, .int .i64 x.1, .int .i64 x.2, .int .i64 (max 0 (atV l x.1 x.2))] → Row w' w'.heap.size 2 (some ⟨g4, 0, none⟩) [x].length (cellsC [x]) → Q .normal ⟨#[.slice A l.length c, z 1, z 2, z 3, z 4, z 5, z 6, z 7, z 8, z 9, .slice AC C.length cC, z 11, .int .i64 k, .pointer (some ⟨q, 0, none⟩), z 14, z 15, z 16, z 17, z 18, z 19, z 20, z 21, z 22, z 23, z 24, z 25, z 26, z 27, z 28, z 29, z 30, z 31, z 32, z 33, z 34, z 35, z 36, z 37, z 38, z 39, z 40, z 41, z 42, z 43, z 44, z 45, z 46, z 47, z 48, z 49, z 50, z 51, z 52, z 53, z 54, z 55, z 56, z 57, z 58, z 59, z 60, z 61, z 62, z 63, z 64, z 65, z 66, z 67, z 68, z 69, z 70, z 71, z 72, z 73, z 74, z 75, z 76, z 77, z 78, z 79, z 80, z 81, z 82, z 83, z 84, z 85, z 86, z 87, z 88, z 89, z 90, z 91, z 92, z 93, z 94, z 95, z 96, y 97, y 98, y 99, y 100, y 101, y 102, y 103, y 104, y 105, y 106, y 107, y 108, y 109, y 110, y 111, y 112, y 113, z 114, z 115, z 116, z 117, z 118, z 119, z 120, z 121, z 122, z 123, z 124, z 125, z 126, z 127, z 128, z 129, z 130, z 131, z 132, z 133, z 134, z 135, z 136, z 137, z 138, z 139, z 140, z 141, z 142, z 143, z 144, z 145, z 146, z 147, z 148, z 149, z 150, z 151, z 152, z 153, z 154, z 155, z 156, z 157, z 158, z 159, z 160, z 161, z 162, z 163, z 164, z 165, z 166, z 167, z 168, z 169, z 170, z 171, z 172, z 173, z 174, z 175, z 176, z 177, z 178, z 179, z 180, z 181, z 182, z 183, z 184, z 185, z 186, z 187, z 188, z 189, z 190, z 191, z 192, z 193, z 194, z 195, z 196, z 197, z 198, z 199, z 200, z 201, z 202, z 203, z 204, z 205, z 206, z 207, z 208, z 209, z 210, z 211, z 212, z 213, z 214, z 215, z 216, z 217, z 218, z 219, z 220, z 221, z 222, z 223, z 224, z 225, z 226, z 227, z 228, z 229, z 230, z 231, z 232, z 233, z 234, z 235, z 236, z 237, z 238, z 239, z 240, z 241, z 242, z 243, z 244, z 245, z 246, z 247, z 248, z 249, z 250, z 251, z 252, z 253, z 254, z 255, z 256, z 257, z 258, z 259, z 260, z 261, z 262, z 263, z 264], ds⟩ w') :
    (regOf Tryz.f3 20).wp Tryz.prog Q ⟨#[.slice A l.length c, z 1, z 2, z 3, z 4, z 5, z 6, z 7, z 8, z 9, .slice AC C.length cC, z 11, .int .i64 k, z 13, z 14, z 15, z 16, z 17, z 18, z 19, z 20, z 21, z 22, z 23, z 24, z 25, z 26, z 27, z 28, z 29, z 30, z 31, z 32, z 33, z 34, z 35, z 36, z 37, z 38, z 39, z 40, z 41, z 42, z 43, z 44, z 45, z 46, z 47, z 48, z 49, z 50, z 51, z 52, z 53, z 54, z 55, z 56, z 57, z 58, z 59, z 60, z 61, z 62, z 63, z 64, z 65, z 66, z 67, z 68, z 69, z 70, z 71, z 72, z 73, z 74, z 75, z 76, z 77, z 78, z 79, z 80, z 81, z 82, z 83, z 84, z 85, z 86, z 87, z 88, z 89, z 90, z 91, z 92, z 93, z 94, z 95, z 96, z 97, z 98, z 99, z 100, z 101, z 102, z 103, z 104, z 105, z 106, z 107, z 108, z 109, z 110, z 111, z 112, z 113, z 114, z 115, z 116, z 117, z 118, z 119, z 120, z 121, z 122, z 123, z 124, z 125, z 126, z 127, z 128, z 129, z 130, z 131, z 132, z 133, z 134, z 135, z 136, z 137, z 138, z 139, z 140, z 141, z 142, z 143, z 144, z 145, z 146, z 147, z 148, z 149, z 150, z 151, z 152, z 153, z 154, z 155, z 156, z 157, z 158, z 159, z 160, z 161, z 162, z 163, z 164, z 165, z 166, z 167, z 168, z 169, z 170, z 171, z 172, z 173, z 174, z 175, z 176, z 177, z 178, z 179, z 180, z 181, z 182, z 183, z 184, z 185, z 186, z 187, z 188, z 189, z 190, z 191, z 192, z 193, z 194, z 195, z 196, z 197, z 198, z 199, z 200, z 201, z 202, z 203, z 204, z 205, z 206, z 207, z 208, z 209, z 210, z 211, z 212, z 213, z 214, z 215, z 216, z 217, z 218, z 219, z 220, z 221, z 222, z 223, z 224, z 225, z 226, z 227, z 228, z 229, z 230, z 231, z 232, z 233, z 234, z 235, z 236, z 237, z 238, z 239, z 240, z 241, z 242, z 243, z 244, z 245, z 246, z 247, z 248, z 249, z 250, z 251, z 252, z 253, z 254, z 255, z 256, z 257, z 258, z 259, z 260, z 261, z 262, z 263, z 264], ds⟩ W := by
  have H := Lib.hid h; clear h
  obtain ⟨g, o, hA, hg, e0, e1⟩ := cellPair hC hk
  rw [hx] at e0 e1
  have i1 : ((k : Int) < (C.length : Int)) := by omega
  have hgw : g < W.heap.size := by omega
  have hs' := hs
  unfold inS at hs'
  have n1 : -1000000 ≤ x.1 ∧ x.1 ≤ 1000000 := by omega
  have n2 : -1000000 ≤ x.2 ∧ x.2 ≤ 1000000 := by omega
  clear hs hs' hx hC
  obtain ⟨v, hv⟩ : ∃ v, atV l x.1 x.2 = v := ⟨_, rfl⟩
  have HV := Lib.hid hv
  rw [hv] at H
  clear hv
  subst hA
  conv in (regOf _ _) => whnf
  refine wp_region_w (Gr _) (by kernel_rfl) (Below.refl _ _).drew ?_
  refine wpW_det (t' := ?ct0R267) 0 (by rfl) (by kernel_rfl) (NQ_free _) (by kernel_rfl) ?cw0R267 ?ch0R267 ?ca0R267 (Eq.refl _) ?cH0R267
  case cw0R267 => (go_simp; done)
  case ch0R267 =>
    intro ds w' hS K hK
    have hc := (bcell hS).1
    have hf := (bcell hS).2
    have hz := hS.size
    try simp at hz
    go_simp
    try go_bits
    first
      | exact hK _ hS (Gr.refl _)
      | exact hK _ (by repeat (first | (with_reducible exact Below.refl _ _) | (with_reducible assumption) | ((with_reducible refine Below.setCell ?_ ?_ _); rotate_left; · (first | exact Nat.le_refl _ | (simp; done) | (simp; omega) | omega)) | ((with_reducible refine Below.alloc ?_ ?_ _); rotate_left; · (first | exact Nat.le_refl _ | (simp; done) | (simp; omega) | omega)) | (with_reducible apply Below.drew) | (with_reducible apply below_drewN') | (refine Below.trans ?_ (Below.mono (by assumption) (by first | exact Nat.le_refl _ | (simp; done) | (simp; omega) | omega))) | exact Below.refl _ _ | assumption)) (by repeat (first | (with_reducible exact Below.refl _ _) | (with_reducible assumption) | ((with_reducible refine Below.setCell ?_ ?_ _); rotate_left; · (first | exact Nat.le_refl _ | (simp; done) | (simp; omega) | omega)) | ((with_reducible refine Below.alloc ?_ ?_ _); rotate_left; · (first | exact Nat.le_refl _ | (simp; done) | (simp; omega) | omega)) | (with_reducible apply Below.drew) | (with_reducible apply below_drewN') | (refine Below.trans ?_ (Below.mono (by assumption) (by first | exact Nat.le_refl _ | (simp; done) | (simp; omega) | omega))) | exact Below.refl _ _ | assumption))
  case ca0R267 => (first | (simp [Act.put]; done) | (simp [Act.put, *]; done))
  try dsimp only
  refine wpW_det (t' := ?ct1R267) 1 (by rfl) (by kernel_rfl) (NQ_free _) (by kernel_rfl) ?cw1R267 ?ch1R267 ?ca1R267 (Eq.refl _) ?cH1R267
  case cw1R267 => (go_simp; done)
  case ch1R267 =>
    intro ds w' hS K hK
    have hc := (bcell hS).1
    have hf := (bcell hS).2
    have hz := hS.size
    try simp at hz
    go_simp
    try go_bits
    first
      | exact hK _ hS (Gr.refl _)
      | exact hK _ (by repeat (first | (with_reducible exact Below.refl _ _) | (with_reducible assumption) | ((with_reducible refine Below.setCell ?_ ?_ _); rotate_left; · (first | exact Nat.le_refl _ | (simp; done) | (simp; omega) | omega)) | ((with_reducible refine Below.alloc ?_ ?_ _); rotate_left; · (first | exact Nat.le_refl _ | (simp; done) | (simp; omega) | omega)) | (with_reducible apply Below.drew) | (with_reducible apply below_drewN') | (refine Below.trans ?_ (Below.mono (by assumption) (by first | exact Nat.le_refl _ | (simp; done) | (simp; omega) | omega))) | exact Below.refl _ _ | assumption)) (by repeat (first | (with_reducible exact Below.refl _ _) | (with_reducible assumption) | ((with_reducible refine Below.setCell ?_ ?_ _); rotate_left; · (first | exact Nat.le_refl _ | (simp; done) | (simp; omega) | omega)) | ((with_reducible refine Below.alloc ?_ ?_ _); rotate_left; · (first | exact Nat.le_refl _ | (simp; done) | (simp; omega) | omega)) | (with_reducible apply Below.drew) | (with_reducible apply below_drewN') | (refine Below.trans ?_ (Below.mono (by assumption) (by first | exact Nat.le_refl _ | (simp; done) | (simp; omega) | omega))) | exact Below.refl _ _ | assumption))
  case ca1R267 => (first | (simp [Act.put]; done) | (simp [Act.put, *]; done))
  try dsimp only
  refine wpW_det (t' := ?ct2R267) 2 (by rfl) (by kernel_rfl) (NQ_free _) (by kernel_rfl) ?cw2R267 ?ch2R267 ?ca2R267 (Eq.refl _) ?cH2R267
  case cw2R267 => (go_simp; done)
  case ch2R267 =>
    intro ds w' hS K hK
    have hc := (bcell hS).1
    have hf := (bcell hS).2
    have hz := hS.size
    try simp at hz
    go_simp
    try go_bits
    first
      | exact hK _ hS (Gr.refl _)
      | exact hK _ (by repeat (first | (with_reducible exact Below.refl _ _) | (with_reducible assumption) | ((with_reducible refine Below.setCell ?_ ?_ _); rotate_left; · (first | exact Nat.le_refl _ | (simp; done) | (simp; omega) | omega)) | ((with_reducible refine Below.alloc ?_ ?_ _); rotate_left; · (first | exact Nat.le_refl _ | (simp; done) | (simp; omega) | omega)) | (with_reducible apply Below.drew) | (with_reducible apply below_drewN') | (refine Below.trans ?_ (Below.mono (by assumption) (by first | exact Nat.le_refl _ | (simp; done) | (simp; omega) | omega))) | exact Below.refl _ _ | assumption)) (by repeat (first | (with_reducible exact Below.refl _ _) | (with_reducible assumption) | ((with_reducible refine Below.setCell ?_ ?_ _); rotate_left; · (first | exact Nat.le_refl _ | (simp; done) | (simp; omega) | omega)) | ((with_reducible refine Below.alloc ?_ ?_ _); rotate_left; · (first | exact Nat.le_refl _ | (simp; done) | (simp; omega) | omega)) | (with_reducible apply Below.drew) | (with_reducible apply below_drewN') | (refine Below.trans ?_ (Below.mono (by assumption) (by first | exact Nat.le_refl _ | (simp; done) | (simp; omega) | omega))) | exact Below.refl _ _ | assumption))
  case ca2R267 => (first | (simp [Act.put]; done) | (simp [Act.put, *]; done))
  try dsimp only
  refine wpW_det (t' := ?ct3R267) 3 (by rfl) (by kernel_rfl) (NQ_free _) (by kernel_rfl) ?cw3R267 ?ch3R267 ?ca3R267 (Eq.refl _) ?cH3R267
  case cw3R267 => (go_simp; done)
  case ch3R267 =>
    intro ds w' hS K hK
    have hc := (bcell hS).1
    have hf := (bcell hS).2
    have hz := hS.size
    try simp at hz
    go_simp
    try go_bits
    first
      | exact hK _ hS (Gr.refl _)
      | exact hK _ (by repeat (first | (with_reducible exact Below.refl _ _) | (with_reducible assumption) | ((with_reducible refine Below.setCell ?_ ?_ _); rotate_left; · (first | exact Nat.le_refl _ | (simp; done) | (simp; omega) | omega)) | ((with_reducible refine Below.alloc ?_ ?_ _); rotate_left; · (first | exact Nat.le_refl _ | (simp; done) | (simp; omega) | omega)) | (with_reducible apply Below.drew) | (with_reducible apply below_drewN') | (refine Below.trans ?_ (Below.mono (by assumption) (by first | exact Nat.le_refl _ | (simp; done) | (simp; omega) | omega))) | exact Below.refl _ _ | assumption)) (by repeat (first | (with_reducible exact Below.refl _ _) | (with_reducible assumption) | ((with_reducible refine Below.setCell ?_ ?_ _); rotate_left; · (first | exact Nat.le_refl _ | (simp; done) | (simp; omega) | omega)) | ((with_reducible refine Below.alloc ?_ ?_ _); rotate_left; · (first | exact Nat.le_refl _ | (simp; done) | (simp; omega) | omega)) | (with_reducible apply Below.drew) | (with_reducible apply below_drewN') | (refine Below.trans ?_ (Below.mono (by assumption) (by first | exact Nat.le_refl _ | (simp; done) | (simp; omega) | omega))) | exact Below.refl _ _ | assumption))
  case ca3R267 => (first | (simp [Act.put]; done) | (simp [Act.put, *]; done))
  try dsimp only
  refine wpW_det (t' := ?ct5R267) 5 (by rfl) (by kernel_rfl) (NQ_free _) (by kernel_rfl) ?cw5R267 ?ch5R267 ?ca5R267 (Eq.refl _) ?cH5R267
  case cw5R267 => (go_simp; done)
  case ch5R267 =>
    intro ds w' hS K hK
    have hc := (bcell hS).1
    have hf := (bcell hS).2
    have hz := hS.size
    try simp at hz
    go_simp
    try go_bits
    first
      | exact hK _ hS (Gr.refl _)
      | exact hK _ (by repeat (first | (with_reducible exact Below.refl _ _) | (with_reducible assumption) | ((with_reducible refine Below.setCell ?_ ?_ _); rotate_left; · (first | exact Nat.le_refl _ | (simp; done) | (simp; omega) | omega)) | ((with_reducible refine Below.alloc ?_ ?_ _); rotate_left; · (first | exact Nat.le_refl _ | (simp; done) | (simp; omega) | omega)) | (with_reducible apply Below.drew) | (with_reducible apply below_drewN') | (refine Below.trans ?_ (Below.mono (by assumption) (by first | exact Nat.le_refl _ | (simp; done) | (simp; omega) | omega))) | exact Below.refl _ _ | assumption)) (by repeat (first | (with_reducible exact Below.refl _ _) | (with_reducible assumption) | ((with_reducible refine Below.setCell ?_ ?_ _); rotate_left; · (first | exact Nat.le_refl _ | (simp; done) | (simp; omega) | omega)) | ((with_reducible refine Below.alloc ?_ ?_ _); rotate_left; · (first | exact Nat.le_refl _ | (simp; done) | (simp; omega) | omega)) | (with_reducible apply Below.drew) | (with_reducible apply below_drewN') | (refine Below.trans ?_ (Below.mono (by assumption) (by first | exact Nat.le_refl _ | (simp; done) | (simp; omega) | omega))) | exact Below.refl _ _ | assumption))
  case ca5R267 => (first | (simp [Act.put]; done) | (simp [Act.put, *]; done))
  try dsimp only
  refine wpW_det (t' := ?ct6R267) 6 (by rfl) (by kernel_rfl) (NQ_free _) (by kernel_rfl) ?cw6R267 ?ch6R267 ?ca6R267 (Eq.refl _) ?cH6R267
  case cw6R267 => (go_simp; done)
  case ch6R267 =>
    intro ds w' hS K hK
    have hc := (bcell hS).1
    have hf := (bcell hS).2
    have hz := hS.size
    try simp at hz
    go_simp
    try go_bits
    first
      | exact hK _ hS (Gr.refl _)
      | exact hK _ (by repeat (first | (with_reducible exact Below.refl _ _) | (with_reducible assumption) | ((with_reducible refine Below.setCell ?_ ?_ _); rotate_left; · (first | exact Nat.le_refl _ | (simp; done) | (simp; omega) | omega)) | ((with_reducible refine Below.alloc ?_ ?_ _); rotate_left; · (first | exact Nat.le_refl _ | (simp; done) | (simp; omega) | omega)) | (with_reducible apply Below.drew) | (with_reducible apply below_drewN') | (refine Below.trans ?_ (Below.mono (by assumption) (by first | exact Nat.le_refl _ | (simp; done) | (simp; omega) | omega))) | exact Below.refl _ _ | assumption)) (by repeat (first | (with_reducible exact Below.refl _ _) | (with_reducible assumption) | ((with_reducible refine Below.setCell ?_ ?_ _); rotate_left; · (first | exact Nat.le_refl _ | (simp; done) | (simp; omega) | omega)) | ((with_reducible refine Below.alloc ?_ ?_ _); rotate_left; · (first | exact Nat.le_refl _ | (simp; done) | (simp; omega) | omega)) | (with_reducible apply Below.drew) | (with_reducible apply below_drewN') | (refine Below.trans ?_ (Below.mono (by assumption) (by first | exact Nat.le_refl _ | (simp; done) | (simp; omega) | omega))) | exact Below.refl _ _ | assumption))
  case ca6R267 => (first | (simp [Act.put]; done) | (simp [Act.put, *]; done))
  try dsimp only
  refine wpW_det (t' := ?ct7R267) 7 (by rfl) (by kernel_rfl) (NQ_free _) (by kernel_rfl) ?cw7R267 ?ch7R267 ?ca7R267 (Eq.refl _) ?cH7R267
  case cw7R267 => (go_simp; done)
  case ch7R267 =>
    intro ds w' hS K hK
    have hc := (bcell hS).1
    have hf := (bcell hS).2
    have hz := hS.size
    try simp at hz
    go_simp
    try go_bits
    first
      | exact hK _ hS (Gr.refl _)
      | exact hK _ (by repeat (first | (with_reducible exact Below.refl _ _) | (with_reducible assumption) | ((with_reducible refine Below.setCell ?_ ?_ _); rotate_left; · (first | exact Nat.le_refl _ | (simp; done) | (simp; omega) | omega)) | ((with_reducible refine Below.alloc ?_ ?_ _); rotate_left; · (first | exact Nat.le_refl _ | (simp; done) | (simp; omega) | omega)) | (with_reducible apply Below.drew) | (with_reducible apply below_drewN') | (refine Below.trans ?_ (Below.mono (by assumption) (by first | exact Nat.le_refl _ | (simp; done) | (simp; omega) | omega))) | exact Below.refl _ _ | assumption)) (by repeat (first | (with_reducible exact Below.refl _ _) | (with_reducible assumption) | ((with_reducible refine Below.setCell ?_ ?_ _); rotate_left; · (first | exact Nat.le_refl _ | (simp; done) | (simp; omega) | omega)) | ((with_reducible refine Below.alloc ?_ ?_ _); rotate_left; · (first | exact Nat.le_refl _ | (simp; done) | (simp; omega) | omega)) | (with_reducible apply Below.drew) | (with_reducible apply below_drewN') | (refine Below.trans ?_ (Below.mono (by assumption) (by first | exact Nat.le_refl _ | (simp; done) | (simp; omega) | omega))) | exact Below.refl _ _ | assumption))
  case ca7R267 => (first | (simp [Act.put]; done) | (simp [Act.put, *]; done))
  try dsimp only
  refine wpW_det (t' := ?ct8R267) 8 (by rfl) (by kernel_rfl) (NQ_free _) (by kernel_rfl) ?cw8R267 ?ch8R267 ?ca8R267 (Eq.refl _) ?cH8R267
  case cw8R267 => (go_simp; done)
  case ch8R267 =>
    intro ds w' hS K hK
    have hc := (bcell hS).1
    have hf := (bcell hS).2
    have hz := hS.size
    try simp at hz
    go_simp
    try go_bits
    first
      | exact hK _ hS (Gr.refl _)
      | exact hK _ (by repeat (first | (with_reducible exact Below.refl _ _) | (with_reducible assumption) | ((with_reducible refine Below.setCell ?_ ?_ _); rotate_left; · (first | exact Nat.le_refl _ | (simp; done) | (simp; omega) | omega)) | ((with_reducible refine Below.alloc ?_ ?_ _); rotate_left; · (first | exact Nat.le_refl _ | (simp; done) | (simp; omega) | omega)) | (with_reducible apply Below.drew) | (with_reducible apply below_drewN') | (refine Below.trans ?_ (Below.mono (by assumption) (by first | exact Nat.le_refl _ | (simp; done) | (simp; omega) | omega))) | exact Below.refl _ _ | assumption)) (by repeat (first | (with_reducible exact Below.refl _ _) | (with_reducible assumption) | ((with_reducible refine Below.setCell ?_ ?_ _); rotate_left; · (first | exact Nat.le_refl _ | (simp; done) | (simp; omega) | omega)) | ((with_reducible refine Below.alloc ?_ ?_ _); rotate_left; · (first | exact Nat.le_refl _ | (simp; done) | (simp; omega) | omega)) | (with_reducible apply Below.drew) | (with_reducible apply below_drewN') | (refine Below.trans ?_ (Below.mono (by assumption) (by first | exact Nat.le_refl _ | (simp; done) | (simp; omega) | omega))) | exact Below.refl _ _ | assumption))
  case ca8R267 => (first | (simp [Act.put]; done) | (simp [Act.put, *]; done))
  try dsimp only
  refine wpW_det (t' := ?ct9R267) 9 (by rfl) (by kernel_rfl) (NQ_free _) (by kernel_rfl) ?cw9R267 ?ch9R267 ?ca9R267 (Eq.refl _) ?cH9R267
  case cw9R267 => (go_simp; done)
  case ch9R267 =>
    intro ds w' hS K hK
    have hc := (bcell hS).1
    have hf := (bcell hS).2
    have hz := hS.size
    try simp at hz
    go_simp
    try go_bits
    first
      | exact hK _ hS (Gr.refl _)
      | exact hK _ (by repeat (first | (with_reducible exact Below.refl _ _) | (with_reducible assumption) | ((with_reducible refine Below.setCell ?_ ?_ _); rotate_left; · (first | exact Nat.le_refl _ | (simp; done) | (simp; omega) | omega)) | ((with_reducible refine Below.alloc ?_ ?_ _); rotate_left; · (first | exact Nat.le_refl _ | (simp; done) | (simp; omega) | omega)) | (with_reducible apply Below.drew) | (with_reducible apply below_drewN') | (refine Below.trans ?_ (Below.mono (by assumption) (by first | exact Nat.le_refl _ | (simp; done) | (simp; omega) | omega))) | exact Below.refl _ _ | assumption)) (by repeat (first | (with_reducible exact Below.refl _ _) | (with_reducible assumption) | ((with_reducible refine Below.setCell ?_ ?_ _); rotate_left; · (first | exact Nat.le_refl _ | (simp; done) | (simp; omega) | omega)) | ((with_reducible refine Below.alloc ?_ ?_ _); rotate_left; · (first | exact Nat.le_refl _ | (simp; done) | (simp; omega) | omega)) | (with_reducible apply Below.drew) | (with_reducible apply below_drewN') | (refine Below.trans ?_ (Below.mono (by assumption) (by first | exact Nat.le_refl _ | (simp; done) | (simp; omega) | omega))) | exact Below.refl _ _ | assumption))
  case ca9R267 => (first | (simp [Act.put]; done) | (simp [Act.put, *]; done))
  try dsimp only
  refine wpW_det (t' := ?ct10R267) 10 (by rfl) (by kernel_rfl) (NQ_free _) (by kernel_rfl) ?cw10R267 ?ch10R267 ?ca10R267 (Eq.refl _) ?cH10R267
  case cw10R267 => (go_simp; done)
  case ch10R267 =>
    intro ds w' hS K hK
    have hc := (bcell hS).1
    have hf := (bcell hS).2
    have hz := hS.size
    try simp at hz
    go_simp
    try go_bits
    first
      | exact hK _ hS (Gr.refl _)
      | exact hK _ (by repeat (first | (with_reducible exact Below.refl _ _) | (with_reducible assumption) | ((with_reducible refine Below.setCell ?_ ?_ _); rotate_left; · (first | exact Nat.le_refl _ | (simp; done) | (simp; omega) | omega)) | ((with_reducible refine Below.alloc ?_ ?_ _); rotate_left; · (first | exact Nat.le_refl _ | (simp; done) | (simp; omega) | omega)) | (with_reducible apply Below.drew) | (with_reducible apply below_drewN') | (refine Below.trans ?_ (Below.mono (by assumption) (by first | exact Nat.le_refl _ | (simp; done) | (simp; omega) | omega))) | exact Below.refl _ _ | assumption)) (by repeat (first | (with_reducible exact Below.refl _ _) | (with_reducible assumption) | ((with_reducible refine Below.setCell ?_ ?_ _); rotate_left; · (first | exact Nat.le_refl _ | (simp; done) | (simp; omega) | omega)) | ((with_reducible refine Below.alloc ?_ ?_ _); rotate_left; · (first | exact Nat.le_refl _ | (simp; done) | (simp; omega) | omega)) | (with_reducible apply Below.drew) | (with_reducible apply below_drewN') | (refine Below.trans ?_ (Below.mono (by assumption) (by first | exact Nat.le_refl _ | (simp; done) | (simp; omega) | omega))) | exact Below.refl _ _ | assumption))
  case ca10R267 => (first | (simp [Act.put]; done) | (simp [Act.put, *]; done))
  try dsimp only
  refine wpW_det (t' := ?ct11R267) 11 (by rfl) (by kernel_rfl) (NQ_free _) (by kernel_rfl) ?cw11R267 ?ch11R267 ?ca11R267 (Eq.refl _) ?cH11R267
  case cw11R267 => (go_simp; done)
  case ch11R267 =>
    intro ds w' hS K hK
    have hc := (bcell hS).1
    have hf := (bcell hS).2
    have hz := hS.size
    try simp at hz
    go_simp
    try go_bits
    first
      | exact hK _ hS (Gr.refl _)
      | exact hK _ (by repeat (first | (with_reducible exact Below.refl _ _) | (with_reducible assumption) | ((with_reducible refine Below.setCell ?_ ?_ _); rotate_left; · (first | exact Nat.le_refl _ | (simp; done) | (simp; omega) | omega)) | ((with_reducible refine Below.alloc ?_ ?_ _); rotate_left; · (first | exact Nat.le_refl _ | (simp; done) | (simp; omega) | omega)) | (with_reducible apply Below.drew) | (with_reducible apply below_drewN') | (refine Below.trans ?_ (Below.mono (by assumption) (by first | exact Nat.le_refl _ | (simp; done) | (simp; omega) | omega))) | exact Below.refl _ _ | assumption)) (by repeat (first | (with_reducible exact Below.refl _ _) | (with_reducible assumption) | ((with_reducible refine Below.setCell ?_ ?_ _); rotate_left; · (first | exact Nat.le_refl _ | (simp; done) | (simp; omega) | omega)) | ((with_reducible refine Below.alloc ?_ ?_ _); rotate_left; · (first | exact Nat.le_refl _ | (simp; done) | (simp; omega) | omega)) | (with_reducible apply Below.drew) | (with_reducible apply below_drewN') | (refine Below.trans ?_ (Below.mono (by assumption) (by first | exact Nat.le_refl _ | (simp; done) | (simp; omega) | omega))) | exact Below.refl _ _ | assumption))
  case ca11R267 => (first | (simp [Act.put]; done) | (simp [Act.put, *]; done))
  try dsimp only
  refine wpW_det (t' := ?ct12R267) 12 (by rfl) (by kernel_rfl) (NQ_free _) (by kernel_rfl) ?cw12R267 ?ch12R267 ?ca12R267 (Eq.refl _) ?cH12R267
  case cw12R267 => (go_simp; done)
  case ch12R267 =>
    intro ds w' hS K hK
    have hc := (bcell hS).1
    have hf := (bcell hS).2
    have hz := hS.size
    try simp at hz
    go_simp
    try go_bits
    first
      | exact hK _ hS (Gr.refl _)
      | exact hK _ (by repeat (first | (with_reducible exact Below.refl _ _) | (with_reducible assumption) | ((with_reducible refine Below.setCell ?_ ?_ _); rotate_left; · (first | exact Nat.le_refl _ | (simp; done) | (simp; omega) | omega)) | ((with_reducible refine Below.alloc ?_ ?_ _); rotate_left; · (first | exact Nat.le_refl _ | (simp; done) | (simp; omega) | omega)) | (with_reducible apply Below.drew) | (with_reducible apply below_drewN') | (refine Below.trans ?_ (Below.mono (by assumption) (by first | exact Nat.le_refl _ | (simp; done) | (simp; omega) | omega))) | exact Below.refl _ _ | assumption)) (by repeat (first | (with_reducible exact Below.refl _ _) | (with_reducible assumption) | ((with_reducible refine Below.setCell ?_ ?_ _); rotate_left; · (first | exact Nat.le_refl _ | (simp; done) | (simp; omega) | omega)) | ((with_reducible refine Below.alloc ?_ ?_ _); rotate_left; · (first | exact Nat.le_refl _ | (simp; done) | (simp; omega) | omega)) | (with_reducible apply Below.drew) | (with_reducible apply below_drewN') | (refine Below.trans ?_ (Below.mono (by assumption) (by first | exact Nat.le_refl _ | (simp; done) | (simp; omega) | omega))) | exact Below.refl _ _ | assumption))
  case ca12R267 => (first | (simp [Act.put]; done) | (simp [Act.put, *]; done))
  try dsimp only
  refine wpW_det (t' := ?ct13R267) 13 (by rfl) (by kernel_rfl) (NQ_free _) (by kernel_rfl) ?cw13R267 ?ch13R267 ?ca13R267 (Eq.refl _) ?cH13R267
  case cw13R267 => (go_simp; done)
  case ch13R267 =>
    intro ds w' hS K hK
    have hc := (bcell hS).1
    have hf := (bcell hS).2
    have hz := hS.size
    try simp at hz
    go_simp
    try go_bits
    first
      | exact hK _ hS (Gr.refl _)
      | exact hK _ (by repeat (first | (with_reducible exact Below.refl _ _) | (with_reducible assumption) | ((with_reducible refine Below.setCell ?_ ?_ _); rotate_left; · (first | exact Nat.le_refl _ | (simp; done) | (simp; omega) | omega)) | ((with_reducible refine Below.alloc ?_ ?_ _); rotate_left; · (first | exact Nat.le_refl _ | (simp; done) | (simp; omega) | omega)) | (with_reducible apply Below.drew) | (with_reducible apply below_drewN') | (refine Below.trans ?_ (Below.mono (by assumption) (by first | exact Nat.le_refl _ | (simp; done) | (simp; omega) | omega))) | exact Below.refl _ _ | assumption)) (by repeat (first | (with_reducible exact Below.refl _ _) | (with_reducible assumption) | ((with_reducible refine Below.setCell ?_ ?_ _); rotate_left; · (first | exact Nat.le_refl _ | (simp; done) | (simp; omega) | omega)) | ((with_reducible refine Below.alloc ?_ ?_ _); rotate_left; · (first | exact Nat.le_refl _ | (simp; done) | (simp; omega) | omega)) | (with_reducible apply Below.drew) | (with_reducible apply below_drewN') | (refine Below.trans ?_ (Below.mono (by assumption) (by first | exact Nat.le_refl _ | (simp; done) | (simp; omega) | omega))) | exact Below.refl _ _ | assumption))
  case ca13R267 => (first | (simp [Act.put]; done) | (simp [Act.put, *]; done))
  try dsimp only
  clear e0 e1
  refine wpW_branch [4, 14, 17] (by kernel_rfl) (by simp) ?_
  intro w1 hg1 hS1
  try replace b4 := b4.gr hg1
  try replace b17 := b17.gr hg1
  clear hg1
  refine each_cons ?_ (each_cons ?_ (each_cons ?_ (each_nil)))
  · refine wpOp_go (by rfl) (Eq.refl _) (by go_simp; done) ?_
    intro K hK
    go_simp
    try simp only [Act.put]
    have b4 := Blk.new w1 39 #[.int .i64 x.1, .int .i64 x.2]
    have hgA : Gr w1 (w1.alloc (.cells #[.int .i64 x.1, .int .i64 x.2] 39)) := (Below.refl _ _).alloc (Nat.le_refl _) _
    try replace b17 := b17.gr hgA
    obtain ⟨N4, hN4⟩ : ∃ N, w1.heap.size = N := ⟨_, rfl⟩
    rw [hN4] at b4 ⊢
    refine hK _ _ (Gr.trans hS1 hgA) ?_
    clear hK K hgA hN4
    refine wpW_branch [14, 17] (by kernel_rfl) (by simp) ?_
    intro w2 hg2 hS2
    try replace b4 := b4.gr hg2
    try replace b17 := b17.gr hg2
    clear hg2
    refine each_cons ?_ (each_cons ?_ (each_nil))
    · refine wpOp_go (by rfl) (Eq.refl _) (by go_simp; done) ?_
      intro K hK
      go_simp
      try simp only [Act.put]
      refine (refAt_any l A c B x.1 x.2 _ (HL.out _ hS2) (Nat.le_trans hB (Below.size hS2)) HG n1 n2).mono ?_
      rw [HV.out]
      rintro e ws ⟨rfl, hBs⟩
      try replace b4 := b4.gr hBs
      try replace b17 := b17.gr hBs
      refine hK _ _ (Gr.trans hS2 hBs) ?_
      clear hK K hBs
      refine wpW_det (t' := ?ct15R268) 15 (by rfl) (by kernel_rfl) (NQ_free _) (by kernel_rfl) ?cw15R268 ?ch15R268 ?ca15R268 (Eq.refl _) ?cH15R268
      case cw15R268 => (go_simp; done)
      case ch15R268 =>
        intro ds w' hS K hK
        have hc := (bcell hS).1
        have hf := (bcell hS).2
        have hz := hS.size
        try simp at hz
        go_simp
        try go_bits
        first
          | exact hK _ hS (Gr.refl _)
          | exact hK _ (by repeat (first | (with_reducible exact Below.refl _ _) | (with_reducible assumption) | ((with_reducible refine Below.setCell ?_ ?_ _); rotate_left; · (first | exact Nat.le_refl _ | (simp; done) | (simp; omega) | omega)) | ((with_reducible refine Below.alloc ?_ ?_ _); rotate_left; · (first | exact Nat.le_refl _ | (simp; done) | (simp; omega) | omega)) | (with_reducible apply Below.drew) | (with_reducible apply below_drewN') | (refine Below.trans ?_ (Below.mono (by assumption) (by first | exact Nat.le_refl _ | (simp; done) | (simp; omega) | omega))) | exact Below.refl _ _ | assumption)) (by repeat (first | (with_reducible exact Below.refl _ _) | (with_reducible assumption) | ((with_reducible refine Below.setCell ?_ ?_ _); rotate_left; · (first | exact Nat.le_refl _ | (simp; done) | (simp; omega) | omega)) | ((with_reducible refine Below.alloc ?_ ?_ _); rotate_left; · (first | exact Nat.le_refl _ | (simp; done) | (simp; omega) | omega)) | (with_reducible apply Below.drew) | (with_reducible apply below_drewN') | (refine Below.trans ?_ (Below.mono (by assumption) (by first | exact Nat.le_refl _ | (simp; done) | (simp; omega) | omega))) | exact Below.refl _ _ | assumption))
      case ca15R268 => (first | (simp [Act.put]; done) | (simp [Act.put, *]; done))
      try dsimp only
      refine wpW_det (t' := ?ct16R269) 16 (by rfl) (by kernel_rfl) (NQ_free _) (by kernel_rfl) ?cw16R269 ?ch16R269 ?ca16R269 (Eq.refl _) ?cH16R269
      case cw16R269 => (go_simp; done)
      case ch16R269 =>
        intro ds w' hS K hK
        have hc := (bcell hS).1
        have hf := (bcell hS).2
        have hz := hS.size
        try simp at hz
        go_simp
        try go_bits
        first
          | exact hK _ hS (Gr.refl _)
          | exact hK _ (by repeat (first | (with_reducible exact Below.refl _ _) | (with_reducible assumption) | ((with_reducible refine Below.setCell ?_ ?_ _); rotate_left; · (first | exact Nat.le_refl _ | (simp; done) | (simp; omega) | omega)) | ((with_reducible refine Below.alloc ?_ ?_ _); rotate_left; · (first | exact Nat.le_refl _ | (simp; done) | (simp; omega) | omega)) | (with_reducible apply Below.drew) | (with_reducible apply below_drewN') | (refine Below.trans ?_ (Below.mono (by assumption) (by first | exact Nat.le_refl _ | (simp; done) | (simp; omega) | omega))) | exact Below.refl _ _ | assumption)) (by repeat (first | (with_reducible exact Below.refl _ _) | (with_reducible assumption) | ((with_reducible refine Below.setCell ?_ ?_ _); rotate_left; · (first | exact Nat.le_refl _ | (simp; done) | (simp; omega) | omega)) | ((with_reducible refine Below.alloc ?_ ?_ _); rotate_left; · (first | exact Nat.le_refl _ | (simp; done) | (simp; omega) | omega)) | (with_reducible apply Below.drew) | (with_reducible apply below_drewN') | (refine Below.trans ?_ (Below.mono (by assumption) (by first | exact Nat.le_refl _ | (simp; done) | (simp; omega) | omega))) | exact Below.refl _ _ | assumption))
      case ca16R269 => (first | (simp [Act.put]; done) | (simp [Act.put, *]; done))
      try dsimp only
      refine wpW_branch [17] (by kernel_rfl) (by simp) ?_
      intro w3 hg3 hS3
      try replace b4 := b4.gr hg3
      try replace b17 := b17.gr hg3
      clear hg3
      refine each_cons ?_ (each_nil)
      · refine wpOp_go (by rfl) (Eq.refl _) (by go_simp; done) ?_
        intro K hK
        go_simp
        try simp only [Act.put]
        have b17 := Blk.new w3 42 #[.slice none 0 0, .int .i64 0, .int .i64 0, .int .i64 0]
        have hgA : Gr w3 (w3.alloc (.cells #[.slice none 0 0, .int .i64 0, .int .i64 0, .int .i64 0] 42)) := (Below.refl _ _).alloc (Nat.le_refl _) _
        try replace b4 := b4.gr hgA
        have hq17 := Below.size hS3
        obtain ⟨N17, hN17⟩ : ∃ N, w3.heap.size = N := ⟨_, rfl⟩
        rw [hN17] at b17 hq17 ⊢
        refine hK _ _ (Gr.trans hS3 hgA) ?_
        clear hK K hgA hN17
        refine wpW_branch [18] (by kernel_rfl) (by simp) ?_
        intro w4 hg4 hS4
        try replace b4 := b4.gr hg4
        try replace b17 := b17.gr hg4
        clear hg4
        refine each_cons ?_ (each_nil)
        · refine wpOp_go (by rfl) (Eq.refl _) (by go_simp; done) ?_
          intro K hK
          obtain ⟨z0, z1, z2, z3, zf⟩ := blk4 b17
          have l17 := b17.lt
          go_simp
          try simp only [Act.put]
          have b18 := b17.set4 (.slice (some ⟨N4, 0, none⟩) 1 1) (.int .i64 x.1) (.int .i64 x.2) (.int .i64 (max 0 v))
          have hg18 : Gr W _ := Below.set4 (u0 := .slice (some ⟨N4, 0, none⟩) 1 1) (u1 := .int .i64 x.1) (u2 := .int .i64 x.2) (u3 := .int .i64 (max 0 v)) hS4 hq17
          replace b4 := b4.far4q (Blk.ne_ b4 b17 (by decide)) (.slice (some ⟨N4, 0, none⟩) 1 1) (.int .i64 x.1) (.int .i64 x.2) (.int .i64 (max 0 v))
          refine hK _ _ hg18 ?_
          clear hK K z0 z1 z2 z3 zf l17 b17
          refine wpW_end (by kernel_rfl) ?_
          intro we hg hS
          unfold NQ
          dsimp only
          exact H.out (frA [(97, _), (98, _), (99, _), (100, _), (101, _), (102, _), (103, _), (104, _), (105, _), (106, _), (107, _), (108, _), (109, _), (110, _), (111, _), (112, _), (113, _)]) N17 N4 we hS hq17 (b18.gr hg) (blk_row (b4.gr hg))
    · refine wpOp_go (by rfl) (Eq.refl _) (by go_simp; done) ?_
      intro K hK
      go_simp
      try simp only [Act.put]
      have b17 := Blk.new w2 42 #[.slice none 0 0, .int .i64 0, .int .i64 0, .int .i64 0]
      have hgA : Gr w2 (w2.alloc (.cells #[.slice none 0 0, .int .i64 0, .int .i64 0, .int .i64 0] 42)) := (Below.refl _ _).alloc (Nat.le_refl _) _
      try replace b4 := b4.gr hgA
      have hq17 := Below.size hS2
      obtain ⟨N17, hN17⟩ : ∃ N, w2.heap.size = N := ⟨_, rfl⟩
      rw [hN17] at b17 hq17 ⊢
      refine hK _ _ (Gr.trans hS2 hgA) ?_
      clear hK K hgA hN17
      refine wpW_branch [14] (by kernel_rfl) (by simp) ?_
      intro w3 hg3 hS3
      try replace b4 := b4.gr hg3
      try replace b17 := b17.gr hg3
      clear hg3
      refine each_cons ?_ (each_nil)
      · refine wpOp_go (by rfl) (Eq.refl _) (by go_simp; done) ?_
        intro K hK
        go_simp
        try simp only [Act.put]
        refine (refAt_any l A c B x.1 x.2 _ (HL.out _ hS3) (Nat.le_trans hB (Below.size hS3)) HG n1 n2).mono ?_
        rw [HV.out]
        rintro e ws ⟨rfl, hBs⟩
        try replace b4 := b4.gr hBs
        try replace b17 := b17.gr hBs
        refine hK _ _ (Gr.trans hS3 hBs) ?_
        clear hK K hBs
        refine wpW_det (t' := ?ct15R270) 15 (by rfl) (by kernel_rfl) (NQ_free _) (by kernel_rfl) ?cw15R270 ?ch15R270 ?ca15R270 (Eq.refl _) ?cH15R270
        case cw15R270 => (go_simp; done)
        case ch15R270 =>
          intro ds w' hS K hK
          have hc := (bcell hS).1
          have hf := (bcell hS).2
          have hz := hS.size
          try simp at hz
          go_simp
          try go_bits
          first
            | exact hK _ hS (Gr.refl _)
            | exact hK _ (by repeat (first | (with_reducible exact Below.refl _ _) | (with_reducible assumption) | ((with_reducible refine Below.setCell ?_ ?_ _); rotate_left; · (first | exact Nat.le_refl _ | (simp; done) | (simp; omega) | omega)) | ((with_reducible refine Below.alloc ?_ ?_ _); rotate_left; · (first | exact Nat.le_refl _ | (simp; done) | (simp; omega) | omega)) | (with_reducible apply Below.drew) | (with_reducible apply below_drewN') | (refine Below.trans ?_ (Below.mono (by assumption) (by first | exact Nat.le_refl _ | (simp; done) | (simp; omega) | omega))) | exact Below.refl _ _ | assumption)) (by repeat (first | (with_reducible exact Below.refl _ _) | (with_reducible assumption) | ((with_reducible refine Below.setCell ?_ ?_ _); rotate_left; · (first | exact Nat.le_refl _ | (simp; done) | (simp; omega) | omega)) | ((with_reducible refine Below.alloc ?_ ?_ _); rotate_left; · (first | exact Nat.le_refl _ | (simp; done) | (simp; omega) | omega)) | (with_reducible apply Below.drew) | (with_reducible apply below_drewN') | (refine Below.trans ?_ (Below.mono (by assumption) (by first | exact Nat.le_refl _ | (simp; done) | (simp; omega) | omega))) | exact Below.refl _ _ | assumption))
        case ca15R270 => (first | (simp [Act.put]; done) | (simp [Act.put, *]; done))
        try dsimp only
        refine wpW_det (t' := ?ct16R271) 16 (by rfl) (by kernel_rfl) (NQ_free _) (by kernel_rfl) ?cw16R271 ?ch16R271 ?ca16R271 (Eq.refl _) ?cH16R271
        case cw16R271 => (go_simp; done)
        case ch16R271 =>
          intro ds w' hS K hK
          have hc := (bcell hS).1
          have hf := (bcell hS).2
          have hz := hS.size
          try simp at hz
          go_simp
          try go_bits
          first
            | exact hK _ hS (Gr.refl _)
            | exact hK _ (by repeat (first | (with_reducible exact Below.refl _ _) | (with_reducible assumption) | ((with_reducible refine Below.setCell ?_ ?_ _); rotate_left; · (first | exact Nat.le_refl _ | (simp; done) | (simp; omega) | omega)) | ((with_reducible refine Below.alloc ?_ ?_ _); rotate_left; · (first | exact Nat.le_refl _ | (simp; done) | (simp; omega) | omega)) | (with_reducible apply Below.drew) | (with_reducible apply below_drewN') | (refine Below.trans ?_ (Below.mono (by assumption) (by first | exact Nat.le_refl _ | (simp; done) | (simp; omega) | omega))) | exact Below.refl _ _ | assumption)) (by repeat (first | (with_reducible exact Below.refl _ _) | (with_reducible assumption) | ((with_reducible refine Below.setCell ?_ ?_ _); rotate_left; · (first | exact Nat.le_refl _ | (simp; done) | (simp; omega) | omega)) | ((with_reducible refine Below.alloc ?_ ?_ _); rotate_left; · (first | exact Nat.le_refl _ | (simp; done) | (simp; omega) | omega)) | (with_reducible apply Below.drew) | (with_reducible apply below_drewN') | (refine Below.trans ?_ (Below.mono (by assumption) (by first | exact Nat.le_refl _ | (simp; done) | (simp; omega) | omega))) | exact Below.refl _ _ | assumption))
        case ca16R271 => (first | (simp [Act.put]; done) | (simp [Act.put, *]; done))
        try dsimp only
        refine wpW_branch [18] (by kernel_rfl) (by simp) ?_
        intro w4 hg4 hS4
        try replace b4 := b4.gr hg4
        try replace b17 := b17.gr hg4
        clear hg4
        refine each_cons ?_ (each_nil)
        · refine wpOp_go (by rfl) (Eq.refl _) (by go_simp; done) ?_
          intro K hK
          obtain ⟨z0, z1, z2, z3, zf⟩ := blk4 b17
          have l17 := b17.lt
          go_simp
          try simp only [Act.put]
          have b18 := b17.set4 (.slice (some ⟨N4, 0, none⟩) 1 1) (.int .i64 x.1) (.int .i64 x.2) (.int .i64 (max 0 v))
          have hg18 : Gr W _ := Below.set4 (u0 := .slice (some ⟨N4, 0, none⟩) 1 1) (u1 := .int .i64 x.1) (u2 := .int .i64 x.2) (u3 := .int .i64 (max 0 v)) hS4 hq17
          replace b4 := b4.far4q (Blk.ne_ b4 b17 (by decide)) (.slice (some ⟨N4, 0, none⟩) 1 1) (.int .i64 x.1) (.int .i64 x.2) (.int .i64 (max 0 v))
          refine hK _ _ hg18 ?_
          clear hK K z0 z1 z2 z3 zf l17 b17
          refine wpW_end (by kernel_rfl) ?_
          intro we hg hS
          unfold NQ
          dsimp only
          exact H.out (frA [(97, _), (98, _), (99, _), (100, _), (101, _), (102, _), (103, _), (104, _), (105, _), (106, _), (107, _), (108, _), (109, _), (110, _), (111, _), (112, _), (113, _)]) N17 N4 we hS hq17 (b18.gr hg) (blk_row (b4.gr hg))
  · refine wpOp_go (by rfl) (Eq.refl _) (by go_simp; done) ?_
    intro K hK
    go_simp
    try simp only [Act.put]
    refine (refAt_any l A c B x.1 x.2 _ (HL.out _ hS1) (Nat.le_trans hB (Below.size hS1)) HG n1 n2).mono ?_
    rw [HV.out]
    rintro e ws ⟨rfl, hBs⟩
    try replace b4 := b4.gr hBs
    try replace b17 := b17.gr hBs
    refine hK _ _ (Gr.trans hS1 hBs) ?_
    clear hK K hBs
    refine wpW_det (t' := ?ct15R272) 15 (by rfl) (by kernel_rfl) (NQ_free _) (by kernel_rfl) ?cw15R272 ?ch15R272 ?ca15R272 (Eq.refl _) ?cH15R272
    case cw15R272 => (go_simp; done)
    case ch15R272 =>
      intro ds w' hS K hK
      have hc := (bcell hS).1
      have hf := (bcell hS).2
      have hz := hS.size
      try simp at hz
      go_simp
      try go_bits
      first
        | exact hK _ hS (Gr.refl _)
        | exact hK _ (by repeat (first | (with_reducible exact Below.refl _ _) | (with_reducible assumption) | ((with_reducible refine Below.setCell ?_ ?_ _); rotate_left; · (first | exact Nat.le_refl _ | (simp; done) | (simp; omega) | omega)) | ((with_reducible refine Below.alloc ?_ ?_ _); rotate_left; · (first | exact Nat.le_refl _ | (simp; done) | (simp; omega) | omega)) | (with_reducible apply Below.drew) | (with_reducible apply below_drewN') | (refine Below.trans ?_ (Below.mono (by assumption) (by first | exact Nat.le_refl _ | (simp; done) | (simp; omega) | omega))) | exact Below.refl _ _ | assumption)) (by repeat (first | (with_reducible exact Below.refl _ _) | (with_reducible assumption) | ((with_reducible refine Below.setCell ?_ ?_ _); rotate_left; · (first | exact Nat.le_refl _ | (simp; done) | (simp; omega) | omega)) | ((with_reducible refine Below.alloc ?_ ?_ _); rotate_left; · (first | exact Nat.le_refl _ | (simp; done) | (simp; omega) | omega)) | (with_reducible apply Below.drew) | (with_reducible apply below_drewN') | (refine Below.trans ?_ (Below.mono (by assumption) (by first | exact Nat.le_refl _ | (simp; done) | (simp; omega) | omega))) | exact Below.refl _ _ | assumption))
    case ca15R272 => (first | (simp [Act.put]; done) | (simp [Act.put, *]; done))
    try dsimp only
    refine wpW_branch [4, 17] (by kernel_rfl) (by simp) ?_
    intro w2 hg2 hS2
    try replace b4 := b4.gr hg2
    try replace b17 := b17.gr hg2
    clear hg2
    refine each_cons ?_ (each_cons ?_ (each_nil))
    · refine wpOp_go (by rfl) (Eq.refl _) (by go_simp; done) ?_
      intro K hK
      go_simp
      try simp only [Act.put]
      have b4 := Blk.new w2 39 #[.int .i64 x.1, .int .i64 x.2]
      have hgA : Gr w2 (w2.alloc (.cells #[.int .i64 x.1, .int .i64 x.2] 39)) := (Below.refl _ _).alloc (Nat.le_refl _) _
      try replace b17 := b17.gr hgA
      obtain ⟨N4, hN4⟩ : ∃ N, w2.heap.size = N := ⟨_, rfl⟩
      rw [hN4] at b4 ⊢
      refine hK _ _ (Gr.trans hS2 hgA) ?_
      clear hK K hgA hN4
      refine wpW_det (t' := ?ct16R273) 16 (by rfl) (by kernel_rfl) (NQ_free _) (by kernel_rfl) ?cw16R273 ?ch16R273 ?ca16R273 (Eq.refl _) ?cH16R273
      case cw16R273 => (go_simp; done)
      case ch16R273 =>
        intro ds w' hS K hK
        have hc := (bcell hS).1
        have hf := (bcell hS).2
        have hz := hS.size
        try simp at hz
        go_simp
        try go_bits
        first
          | exact hK _ hS (Gr.refl _)
          | exact hK _ (by repeat (first | (with_reducible exact Below.refl _ _) | (with_reducible assumption) | ((with_reducible refine Below.setCell ?_ ?_ _); rotate_left; · (first | exact Nat.le_refl _ | (simp; done) | (simp; omega) | omega)) | ((with_reducible refine Below.alloc ?_ ?_ _); rotate_left; · (first | exact Nat.le_refl _ | (simp; done) | (simp; omega) | omega)) | (with_reducible apply Below.drew) | (with_reducible apply below_drewN') | (refine Below.trans ?_ (Below.mono (by assumption) (by first | exact Nat.le_refl _ | (simp; done) | (simp; omega) | omega))) | exact Below.refl _ _ | assumption)) (by repeat (first | (with_reducible exact Below.refl _ _) | (with_reducible assumption) | ((with_reducible refine Below.setCell ?_ ?_ _); rotate_left; · (first | exact Nat.le_refl _ | (simp; done) | (simp; omega) | omega)) | ((with_reducible refine Below.alloc ?_ ?_ _); rotate_left; · (first | exact Nat.le_refl _ | (simp; done) | (simp; omega) | omega)) | (with_reducible apply Below.drew) | (with_reducible apply below_drewN') | (refine Below.trans ?_ (Below.mono (by assumption) (by first | exact Nat.le_refl _ | (simp; done) | (simp; omega) | omega))) | exact Below.refl _ _ | assumption))
      case ca16R273 => (first | (simp [Act.put]; done) | (simp [Act.put, *]; done))
      try dsimp only
      refine wpW_branch [17] (by kernel_rfl) (by simp) ?_
      intro w3 hg3 hS3
      try replace b4 := b4.gr hg3
      try replace b17 := b17.gr hg3
      clear hg3
      refine each_cons ?_ (each_nil)
      · refine wpOp_go (by rfl) (Eq.refl _) (by go_simp; done) ?_
        intro K hK
        go_simp
        try simp only [Act.put]
        have b17 := Blk.new w3 42 #[.slice none 0 0, .int .i64 0, .int .i64 0, .int .i64 0]
        have hgA : Gr w3 (w3.alloc (.cells #[.slice none 0 0, .int .i64 0, .int .i64 0, .int .i64 0] 42)) := (Below.refl _ _).alloc (Nat.le_refl _) _
        try replace b4 := b4.gr hgA
        have hq17 := Below.size hS3
        obtain ⟨N17, hN17⟩ : ∃ N, w3.heap.size = N := ⟨_, rfl⟩
        rw [hN17] at b17 hq17 ⊢
        refine hK _ _ (Gr.trans hS3 hgA) ?_
        clear hK K hgA hN17
        refine wpW_branch [18] (by kernel_rfl) (by simp) ?_
        intro w4 hg4 hS4
        try replace b4 := b4.gr hg4
        try replace b17 := b17.gr hg4
        clear hg4
        refine each_cons ?_ (each_nil)
        · refine wpOp_go (by rfl) (Eq.refl _) (by go_simp; done) ?_
          intro K hK
          obtain ⟨z0, z1, z2, z3, zf⟩ := blk4 b17
          have l17 := b17.lt
          go_simp
          try simp only [Act.put]
          have b18 := b17.set4 (.slice (some ⟨N4, 0, none⟩) 1 1) (.int .i64 x.1) (.int .i64 x.2) (.int .i64 (max 0 v))
          have hg18 : Gr W _ := Below.set4 (u0 := .slice (some ⟨N4, 0, none⟩) 1 1) (u1 := .int .i64 x.1) (u2 := .int .i64 x.2) (u3 := .int .i64 (max 0 v)) hS4 hq17
          replace b4 := b4.far4q (Blk.ne_ b4 b17 (by decide)) (.slice (some ⟨N4, 0, none⟩) 1 1) (.int .i64 x.1) (.int .i64 x.2) (.int .i64 (max 0 v))
          refine hK _ _ hg18 ?_
          clear hK K z0 z1 z2 z3 zf l17 b17
          refine wpW_end (by kernel_rfl) ?_
          intro we hg hS
          unfold NQ
          dsimp only
          exact H.out (frA [(97, _), (98, _), (99, _), (100, _), (101, _), (102, _), (103, _), (104, _), (105, _), (106, _), (107, _), (108, _), (109, _), (110, _), (111, _), (112, _), (113, _)]) N17 N4 we hS hq17 (b18.gr hg) (blk_row (b4.gr hg))
    · refine wpOp_go (by rfl) (Eq.refl _) (by go_simp; done) ?_
      intro K hK
      go_simp
      try simp only [Act.put]
      have b17 := Blk.new w2 42 #[.slice none 0 0, .int .i64 0, .int .i64 0, .int .i64 0]
      have hgA : Gr w2 (w2.alloc (.cells #[.slice none 0 0, .int .i64 0, .int .i64 0, .int .i64 0] 42)) := (Below.refl _ _).alloc (Nat.le_refl _) _
      try replace b4 := b4.gr hgA
      have hq17 := Below.size hS2
      obtain ⟨N17, hN17⟩ : ∃ N, w2.heap.size = N := ⟨_, rfl⟩
      rw [hN17] at b17 hq17 ⊢
      refine hK _ _ (Gr.trans hS2 hgA) ?_
      clear hK K hgA hN17
      refine wpW_branch [4] (by kernel_rfl) (by simp) ?_
      intro w3 hg3 hS3
      try replace b4 := b4.gr hg3
      try replace b17 := b17.gr hg3
      clear hg3
      refine each_cons ?_ (each_nil)
      · refine wpOp_go (by rfl) (Eq.refl _) (by go_simp; done) ?_
        intro K hK
        go_simp
        try simp only [Act.put]
        have b4 := Blk.new w3 39 #[.int .i64 x.1, .int .i64 x.2]
        have hgA : Gr w3 (w3.alloc (.cells #[.int .i64 x.1, .int .i64 x.2] 39)) := (Below.refl _ _).alloc (Nat.le_refl _) _
        try replace b17 := b17.gr hgA
        obtain ⟨N4, hN4⟩ : ∃ N, w3.heap.size = N := ⟨_, rfl⟩
        rw [hN4] at b4 ⊢
        refine hK _ _ (Gr.trans hS3 hgA) ?_
        clear hK K hgA hN4
        refine wpW_det (t' := ?ct16R274) 16 (by rfl) (by kernel_rfl) (NQ_free _) (by kernel_rfl) ?cw16R274 ?ch16R274 ?ca16R274 (Eq.refl _) ?cH16R274
        case cw16R274 => (go_simp; done)
        case ch16R274 =>
          intro ds w' hS K hK
          have hc := (bcell hS).1
          have hf := (bcell hS).2
          have hz := hS.size
          try simp at hz
          go_simp
          try go_bits
          first
            | exact hK _ hS (Gr.refl _)
            | exact hK _ (by repeat (first | (with_reducible exact Below.refl _ _) | (with_reducible assumption) | ((with_reducible refine Below.setCell ?_ ?_ _); rotate_left; · (first | exact Nat.le_refl _ | (simp; done) | (simp; omega) | omega)) | ((with_reducible refine Below.alloc ?_ ?_ _); rotate_left; · (first | exact Nat.le_refl _ | (simp; done) | (simp; omega) | omega)) | (with_reducible apply Below.drew) | (with_reducible apply below_drewN') | (refine Below.trans ?_ (Below.mono (by assumption) (by first | exact Nat.le_refl _ | (simp; done) | (simp; omega) | omega))) | exact Below.refl _ _ | assumption)) (by repeat (first | (with_reducible exact Below.refl _ _) | (with_reducible assumption) | ((with_reducible refine Below.setCell ?_ ?_ _); rotate_left; · (first | exact Nat.le_refl _ | (simp; done) | (simp; omega) | omega)) | ((with_reducible refine Below.alloc ?_ ?_ _); rotate_left; · (first | exact Nat.le_refl _ | (simp; done) | (simp; omega) | omega)) | (with_reducible apply Below.drew) | (with_reducible apply below_drewN') | (refine Below.trans ?_ (Below.mono (by assumption) (by first | exact Nat.le_refl _ | (simp; done) | (simp; omega) | omega))) | exact Below.refl _ _ | assumption))
        case ca16R274 => (first | (simp [Act.put]; done) | (simp [Act.put, *]; done))
        try dsimp only
        refine wpW_branch [18] (by kernel_rfl) (by simp) ?_
        intro w4 hg4 hS4
        try replace b4 := b4.gr hg4
        try replace b17 := b17.gr hg4
        clear hg4
        refine each_cons ?_ (each_nil)
        · refine wpOp_go (by rfl) (Eq.refl _) (by go_simp; done) ?_
          intro K hK
          obtain ⟨z0, z1, z2, z3, zf⟩ := blk4 b17
          have l17 := b17.lt
          go_simp
          try simp only [Act.put]
          have b18 := b17.set4 (.slice (some ⟨N4, 0, none⟩) 1 1) (.int .i64 x.1) (.int .i64 x.2) (.int .i64 (max 0 v))
          have hg18 : Gr W _ := Below.set4 (u0 := .slice (some ⟨N4, 0, none⟩) 1 1) (u1 := .int .i64 x.1) (u2 := .int .i64 x.2) (u3 := .int .i64 (max 0 v)) hS4 hq17
          replace b4 := b4.far4q (Blk.ne_ b4 b17 (by decide)) (.slice (some ⟨N4, 0, none⟩) 1 1) (.int .i64 x.1) (.int .i64 x.2) (.int .i64 (max 0 v))
          refine hK _ _ hg18 ?_
          clear hK K z0 z1 z2 z3 zf l17 b17
          refine wpW_end (by kernel_rfl) ?_
          intro we hg hS
          unfold NQ
          dsimp only
          exact H.out (frA [(97, _), (98, _), (99, _), (100, _), (101, _), (102, _), (103, _), (104, _), (105, _), (106, _), (107, _), (108, _), (109, _), (110, _), (111, _), (112, _), (113, _)]) N17 N4 we hS hq17 (b18.gr hg) (blk_row (b4.gr hg))
  · refine wpOp_go (by rfl) (Eq.refl _) (by go_simp; done) ?_
    intro K hK
    go_simp
    try simp only [Act.put]
    have b17 := Blk.new w1 42 #[.slice none 0 0, .int .i64 0, .int .i64 0, .int .i64 0]
    have hgA : Gr w1 (w1.alloc (.cells #[.slice none 0 0, .int .i64 0, .int .i64 0, .int .i64 0] 42)) := (Below.refl _ _).alloc (Nat.le_refl _) _
    try replace b4 := b4.gr hgA
    have hq17 := Below.size hS1
    obtain ⟨N17, hN17⟩ : ∃ N, w1.heap.size = N := ⟨_, rfl⟩
    rw [hN17] at b17 hq17 ⊢
    refine hK _ _ (Gr.trans hS1 hgA) ?_
    clear hK K hgA hN17
    refine wpW_branch [4, 14] (by kernel_rfl) (by simp) ?_
    intro w2 hg2 hS2
    try replace b4 := b4.gr hg2
    try replace b17 := b17.gr hg2
    clear hg2
    refine each_cons ?_ (each_cons ?_ (each_nil))
    · refine wpOp_go (by rfl) (Eq.refl _) (by go_simp; done) ?_
      intro K hK
      go_simp
      try simp only [Act.put]
      have b4 := Blk.new w2 39 #[.int .i64 x.1, .int .i64 x.2]
      have hgA : Gr w2 (w2.alloc (.cells #[.int .i64 x.1, .int .i64 x.2] 39)) := (Below.refl _ _).alloc (Nat.le_refl _) _
      try replace b17 := b17.gr hgA
      obtain ⟨N4, hN4⟩ : ∃ N, w2.heap.size = N := ⟨_, rfl⟩
      rw [hN4] at b4 ⊢
      refine hK _ _ (Gr.trans hS2 hgA) ?_
      clear hK K hgA hN4
      refine wpW_branch [14] (by kernel_rfl) (by simp) ?_
      intro w3 hg3 hS3
      try replace b4 := b4.gr hg3
      try replace b17 := b17.gr hg3
      clear hg3
      refine each_cons ?_ (each_nil)
      · refine wpOp_go (by rfl) (Eq.refl _) (by go_simp; done) ?_
        intro K hK
        go_simp
        try simp only [Act.put]
        refine (refAt_any l A c B x.1 x.2 _ (HL.out _ hS3) (Nat.le_trans hB (Below.size hS3)) HG n1 n2).mono ?_
        rw [HV.out]
        rintro e ws ⟨rfl, hBs⟩
        try replace b4 := b4.gr hBs
        try replace b17 := b17.gr hBs
        refine hK _ _ (Gr.trans hS3 hBs) ?_
        clear hK K hBs
        refine wpW_det (t' := ?ct15R275) 15 (by rfl) (by kernel_rfl) (NQ_free _) (by kernel_rfl) ?cw15R275 ?ch15R275 ?ca15R275 (Eq.refl _) ?cH15R275
        case cw15R275 => (go_simp; done)
        case ch15R275 =>
          intro ds w' hS K hK
          have hc := (bcell hS).1
          have hf := (bcell hS).2
          have hz := hS.size
          try simp at hz
          go_simp
          try go_bits
          first
            | exact hK _ hS (Gr.refl _)
            | exact hK _ (by repeat (first | (with_reducible exact Below.refl _ _) | (with_reducible assumption) | ((with_reducible refine Below.setCell ?_ ?_ _); rotate_left; · (first | exact Nat.le_refl _ | (simp; done) | (simp; omega) | omega)) | ((with_reducible refine Below.alloc ?_ ?_ _); rotate_left; · (first | exact Nat.le_refl _ | (simp; done) | (simp; omega) | omega)) | (with_reducible apply Below.drew) | (with_reducible apply below_drewN') | (refine Below.trans ?_ (Below.mono (by assumption) (by first | exact Nat.le_refl _ | (simp; done) | (simp; omega) | omega))) | exact Below.refl _ _ | assumption)) (by repeat (first | (with_reducible exact Below.refl _ _) | (with_reducible assumption) | ((with_reducible refine Below.setCell ?_ ?_ _); rotate_left; · (first | exact Nat.le_refl _ | (simp; done) | (simp; omega) | omega)) | ((with_reducible refine Below.alloc ?_ ?_ _); rotate_left; · (first | exact Nat.le_refl _ | (simp; done) | (simp; omega) | omega)) | (with_reducible apply Below.drew) | (with_reducible apply below_drewN') | (refine Below.trans ?_ (Below.mono (by assumption) (by first | exact Nat.le_refl _ | (simp; done) | (simp; omega) | omega))) | exact Below.refl _ _ | assumption))
        case ca15R275 => (first | (simp [Act.put]; done) | (simp [Act.put, *]; done))
        try dsimp only
        refine wpW_det (t' := ?ct16R276) 16 (by rfl) (by kernel_rfl) (NQ_free _) (by kernel_rfl) ?cw16R276 ?ch16R276 ?ca16R276 (Eq.refl _) ?cH16R276
        case cw16R276 => (go_simp; done)
        case ch16R276 =>
          intro ds w' hS K hK
          have hc := (bcell hS).1
          have hf := (bcell hS).2
          have hz := hS.size
          try simp at hz
          go_simp
          try go_bits
          first
            | exact hK _ hS (Gr.refl _)
            | exact hK _ (by repeat (first | (with_reducible exact Below.refl _ _) | (with_reducible assumption) | ((with_reducible refine Below.setCell ?_ ?_ _); rotate_left; · (first | exact Nat.le_refl _ | (simp; done) | (simp; omega) | omega)) | ((with_reducible refine Below.alloc ?_ ?_ _); rotate_left; · (first | exact Nat.le_refl _ | (simp; done) | (simp; omega) | omega)) | (with_reducible apply Below.drew) | (with_reducible apply below_drewN') | (refine Below.trans ?_ (Below.mono (by assumption) (by first | exact Nat.le_refl _ | (simp; done) | (simp; omega) | omega))) | exact Below.refl _ _ | assumption)) (by repeat (first | (with_reducible exact Below.refl _ _) | (with_reducible assumption) | ((with_reducible refine Below.setCell ?_ ?_ _); rotate_left; · (first | exact Nat.le_refl _ | (simp; done) | (simp; omega) | omega)) | ((with_reducible refine Below.alloc ?_ ?_ _); rotate_left; · (first | exact Nat.le_refl _ | (simp; done) | (simp; omega) | omega)) | (with_reducible apply Below.drew) | (with_reducible apply below_drewN') | (refine Below.trans ?_ (Below.mono (by assumption) (by first | exact Nat.le_refl _ | (simp; done) | (simp; omega) | omega))) | exact Below.refl _ _ | assumption))
        case ca16R276 => (first | (simp [Act.put]; done) | (simp [Act.put, *]; done))
        try dsimp only
        refine wpW_branch [18] (by kernel_rfl) (by simp) ?_
        intro w4 hg4 hS4
        try replace b4 := b4.gr hg4
        try replace b17 := b17.gr hg4
        clear hg4
        refine each_cons ?_ (each_nil)
        · refine wpOp_go (by rfl) (Eq.refl _) (by go_simp; done) ?_
          intro K hK
          obtain ⟨z0, z1, z2, z3, zf⟩ := blk4 b17
          have l17 := b17.lt
          go_simp
          try simp only [Act.put]
          have b18 := b17.set4 (.slice (some ⟨N4, 0, none⟩) 1 1) (.int .i64 x.1) (.int .i64 x.2) (.int .i64 (max 0 v))
          have hg18 : Gr W _ := Below.set4 (u0 := .slice (some ⟨N4, 0, none⟩) 1 1) (u1 := .int .i64 x.1) (u2 := .int .i64 x.2) (u3 := .int .i64 (max 0 v)) hS4 hq17
          replace b4 := b4.far4q (Blk.ne_ b4 b17 (by decide)) (.slice (some ⟨N4, 0, none⟩) 1 1) (.int .i64 x.1) (.int .i64 x.2) (.int .i64 (max 0 v))
          refine hK _ _ hg18 ?_
          clear hK K z0 z1 z2 z3 zf l17 b17
          refine wpW_end (by kernel_rfl) ?_
          intro we hg hS
          unfold NQ
          dsimp only
          exact H.out (frA [(97, _), (98, _), (99, _), (100, _), (101, _), (102, _), (103, _), (104, _), (105, _), (106, _), (107, _), (108, _), (109, _), (110, _), (111, _), (112, _), (113, _)]) N17 N4 we hS hq17 (b18.gr hg) (blk_row (b4.gr hg))
    · refine wpOp_go (by rfl) (Eq.refl _) (by go_simp; done) ?_
      intro K hK
      go_simp
      try simp only [Act.put]
      refine (refAt_any l A c B x.1 x.2 _ (HL.out _ hS2) (Nat.le_trans hB (Below.size hS2)) HG n1 n2).mono ?_
      rw [HV.out]
      rintro e ws ⟨rfl, hBs⟩
      try replace b4 := b4.gr hBs
      try replace b17 := b17.gr hBs
      refine hK _ _ (Gr.trans hS2 hBs) ?_
      clear hK K hBs
      refine wpW_det (t' := ?ct15R277) 15 (by rfl) (by kernel_rfl) (NQ_free _) (by kernel_rfl) ?cw15R277 ?ch15R277 ?ca15R277 (Eq.refl _) ?cH15R277
      case cw15R277 => (go_simp; done)
      case ch15R277 =>
        intro ds w' hS K hK
        have hc := (bcell hS).1
        have hf := (bcell hS).2
        have hz := hS.size
        try simp at hz
        go_simp
        try go_bits
        first
          | exact hK _ hS (Gr.refl _)
          | exact hK _ (by repeat (first | (with_reducible exact Below.refl _ _) | (with_reducible assumption) | ((with_reducible refine Below.setCell ?_ ?_ _); rotate_left; · (first | exact Nat.le_refl _ | (simp; done) | (simp; omega) | omega)) | ((with_reducible refine Below.alloc ?_ ?_ _); rotate_left; · (first | exact Nat.le_refl _ | (simp; done) | (simp; omega) | omega)) | (with_reducible apply Below.drew) | (with_reducible apply below_drewN') | (refine Below.trans ?_ (Below.mono (by assumption) (by first | exact Nat.le_refl _ | (simp; done) | (simp; omega) | omega))) | exact Below.refl _ _ | assumption)) (by repeat (first | (with_reducible exact Below.refl _ _) | (with_reducible assumption) | ((with_reducible refine Below.setCell ?_ ?_ _); rotate_left; · (first | exact Nat.le_refl _ | (simp; done) | (simp; omega) | omega)) | ((with_reducible refine Below.alloc ?_ ?_ _); rotate_left; · (first | exact Nat.le_refl _ | (simp; done) | (simp; omega) | omega)) | (with_reducible apply Below.drew) | (with_reducible apply below_drewN') | (refine Below.trans ?_ (Below.mono (by assumption) (by first | exact Nat.le_refl _ | (simp; done) | (simp; omega) | omega))) | exact Below.refl _ _ | assumption))
      case ca15R277 => (first | (simp [Act.put]; done) | (simp [Act.put, *]; done))
      try dsimp only
      refine wpW_branch [4] (by kernel_rfl) (by simp) ?_
      intro w3 hg3 hS3
      try replace b4 := b4.gr hg3
      try replace b17 := b17.gr hg3
      clear hg3
      refine each_cons ?_ (each_nil)
      · refine wpOp_go (by rfl) (Eq.refl _) (by go_simp; done) ?_
        intro K hK
        go_simp
        try simp only [Act.put]
        have b4 := Blk.new w3 39 #[.int .i64 x.1, .int .i64 x.2]
        have hgA : Gr w3 (w3.alloc (.cells #[.int .i64 x.1, .int .i64 x.2] 39)) := (Below.refl _ _).alloc (Nat.le_refl _) _
        try replace b17 := b17.gr hgA
        obtain ⟨N4, hN4⟩ : ∃ N, w3.heap.size = N := ⟨_, rfl⟩
        rw [hN4] at b4 ⊢
        refine hK _ _ (Gr.trans hS3 hgA) ?_
        clear hK K hgA hN4
        refine wpW_det (t' := ?ct16R278) 16 (by rfl) (by kernel_rfl) (NQ_free _) (by kernel_rfl) ?cw16R278 ?ch16R278 ?ca16R278 (Eq.refl _) ?cH16R278
        case cw16R278 => (go_simp; done)
        case ch16R278 =>
          intro ds w' hS K hK
          have hc := (bcell hS).1
          have hf := (bcell hS).2
          have hz := hS.size
          try simp at hz
          go_simp
          try go_bits
          first
            | exact hK _ hS (Gr.refl _)
            | exact hK _ (by repeat (first | (with_reducible exact Below.refl _ _) | (with_reducible assumption) | ((with_reducible refine Below.setCell ?_ ?_ _); rotate_left; · (first | exact Nat.le_refl _ | (simp; done) | (simp; omega) | omega)) | ((with_reducible refine Below.alloc ?_ ?_ _); rotate_left; · (first | exact Nat.le_refl _ | (simp; done) | (simp; omega) | omega)) | (with_reducible apply Below.drew) | (with_reducible apply below_drewN') | (refine Below.trans ?_ (Below.mono (by assumption) (by first | exact Nat.le_refl _ | (simp; done) | (simp; omega) | omega))) | exact Below.refl _ _ | assumption)) (by repeat (first | (with_reducible exact Below.refl _ _) | (with_reducible assumption) | ((with_reducible refine Below.setCell ?_ ?_ _); rotate_left; · (first | exact Nat.le_refl _ | (simp; done) | (simp; omega) | omega)) | ((with_reducible refine Below.alloc ?_ ?_ _); rotate_left; · (first | exact Nat.le_refl _ | (simp; done) | (simp; omega) | omega)) | (with_reducible apply Below.drew) | (with_reducible apply below_drewN') | (refine Below.trans ?_ (Below.mono (by assumption) (by first | exact Nat.le_refl _ | (simp; done) | (simp; omega) | omega))) | exact Below.refl _ _ | assumption))
        case ca16R278 => (first | (simp [Act.put]; done) | (simp [Act.put, *]; done))
        try dsimp only
        refine wpW_branch [18] (by kernel_rfl) (by simp) ?_
        intro w4 hg4 hS4
        try replace b4 := b4.gr hg4
        try replace b17 := b17.gr hg4
        clear hg4
        refine each_cons ?_ (each_nil)
        · refine wpOp_go (by rfl) (Eq.refl _) (by go_simp; done) ?_
          intro K hK
          obtain ⟨z0, z1, z2, z3, zf⟩ := blk4 b17
          have l17 := b17.lt
          go_simp
          try simp only [Act.put]
          have b18 := b17.set4 (.slice (some ⟨N4, 0, none⟩) 1 1) (.int .i64 x.1) (.int .i64 x.2) (.int .i64 (max 0 v))
          have hg18 : Gr W _ := Below.set4 (u0 := .slice (some ⟨N4, 0, none⟩) 1 1) (u1 := .int .i64 x.1) (u2 := .int .i64 x.2) (u3 := .int .i64 (max 0 v)) hS4 hq17
          replace b4 := b4.far4q (Blk.ne_ b4 b17 (by decide)) (.slice (some ⟨N4, 0, none⟩) 1 1) (.int .i64 x.1) (.int .i64 x.2) (.int .i64 (max 0 v))
          refine hK _ _ hg18 ?_
          clear hK K z0 z1 z2 z3 zf l17 b17
          refine wpW_end (by kernel_rfl) ?_
          intro we hg hS
          unfold NQ
          dsimp only
          exact H.out (frA [(97, _), (98, _), (99, _), (100, _), (101, _), (102, _), (103, _), (104, _), (105, _), (106, _), (107, _), (108, _), (109, _), (110, _), (111, _), (112, _), (113, _)]) N17 N4 we hS hq17 (b18.gr hg) (blk_row (b4.gr hg))

set_option maxRecDepth 100000 in
set_option maxHeartbeats 32000000 in
theorem topReg20 (l : List Sc) (A AC : Option Addr) (c cC B : Nat) (C : List (Int × Int)) {W : World} (HL : Hid (∀ w', Gr W w' → ScOk l A B w')) (hC : Row W B 2 AC C.length (cellsC C)) (hB : B ≤ W.heap.size) (HG : Hid (∀ s ∈ l, ScGood s)) {k : Nat} (hk : k < C.length) (x : Int × Int) (hx : C[k] = x) (hs : inS x) {t1 t2 t3 t4 t5 t6 t7 t8 t9 t11 t13 t14 t15 t16 t17 t18 t19 t20 t21 t22 t23 t24 t25 t26 t27 t28 t29 t30 t31 t32 t33 t34 t35 t36 t37 t38 t39 t40 t41 t42 t43 t44 t45 t46 t47 t48 t49 t50 t51 t52 t53 t54 t55 t56 t57 t58 t59 t60 t61 t62 t63 t64 t65 t66 t67 t68 t69 t70 t71 t72 t73 t74 t75 t76 t77 t78 t79 t80 t81 t82 t83 t84 t85 t86 t87 t88 t89 t90 t91 t92 t93 t94 t95 t96 t97 t98 t99 t100 t101 t102 t103 t104 t105 t106 t107 t108 t109 t110 t111 t112 t113 t114 t115 t116 t117 t118 t119 t120 t121 t122 t123 t124 t125 t126 t127 t128 t129 t130 t131 t132 t133 t134 t135 t136 t137 t138 t139 t140 t141 t142 t143 t144 t145 t146 t147 t148 t149 t150 t151 t152 t153 t154 t155 t156 t157 t158 t159 t160 t161 t162 t163 t164 t165 t166 t167 t168 t169 t170 t171 t172 t173 t174 t175 t176 t177 t178 t179 t180 t181 t182 t183 t184 t185 t186 t187 t188 t189 t190 t191 t192 t193 t194 t195 t196 t197 t198 t199 t200 t201 t202 t203 t204 t205 t206 t207 t208 t209 t210 t211 t212 t213 t214 t215 t216 t217 t218 t219 t220 t221 t222 t223 t224 t225 t226 t227 t228 t229 t230 t231 t232 t233 t234 t235 t236 t237 t238 t239 t240 t241 t242 t243 t244 t245 t246 t247 t248 t249 t250 t251 t252 t253 t254 t255 t256 t257 t258 t259 t260 t261 t262 t263 t264 : Value} {ds : List Deferred} (Q : Exit → Act → World → Prop)
    (h : ∀ (y : Nat → Value) (q g4 : Nat) (w' : World), Gr W w' → W.heap.size ≤ q → Blk w' q 42 #[.slice (some ⟨g4, 0, none⟩) 1 1, .int .i64 x.1, .int .i64 x.2, .int .i64 (max 0 (atV l x.1 x.2))] → Row w' w'.heap.size 2 (some ⟨g4, 0, none⟩) [x].length (cellsC [x]) → Q .normal ⟨#[.slice A l.length c, t1, t2, t3, t4, t5, t6, t7, t8, t9, .slice AC C.length cC, t11, .int .i64 k, .pointer (some ⟨q, 0, none⟩), t14, t15, t16, t17, t18, t19, t20, t21, t22, t23, t24, t25, t26, t27, t28, t29, t30, t31, t32, t33, t34, t35, t36, t37, t38, t39, t40, t41, t42, t43, t44, t45, t46, t47, t48, t49, t50, t51, t52, t53, t54, t55, t56, t57, t58, t59, t60, t61, t62, t63, t64, t65, t66, t67, t68, t69, t70, t71, t72, t73, t74, t75, t76, t77, t78, t79, t80, t81, t82, t83, t84, t85, t86, t87, t88, t89, t90, t91, t92, t93, t94, t95, t96, y 97, y 98, y 99, y 100, y 101, y 102, y 103, y 104, y 105, y 106, y 107, y 108, y 109, y 110, y 111, y 112, y 113, t114, t115, t116, t117, t118, t119, t120, t121, t122, t123, t124, t125, t126, t127, t128, t129, t130, t131, t132, t133, t134, t135, t136, t137, t138, t139, t140, t141, t142, t143, t144, t145, t146, t147, t148, t149, t150, t151, t152, t153, t154, t155, t156, t157, t158, t159, t160, t161, t162, t163, t164, t165, t166, t167, t168, t169, t170, t171, t172, t173, t174, t175, t176, t177, t178, t179, t180, t181, t182, t183, t184, t185, t186, t187, t188, t189, t190, t191, t192, t193, t194, t195, t196, t197, t198, t199, t200, t201, t202, t203, t204, t205, t206, t207, t208, t209, t210, t211, t212, t213, t214, t215, t216, t217, t218, t219, t220, t221, t222, t223, t224, t225, t226, t227, t228, t229, t230, t231, t232, t233, t234, t235, t236, t237, t238, t239, t240, t241, t242, t243, t244, t245, t246, t247, t248, t249, t250, t251, t252, t253, t254, t255, t256, t257, t258, t259, t260, t261, t262, t263, t264], ds⟩ w') :
    (regOf Tryz.f3 20).wp Tryz.prog Q ⟨#[.slice A l.length c, t1, t2, t3, t4, t5, t6, t7, t8, t9, .slice AC C.length cC, t11, .int .i64 k, t13, t14, t15, t16, t17, t18, t19, t20, t21, t22, t23, t24, t25, t26, t27, t28, t29, t30, t31, t32, t33, t34, t35, t36, t37, t38, t39, t40, t41, t42, t43, t44, t45, t46, t47, t48, t49, t50, t51, t52, t53, t54, t55, t56, t57, t58, t59, t60, t61, t62, t63, t64, t65, t66, t67, t68, t69, t70, t71, t72, t73, t74, t75, t76, t77, t78, t79, t80, t81, t82, t83, t84, t85, t86, t87, t88, t89, t90, t91, t92, t93, t94, t95, t96, t97, t98, t99, t100, t101, t102, t103, t104, t105, t106, t107, t108, t109, t110, t111, t112, t113, t114, t115, t116, t117, t118, t119, t120, t121, t122, t123, t124, t125, t126, t127, t128, t129, t130, t131, t132, t133, t134, t135, t136, t137, t138, t139, t140, t141, t142, t143, t144, t145, t146, t147, t148, t149, t150, t151, t152, t153, t154, t155, t156, t157, t158, t159, t160, t161, t162, t163, t164, t165, t166, t167, t168, t169, t170, t171, t172, t173, t174, t175, t176, t177, t178, t179, t180, t181, t182, t183, t184, t185, t186, t187, t188, t189, t190, t191, t192, t193, t194, t195, t196, t197, t198, t199, t200, t201, t202, t203, t204, t205, t206, t207, t208, t209, t210, t211, t212, t213, t214, t215, t216, t217, t218, t219, t220, t221, t222, t223, t224, t225, t226, t227, t228, t229, t230, t231, t232, t233, t234, t235, t236, t237, t238, t239, t240, t241, t242, t243, t244, t245, t246, t247, t248, t249, t250, t251, t252, t253, t254, t255, t256, t257, t258, t259, t260, t261, t262, t263, t264], ds⟩ W :=
  topReg20Z (z := (frA [(1, t1), (2, t2), (3, t3), (4, t4), (5, t5), (6, t6), (7, t7), (8, t8), (9, t9), (11, t11), (13, t13), (14, t14), (15, t15), (16, t16), (17, t17), (18, t18), (19, t19), (20, t20), (21, t21), (22, t22), (23, t23), (24, t24), (25, t25), (26, t26), (27, t27), (28, t28), (29, t29), (30, t30), (31, t31), (32, t32), (33, t33), (34, t34), (35, t35), (36, t36), (37, t37), (38, t38), (39, t39), (40, t40), (41, t41), (42, t42), (43, t43), (44, t44), (45, t45), (46, t46), (47, t47), (48, t48), (49, t49), (50, t50), (51, t51), (52, t52), (53, t53), (54, t54), (55, t55), (56, t56), (57, t57), (58, t58), (59, t59), (60, t60), (61, t61), (62, t62), (63, t63), (64, t64), (65, t65), (66, t66), (67, t67), (68, t68), (69, t69), (70, t70), (71, t71), (72, t72), (73, t73), (74, t74), (75, t75), (76, t76), (77, t77), (78, t78), (79, t79), (80, t80), (81, t81), (82, t82), (83, t83), (84, t84), (85, t85), (86, t86), (87, t87), (88, t88), (89, t89), (90, t90), (91, t91), (92, t92), (93, t93), (94, t94), (95, t95), (96, t96), (97, t97), (98, t98), (99, t99), (100, t100), (101, t101), (102, t102), (103, t103), (104, t104), (105, t105), (106, t106), (107, t107), (108, t108), (109, t109), (110, t110), (111, t111), (112, t112), (113, t113), (114, t114), (115, t115), (116, t116), (117, t117), (118, t118), (119, t119), (120, t120), (121, t121), (122, t122), (123, t123), (124, t124), (125, t125), (126, t126), (127, t127), (128, t128), (129, t129), (130, t130), (131, t131), (132, t132), (133, t133), (134, t134), (135, t135), (136, t136), (137, t137), (138, t138), (139, t139), (140, t140), (141, t141), (142, t142), (143, t143), (144, t144), (145, t145), (146, t146), (147, t147), (148, t148), (149, t149), (150, t150), (151, t151), (152, t152), (153, t153), (154, t154), (155, t155), (156, t156), (157, t157), (158, t158), (159, t159), (160, t160), (161, t161), (162, t162), (163, t163), (164, t164), (165, t165), (166, t166), (167, t167), (168, t168), (169, t169), (170, t170), (171, t171), (172, t172), (173, t173), (174, t174), (175, t175), (176, t176), (177, t177), (178, t178), (179, t179), (180, t180), (181, t181), (182, t182), (183, t183), (184, t184), (185, t185), (186, t186), (187, t187), (188, t188), (189, t189), (190, t190), (191, t191), (192, t192), (193, t193), (194, t194), (195, t195), (196, t196), (197, t197), (198, t198), (199, t199), (200, t200), (201, t201), (202, t202), (203, t203), (204, t204), (205, t205), (206, t206), (207, t207), (208, t208), (209, t209), (210, t210), (211, t211), (212, t212), (213, t213), (214, t214), (215, t215), (216, t216), (217, t217), (218, t218), (219, t219), (220, t220), (221, t221), (222, t222), (223, t223), (224, t224), (225, t225), (226, t226), (227, t227), (228, t228), (229, t229), (230, t230), (231, t231), (232, t232), (233, t233), (234, t234), (235, t235), (236, t236), (237, t237), (238, t238), (239, t239), (240, t240), (241, t241), (242, t242), (243, t243), (244, t244), (245, t245), (246, t246), (247, t247), (248, t248), (249, t249), (250, t250), (251, t251), (252, t252), (253, t253), (254, t254), (255, t255), (256, t256), (257, t257), (258, t258), (259, t259), (260, t260), (261, t261), (262, t262), (263, t263), (264, t264)])) l A AC c cC B C HL hC hB HG hk x hx hs Q h

set_option maxRecDepth 100000 in
set_option maxHeartbeats 32000000 in
theorem topReg21Z {W : World} {k q g4 z5 : Nat} {x : Int × Int} {d0 d1 lv : Int} (b13 : Blk W q 42 #[.slice (some ⟨g4, 0, none⟩) 1 1, .int .i64 x.1, .int .i64 x.2, .int .i64 lv]) (b5 : Blk W z5 26 #[.int .i64 d0, .int .i64 d1]) (rx : Row W W.heap.size 2 (some ⟨g4, 0, none⟩) [x].length (cellsC [x])) (hk : k < 20) (hs : inS x) (h0 : 1 ≤ d0 ∧ d0 ≤ 10000) (h1 : 1 ≤ d1 ∧ d1 ≤ 10000) (hlv : 0 ≤ lv ∧ lv ≤ 1000000000) {z : Nat → Value} {ds : List Deferred} (Q : Exit → Act → World → Prop)
    (h : ∀ (y : Nat → Value) (q14 : Nat) (w' : World), Gr W w' → W.heap.size ≤ q14 → Blk w' q14 46 (mkC (cellMk d0 d1 x (nmV k) lv)) → Q .normal ⟨#[z 0, z 1, z 2, z 3, z 4, .pointer (some ⟨z5, 0, none⟩), z 6, z 7, z 8, z 9, z 10, z 11, .int .i64 k, .pointer (some ⟨q, 0, none⟩), .pointer (some ⟨q14, 0, none⟩), .int .i64 0, z 16, z 17, z 18, z 19, z 20, z 21, z 22, z 23, z 24, z 25, z 26, z 27, z 28, z 29, z 30, z 31, z 32, z 33, z 34, z 35, z 36, z 37, z 38, z 39, z 40, z 41, z 42, z 43, z 44, z 45, z 46, z 47, z 48, z 49, z 50, z 51, z 52, z 53, z 54, z 55, z 56, z 57, z 58, z 59, z 60, z 61, z 62, z 63, z 64, z 65, z 66, z 67, z 68, z 69, z 70, z 71, z 72, z 73, z 74, z 75, z 76, z 77, z 78, z 79, z 80, z 81, z 82, z 83, z 84, z 85, z 86, z 87, z 88, z 89, z 90, z 91, z 92, z 93, z 94, z 95, z 96, z 97, z 98, z 99, z 100, z 101, z 102, z 103, z 104, z 105, z 106, z 107, z 108, z 109, z 110, z 111, z 112, z 113, y 114, y 115, y 116, y 117, y 118, y 119, y 120, y 121, y 122, z 123, z 124, z 125, z 126, z 127, z 128, z 129, z 130, z 131, z 132, z 133, z 134, z 135, z 136, z 137, z 138, z 139, z 140, z 141, z 142, z 143, z 144, z 145, z 146, z 147, z 148, z 149, z 150, z 151, z 152, z 153, z 154, z 155, z 156, z 157, z 158, z 159, z 160, z 161, z 162, z 163, z 164, z 165, z 166, z 167, z 168, z 169, z 170, z 171, z 172, z 173, z 174, z 175, z 176, z 177, z 178, z 179, z 180, z 181, z 182, z 183, z 184, z 185, z 186, z 187, z 188, z 189, z 190, z 191, z 192, z 193, z 194, z 195, z 196, z 197, z 198, z 199, z 200, z 201, z 202, z 203, z 204, z 205, z 206, z 207, z 208, z 209, z 210, z 211, z 212, z 213, z 214, z 215, z 216, z 217, z 218, z 219, z 220, z 221, z 222, z 223, z 224, z 225, z 226, z 227, z 228, z 229, z 230, z 231, z 232, z 233, z 234, z 235, z 236, z 237, z 238, z 239, z 240, z 241, z 242, z 243, z 244, z 245, z 246, z 247, z 248, z 249, z 250, z 251, z 252, z 253, z 254, z 255, z 256, z 257, z 258, z 259, z 260, z 261, z 262, z 263, z 264], ds⟩ w') :
    (regOf Tryz.f3 21).wp Tryz.prog Q ⟨#[z 0, z 1, z 2, z 3, z 4, .pointer (some ⟨z5, 0, none⟩), z 6, z 7, z 8, z 9, z 10, z 11, .int .i64 k, .pointer (some ⟨q, 0, none⟩), z 14, z 15, z 16, z 17, z 18, z 19, z 20, z 21, z 22, z 23, z 24, z 25, z 26, z 27, z 28, z 29, z 30, z 31, z 32, z 33, z 34, z 35, z 36, z 37, z 38, z 39, z 40, z 41, z 42, z 43, z 44, z 45, z 46, z 47, z 48, z 49, z 50, z 51, z 52, z 53, z 54, z 55, z 56, z 57, z 58, z 59, z 60, z 61, z 62, z 63, z 64, z 65, z 66, z 67, z 68, z 69, z 70, z 71, z 72, z 73, z 74, z 75, z 76, z 77, z 78, z 79, z 80, z 81, z 82, z 83, z 84, z 85, z 86, z 87, z 88, z 89, z 90, z 91, z 92, z 93, z 94, z 95, z 96, z 97, z 98, z 99, z 100, z 101, z 102, z 103, z 104, z 105, z 106, z 107, z 108, z 109, z 110, z 111, z 112, z 113, z 114, z 115, z 116, z 117, z 118, z 119, z 120, z 121, z 122, z 123, z 124, z 125, z 126, z 127, z 128, z 129, z 130, z 131, z 132, z 133, z 134, z 135, z 136, z 137, z 138, z 139, z 140, z 141, z 142, z 143, z 144, z 145, z 146, z 147, z 148, z 149, z 150, z 151, z 152, z 153, z 154, z 155, z 156, z 157, z 158, z 159, z 160, z 161, z 162, z 163, z 164, z 165, z 166, z 167, z 168, z 169, z 170, z 171, z 172, z 173, z 174, z 175, z 176, z 177, z 178, z 179, z 180, z 181, z 182, z 183, z 184, z 185, z 186, z 187, z 188, z 189, z 190, z 191, z 192, z 193, z 194, z 195, z 196, z 197, z 198, z 199, z 200, z 201, z 202, z 203, z 204, z 205, z 206, z 207, z 208, z 209, z 210, z 211, z 212, z 213, z 214, z 215, z 216, z 217, z 218, z 219, z 220, z 221, z 222, z 223, z 224, z 225, z 226, z 227, z 228, z 229, z 230, z 231, z 232, z 233, z 234, z 235, z 236, z 237, z 238, z 239, z 240, z 241, z 242, z 243, z 244, z 245, z 246, z 247, z 248, z 249, z 250, z 251, z 252, z 253, z 254, z 255, z 256, z 257, z 258, z 259, z 260, z 261, z 262, z 263, z 264], ds⟩ W := by
  have H := Lib.hid h; clear h
  obtain ⟨e0, e1, e2, e3, ef⟩ := blk4 b13
  obtain ⟨g0, g1, gf⟩ := blk2c b5
  have l13 := b13.lt
  have l5 := b5.lt
  have HMO := Lib.hid (markOfV_cell (d0 := d0) (d1 := d1) (lv := lv) (nm := nmV k) hs h0 h1 (nmV_ok k hk) hlv)
  have hns := nmV_size k hk
  have hsz : ¬ (9223372036854775807 < 1 + (dgV (k : Int)).size) := by have := dgV_size (k : Int); omega
  have rx : Row W.drew W.drew.heap.size 2 (some ⟨g4, 0, none⟩) [x].length (cellsC [x]) := rx
  conv in (regOf _ _) => whnf
  refine wp_region_w (Gr _) (by kernel_rfl) (Below.refl _ _).drew ?_
  refine wpW_det (t' := ?ct0R279) 0 (by rfl) (by kernel_rfl) (NQ_free _) (by kernel_rfl) ?cw0R279 ?ch0R279 ?ca0R279 (Eq.refl _) ?cH0R279
  case cw0R279 => (go_simp; done)
  case ch0R279 =>
    intro ds w' hS K hK
    have hc := (bcell hS).1
    have hf := (bcell hS).2
    have hz := hS.size
    try simp at hz
    go_simp
    try go_bits
    first
      | exact hK _ hS (Gr.refl _)
      | exact hK _ (by repeat (first | (with_reducible exact Below.refl _ _) | (with_reducible assumption) | ((with_reducible refine Below.setCell ?_ ?_ _); rotate_left; · (first | exact Nat.le_refl _ | (simp; done) | (simp; omega) | omega)) | ((with_reducible refine Below.alloc ?_ ?_ _); rotate_left; · (first | exact Nat.le_refl _ | (simp; done) | (simp; omega) | omega)) | (with_reducible apply Below.drew) | (with_reducible apply below_drewN') | (refine Below.trans ?_ (Below.mono (by assumption) (by first | exact Nat.le_refl _ | (simp; done) | (simp; omega) | omega))) | exact Below.refl _ _ | assumption)) (by repeat (first | (with_reducible exact Below.refl _ _) | (with_reducible assumption) | ((with_reducible refine Below.setCell ?_ ?_ _); rotate_left; · (first | exact Nat.le_refl _ | (simp; done) | (simp; omega) | omega)) | ((with_reducible refine Below.alloc ?_ ?_ _); rotate_left; · (first | exact Nat.le_refl _ | (simp; done) | (simp; omega) | omega)) | (with_reducible apply Below.drew) | (with_reducible apply below_drewN') | (refine Below.trans ?_ (Below.mono (by assumption) (by first | exact Nat.le_refl _ | (simp; done) | (simp; omega) | omega))) | exact Below.refl _ _ | assumption))
  case ca0R279 => (first | (simp [Act.put]; done) | (simp [Act.put, *]; done))
  try dsimp only
  refine wpW_det (t' := ?ct1R279) 1 (by rfl) (by kernel_rfl) (NQ_free _) (by kernel_rfl) ?cw1R279 ?ch1R279 ?ca1R279 (Eq.refl _) ?cH1R279
  case cw1R279 => (go_simp; done)
  case ch1R279 =>
    intro ds w' hS K hK
    have hc := (bcell hS).1
    have hf := (bcell hS).2
    have hz := hS.size
    try simp at hz
    go_simp
    try go_bits
    first
      | exact hK _ hS (Gr.refl _)
      | exact hK _ (by repeat (first | (with_reducible exact Below.refl _ _) | (with_reducible assumption) | ((with_reducible refine Below.setCell ?_ ?_ _); rotate_left; · (first | exact Nat.le_refl _ | (simp; done) | (simp; omega) | omega)) | ((with_reducible refine Below.alloc ?_ ?_ _); rotate_left; · (first | exact Nat.le_refl _ | (simp; done) | (simp; omega) | omega)) | (with_reducible apply Below.drew) | (with_reducible apply below_drewN') | (refine Below.trans ?_ (Below.mono (by assumption) (by first | exact Nat.le_refl _ | (simp; done) | (simp; omega) | omega))) | exact Below.refl _ _ | assumption)) (by repeat (first | (with_reducible exact Below.refl _ _) | (with_reducible assumption) | ((with_reducible refine Below.setCell ?_ ?_ _); rotate_left; · (first | exact Nat.le_refl _ | (simp; done) | (simp; omega) | omega)) | ((with_reducible refine Below.alloc ?_ ?_ _); rotate_left; · (first | exact Nat.le_refl _ | (simp; done) | (simp; omega) | omega)) | (with_reducible apply Below.drew) | (with_reducible apply below_drewN') | (refine Below.trans ?_ (Below.mono (by assumption) (by first | exact Nat.le_refl _ | (simp; done) | (simp; omega) | omega))) | exact Below.refl _ _ | assumption))
  case ca1R279 => (first | (simp [Act.put]; done) | (simp [Act.put, *]; done))
  try dsimp only
  refine wpW_det (t' := ?ct2R279) 2 (by rfl) (by kernel_rfl) (NQ_free _) (by kernel_rfl) ?cw2R279 ?ch2R279 ?ca2R279 (Eq.refl _) ?cH2R279
  case cw2R279 => (go_simp; done)
  case ch2R279 =>
    intro ds w' hS K hK
    have hc := (bcell hS).1
    have hf := (bcell hS).2
    have hz := hS.size
    try simp at hz
    go_simp
    try go_bits
    first
      | exact hK _ hS (Gr.refl _)
      | exact hK _ (by repeat (first | (with_reducible exact Below.refl _ _) | (with_reducible assumption) | ((with_reducible refine Below.setCell ?_ ?_ _); rotate_left; · (first | exact Nat.le_refl _ | (simp; done) | (simp; omega) | omega)) | ((with_reducible refine Below.alloc ?_ ?_ _); rotate_left; · (first | exact Nat.le_refl _ | (simp; done) | (simp; omega) | omega)) | (with_reducible apply Below.drew) | (with_reducible apply below_drewN') | (refine Below.trans ?_ (Below.mono (by assumption) (by first | exact Nat.le_refl _ | (simp; done) | (simp; omega) | omega))) | exact Below.refl _ _ | assumption)) (by repeat (first | (with_reducible exact Below.refl _ _) | (with_reducible assumption) | ((with_reducible refine Below.setCell ?_ ?_ _); rotate_left; · (first | exact Nat.le_refl _ | (simp; done) | (simp; omega) | omega)) | ((with_reducible refine Below.alloc ?_ ?_ _); rotate_left; · (first | exact Nat.le_refl _ | (simp; done) | (simp; omega) | omega)) | (with_reducible apply Below.drew) | (with_reducible apply below_drewN') | (refine Below.trans ?_ (Below.mono (by assumption) (by first | exact Nat.le_refl _ | (simp; done) | (simp; omega) | omega))) | exact Below.refl _ _ | assumption))
  case ca2R279 => (first | (simp [Act.put]; done) | (simp [Act.put, *]; done))
  try dsimp only
  clear e0 e1 e2 e3 ef g0 g1 gf l13 l5 b13 b5
  refine wpW_branch [3, 9] (by kernel_rfl) (by simp) ?_
  intro w1 hg1 hS1
  try replace rx := Row.gr rx hg1
  try replace b14 := b14.gr hg1
  clear hg1
  refine each_cons ?_ (each_cons ?_ (each_nil))
  · refine wpOp_go (by rfl) (Eq.refl _) (by go_simp; done) ?_
    intro K hK
    go_simp
    try simp only [Act.put]
    refine (decimal_any (k : Int) (by omega) (by omega) _).mono ?_
    rintro e ws ⟨rfl, hBs⟩
    replace rx := Row.gr rx hBs
    try replace b14 := b14.gr hBs
    refine hK _ _ (Gr.trans hS1 hBs) ?_
    clear hK K hBs
    refine wpW_det (t' := ?ct4R280) 4 (by rfl) (by kernel_rfl) (NQ_free _) (by kernel_rfl) ?cw4R280 ?ch4R280 ?ca4R280 (Eq.refl _) ?cH4R280
    case cw4R280 => (go_simp; done)
    case ch4R280 =>
      intro ds w' hS K hK
      have hc := (bcell hS).1
      have hf := (bcell hS).2
      have hz := hS.size
      try simp at hz
      go_simp
      try go_bits
      first
        | exact hK _ hS (Gr.refl _)
        | exact hK _ (by repeat (first | (with_reducible exact Below.refl _ _) | (with_reducible assumption) | ((with_reducible refine Below.setCell ?_ ?_ _); rotate_left; · (first | exact Nat.le_refl _ | (simp; done) | (simp; omega) | omega)) | ((with_reducible refine Below.alloc ?_ ?_ _); rotate_left; · (first | exact Nat.le_refl _ | (simp; done) | (simp; omega) | omega)) | (with_reducible apply Below.drew) | (with_reducible apply below_drewN') | (refine Below.trans ?_ (Below.mono (by assumption) (by first | exact Nat.le_refl _ | (simp; done) | (simp; omega) | omega))) | exact Below.refl _ _ | assumption)) (by repeat (first | (with_reducible exact Below.refl _ _) | (with_reducible assumption) | ((with_reducible refine Below.setCell ?_ ?_ _); rotate_left; · (first | exact Nat.le_refl _ | (simp; done) | (simp; omega) | omega)) | ((with_reducible refine Below.alloc ?_ ?_ _); rotate_left; · (first | exact Nat.le_refl _ | (simp; done) | (simp; omega) | omega)) | (with_reducible apply Below.drew) | (with_reducible apply below_drewN') | (refine Below.trans ?_ (Below.mono (by assumption) (by first | exact Nat.le_refl _ | (simp; done) | (simp; omega) | omega))) | exact Below.refl _ _ | assumption))
    case ca4R280 => (first | (simp [Act.put]; done) | (simp [Act.put, *]; done))
    try dsimp only
    refine wpW_branch [5, 9] (by kernel_rfl) (by simp) ?_
    intro w2 hg2 hS2
    try replace rx := Row.gr rx hg2
    try replace b14 := b14.gr hg2
    clear hg2
    refine each_cons ?_ (each_cons ?_ (each_nil))
    · refine wpOp_go (by rfl) (Eq.refl _) (by go_simp; done) ?_
      intro K hK
      go_simp
      try simp only [Act.put]
      refine (markOf_any [x] (some ⟨g4, 0, none⟩) 1 _ x.1 x.2 lv d0 d1 (nmV k) _ rx (Nat.le_refl _) (by simp) (by omega)).mono ?_
      rw [HMO.out]
      rintro e ws ⟨rfl, hBs⟩
      try replace b14 := b14.gr hBs
      refine hK _ _ (Gr.trans hS2 hBs) ?_
      clear hK K hBs rx
      refine wpW_det (t' := ?ct6R281) 6 (by rfl) (by kernel_rfl) (NQ_free _) (by kernel_rfl) ?cw6R281 ?ch6R281 ?ca6R281 (Eq.refl _) ?cH6R281
      case cw6R281 => (go_simp; done)
      case ch6R281 =>
        intro ds w' hS K hK
        have hc := (bcell hS).1
        have hf := (bcell hS).2
        have hz := hS.size
        try simp at hz
        go_simp
        try go_bits
        first
          | exact hK _ hS (Gr.refl _)
          | exact hK _ (by repeat (first | (with_reducible exact Below.refl _ _) | (with_reducible assumption) | ((with_reducible refine Below.setCell ?_ ?_ _); rotate_left; · (first | exact Nat.le_refl _ | (simp; done) | (simp; omega) | omega)) | ((with_reducible refine Below.alloc ?_ ?_ _); rotate_left; · (first | exact Nat.le_refl _ | (simp; done) | (simp; omega) | omega)) | (with_reducible apply Below.drew) | (with_reducible apply below_drewN') | (refine Below.trans ?_ (Below.mono (by assumption) (by first | exact Nat.le_refl _ | (simp; done) | (simp; omega) | omega))) | exact Below.refl _ _ | assumption)) (by repeat (first | (with_reducible exact Below.refl _ _) | (with_reducible assumption) | ((with_reducible refine Below.setCell ?_ ?_ _); rotate_left; · (first | exact Nat.le_refl _ | (simp; done) | (simp; omega) | omega)) | ((with_reducible refine Below.alloc ?_ ?_ _); rotate_left; · (first | exact Nat.le_refl _ | (simp; done) | (simp; omega) | omega)) | (with_reducible apply Below.drew) | (with_reducible apply below_drewN') | (refine Below.trans ?_ (Below.mono (by assumption) (by first | exact Nat.le_refl _ | (simp; done) | (simp; omega) | omega))) | exact Below.refl _ _ | assumption))
      case ca6R281 => (first | (simp [Act.put]; done) | (simp [Act.put, *]; done))
      try dsimp only
      refine wpW_det (t' := ?ct7R281) 7 (by rfl) (by kernel_rfl) (NQ_free _) (by kernel_rfl) ?cw7R281 ?ch7R281 ?ca7R281 (Eq.refl _) ?cH7R281
      case cw7R281 => (go_simp; done)
      case ch7R281 =>
        intro ds w' hS K hK
        have hc := (bcell hS).1
        have hf := (bcell hS).2
        have hz := hS.size
        try simp at hz
        go_simp
        try go_bits
        first
          | exact hK _ hS (Gr.refl _)
          | exact hK _ (by repeat (first | (with_reducible exact Below.refl _ _) | (with_reducible assumption) | ((with_reducible refine Below.setCell ?_ ?_ _); rotate_left; · (first | exact Nat.le_refl _ | (simp; done) | (simp; omega) | omega)) | ((with_reducible refine Below.alloc ?_ ?_ _); rotate_left; · (first | exact Nat.le_refl _ | (simp; done) | (simp; omega) | omega)) | (with_reducible apply Below.drew) | (with_reducible apply below_drewN') | (refine Below.trans ?_ (Below.mono (by assumption) (by first | exact Nat.le_refl _ | (simp; done) | (simp; omega) | omega))) | exact Below.refl _ _ | assumption)) (by repeat (first | (with_reducible exact Below.refl _ _) | (with_reducible assumption) | ((with_reducible refine Below.setCell ?_ ?_ _); rotate_left; · (first | exact Nat.le_refl _ | (simp; done) | (simp; omega) | omega)) | ((with_reducible refine Below.alloc ?_ ?_ _); rotate_left; · (first | exact Nat.le_refl _ | (simp; done) | (simp; omega) | omega)) | (with_reducible apply Below.drew) | (with_reducible apply below_drewN') | (refine Below.trans ?_ (Below.mono (by assumption) (by first | exact Nat.le_refl _ | (simp; done) | (simp; omega) | omega))) | exact Below.refl _ _ | assumption))
      case ca7R281 => (first | (simp [Act.put]; done) | (simp [Act.put, *]; done))
      try dsimp only
      refine wpW_det (t' := ?ct8R281) 8 (by rfl) (by kernel_rfl) (NQ_free _) (by kernel_rfl) ?cw8R281 ?ch8R281 ?ca8R281 (Eq.refl _) ?cH8R281
      case cw8R281 => (go_simp; done)
      case ch8R281 =>
        intro ds w' hS K hK
        have hc := (bcell hS).1
        have hf := (bcell hS).2
        have hz := hS.size
        try simp at hz
        go_simp
        try go_bits
        first
          | exact hK _ hS (Gr.refl _)
          | exact hK _ (by repeat (first | (with_reducible exact Below.refl _ _) | (with_reducible assumption) | ((with_reducible refine Below.setCell ?_ ?_ _); rotate_left; · (first | exact Nat.le_refl _ | (simp; done) | (simp; omega) | omega)) | ((with_reducible refine Below.alloc ?_ ?_ _); rotate_left; · (first | exact Nat.le_refl _ | (simp; done) | (simp; omega) | omega)) | (with_reducible apply Below.drew) | (with_reducible apply below_drewN') | (refine Below.trans ?_ (Below.mono (by assumption) (by first | exact Nat.le_refl _ | (simp; done) | (simp; omega) | omega))) | exact Below.refl _ _ | assumption)) (by repeat (first | (with_reducible exact Below.refl _ _) | (with_reducible assumption) | ((with_reducible refine Below.setCell ?_ ?_ _); rotate_left; · (first | exact Nat.le_refl _ | (simp; done) | (simp; omega) | omega)) | ((with_reducible refine Below.alloc ?_ ?_ _); rotate_left; · (first | exact Nat.le_refl _ | (simp; done) | (simp; omega) | omega)) | (with_reducible apply Below.drew) | (with_reducible apply below_drewN') | (refine Below.trans ?_ (Below.mono (by assumption) (by first | exact Nat.le_refl _ | (simp; done) | (simp; omega) | omega))) | exact Below.refl _ _ | assumption))
      case ca8R281 => (first | (simp [Act.put]; done) | (simp [Act.put, *]; done))
      try dsimp only
      refine wpW_branch [9] (by kernel_rfl) (by simp) ?_
      intro w3 hg3 hS3
      try replace rx := Row.gr rx hg3
      try replace b14 := b14.gr hg3
      clear hg3
      refine each_cons ?_ (each_nil)
      · refine wpOp_go (by rfl) (Eq.refl _) (by go_simp; done) ?_
        intro K hK
        go_simp
        try simp only [Act.put]
        have b14 := Blk.new w3 46 (mkC mk0)
        have hgA : Gr w3 (w3.alloc (.cells (mkC mk0) 46)) := (Below.refl _ _).alloc (Nat.le_refl _) _
        try replace rx := Row.gr rx hgA
        have hq14 := Below.size hS3
        obtain ⟨N14, hN14⟩ : ∃ N, w3.heap.size = N := ⟨_, rfl⟩
        rw [hN14] at b14 hq14 ⊢
        refine hK _ _ (Gr.trans hS3 hgA) ?_
        clear hK K hgA hN14
        refine wpW_branch [10] (by kernel_rfl) (by simp) ?_
        intro w4 hg4 hS4
        try replace rx := Row.gr rx hg4
        try replace b14 := b14.gr hg4
        clear hg4
        refine each_cons ?_ (each_nil)
        · refine wpOp_go (by rfl) (Eq.refl _) (by go_simp; done) ?_
          intro K hK
          obtain ⟨z0, z1, z2, z3, z4, z5', zf⟩ := blk6 b14
          have l14 := b14.lt
          go_simp
          try simp only [Act.put]
          replace b14 := b14.set6 (.string (nmV k)) (.int .i64 (x.1 * d0)) (.int .i64 ((x.1 + 1) * d0)) (.int .i64 (x.2 * d1)) (.int .i64 ((x.2 + 1) * d1)) (.int .i64 lv)
          have hg14 : Gr W _ := Below.set6 (u0 := .string (nmV k)) (u1 := .int .i64 (x.1 * d0)) (u2 := .int .i64 ((x.1 + 1) * d0)) (u3 := .int .i64 (x.2 * d1)) (u4 := .int .i64 ((x.2 + 1) * d1)) (u5 := .int .i64 lv) hS4 hq14
          refine hK _ _ hg14 ?_
          clear hK K z0 z1 z2 z3 z4 z5' zf l14
          refine wpW_det (t' := ?ct11R282) 11 (by rfl) (by kernel_rfl) (NQ_free _) (by kernel_rfl) ?cw11R282 ?ch11R282 ?ca11R282 (Eq.refl _) ?cH11R282
          case cw11R282 => (go_simp; done)
          case ch11R282 =>
            intro ds w' hS K hK
            have hc := (bcell hS).1
            have hf := (bcell hS).2
            have hz := hS.size
            try simp at hz
            go_simp
            try go_bits
            first
              | exact hK _ hS (Gr.refl _)
              | exact hK _ (by repeat (first | (with_reducible exact Below.refl _ _) | (with_reducible assumption) | ((with_reducible refine Below.setCell ?_ ?_ _); rotate_left; · (first | exact Nat.le_refl _ | (simp; done) | (simp; omega) | omega)) | ((with_reducible refine Below.alloc ?_ ?_ _); rotate_left; · (first | exact Nat.le_refl _ | (simp; done) | (simp; omega) | omega)) | (with_reducible apply Below.drew) | (with_reducible apply below_drewN') | (refine Below.trans ?_ (Below.mono (by assumption) (by first | exact Nat.le_refl _ | (simp; done) | (simp; omega) | omega))) | exact Below.refl _ _ | assumption)) (by repeat (first | (with_reducible exact Below.refl _ _) | (with_reducible assumption) | ((with_reducible refine Below.setCell ?_ ?_ _); rotate_left; · (first | exact Nat.le_refl _ | (simp; done) | (simp; omega) | omega)) | ((with_reducible refine Below.alloc ?_ ?_ _); rotate_left; · (first | exact Nat.le_refl _ | (simp; done) | (simp; omega) | omega)) | (with_reducible apply Below.drew) | (with_reducible apply below_drewN') | (refine Below.trans ?_ (Below.mono (by assumption) (by first | exact Nat.le_refl _ | (simp; done) | (simp; omega) | omega))) | exact Below.refl _ _ | assumption))
          case ca11R282 => (first | (simp [Act.put]; done) | (simp [Act.put, *]; done))
          try dsimp only
          refine wpW_end (by kernel_rfl) ?_
          intro we hg hS
          unfold NQ
          dsimp only
          exact H.out (frA [(114, _), (115, _), (116, _), (117, _), (118, _), (119, _), (120, _), (121, _), (122, _)]) N14 we hS hq14 (b14.gr hg)
    · refine wpOp_go (by rfl) (Eq.refl _) (by go_simp; done) ?_
      intro K hK
      go_simp
      try simp only [Act.put]
      have b14 := Blk.new w2 46 (mkC mk0)
      have hgA : Gr w2 (w2.alloc (.cells (mkC mk0) 46)) := (Below.refl _ _).alloc (Nat.le_refl _) _
      try replace rx := Row.gr rx hgA
      have hq14 := Below.size hS2
      obtain ⟨N14, hN14⟩ : ∃ N, w2.heap.size = N := ⟨_, rfl⟩
      rw [hN14] at b14 hq14 ⊢
      refine hK _ _ (Gr.trans hS2 hgA) ?_
      clear hK K hgA hN14
      refine wpW_branch [5] (by kernel_rfl) (by simp) ?_
      intro w3 hg3 hS3
      try replace rx := Row.gr rx hg3
      try replace b14 := b14.gr hg3
      clear hg3
      refine each_cons ?_ (each_nil)
      · refine wpOp_go (by rfl) (Eq.refl _) (by go_simp; done) ?_
        intro K hK
        go_simp
        try simp only [Act.put]
        refine (markOf_any [x] (some ⟨g4, 0, none⟩) 1 _ x.1 x.2 lv d0 d1 (nmV k) _ rx (Nat.le_refl _) (by simp) (by omega)).mono ?_
        rw [HMO.out]
        rintro e ws ⟨rfl, hBs⟩
        try replace b14 := b14.gr hBs
        refine hK _ _ (Gr.trans hS3 hBs) ?_
        clear hK K hBs rx
        refine wpW_det (t' := ?ct6R283) 6 (by rfl) (by kernel_rfl) (NQ_free _) (by kernel_rfl) ?cw6R283 ?ch6R283 ?ca6R283 (Eq.refl _) ?cH6R283
        case cw6R283 => (go_simp; done)
        case ch6R283 =>
          intro ds w' hS K hK
          have hc := (bcell hS).1
          have hf := (bcell hS).2
          have hz := hS.size
          try simp at hz
          go_simp
          try go_bits
          first
            | exact hK _ hS (Gr.refl _)
            | exact hK _ (by repeat (first | (with_reducible exact Below.refl _ _) | (with_reducible assumption) | ((with_reducible refine Below.setCell ?_ ?_ _); rotate_left; · (first | exact Nat.le_refl _ | (simp; done) | (simp; omega) | omega)) | ((with_reducible refine Below.alloc ?_ ?_ _); rotate_left; · (first | exact Nat.le_refl _ | (simp; done) | (simp; omega) | omega)) | (with_reducible apply Below.drew) | (with_reducible apply below_drewN') | (refine Below.trans ?_ (Below.mono (by assumption) (by first | exact Nat.le_refl _ | (simp; done) | (simp; omega) | omega))) | exact Below.refl _ _ | assumption)) (by repeat (first | (with_reducible exact Below.refl _ _) | (with_reducible assumption) | ((with_reducible refine Below.setCell ?_ ?_ _); rotate_left; · (first | exact Nat.le_refl _ | (simp; done) | (simp; omega) | omega)) | ((with_reducible refine Below.alloc ?_ ?_ _); rotate_left; · (first | exact Nat.le_refl _ | (simp; done) | (simp; omega) | omega)) | (with_reducible apply Below.drew) | (with_reducible apply below_drewN') | (refine Below.trans ?_ (Below.mono (by assumption) (by first | exact Nat.le_refl _ | (simp; done) | (simp; omega) | omega))) | exact Below.refl _ _ | assumption))
        case ca6R283 => (first | (simp [Act.put]; done) | (simp [Act.put, *]; done))
        try dsimp only
        refine wpW_det (t' := ?ct7R283) 7 (by rfl) (by kernel_rfl) (NQ_free _) (by kernel_rfl) ?cw7R283 ?ch7R283 ?ca7R283 (Eq.refl _) ?cH7R283
        case cw7R283 => (go_simp; done)
        case ch7R283 =>
          intro ds w' hS K hK
          have hc := (bcell hS).1
          have hf := (bcell hS).2
          have hz := hS.size
          try simp at hz
          go_simp
          try go_bits
          first
            | exact hK _ hS (Gr.refl _)
            | exact hK _ (by repeat (first | (with_reducible exact Below.refl _ _) | (with_reducible assumption) | ((with_reducible refine Below.setCell ?_ ?_ _); rotate_left; · (first | exact Nat.le_refl _ | (simp; done) | (simp; omega) | omega)) | ((with_reducible refine Below.alloc ?_ ?_ _); rotate_left; · (first | exact Nat.le_refl _ | (simp; done) | (simp; omega) | omega)) | (with_reducible apply Below.drew) | (with_reducible apply below_drewN') | (refine Below.trans ?_ (Below.mono (by assumption) (by first | exact Nat.le_refl _ | (simp; done) | (simp; omega) | omega))) | exact Below.refl _ _ | assumption)) (by repeat (first | (with_reducible exact Below.refl _ _) | (with_reducible assumption) | ((with_reducible refine Below.setCell ?_ ?_ _); rotate_left; · (first | exact Nat.le_refl _ | (simp; done) | (simp; omega) | omega)) | ((with_reducible refine Below.alloc ?_ ?_ _); rotate_left; · (first | exact Nat.le_refl _ | (simp; done) | (simp; omega) | omega)) | (with_reducible apply Below.drew) | (with_reducible apply below_drewN') | (refine Below.trans ?_ (Below.mono (by assumption) (by first | exact Nat.le_refl _ | (simp; done) | (simp; omega) | omega))) | exact Below.refl _ _ | assumption))
        case ca7R283 => (first | (simp [Act.put]; done) | (simp [Act.put, *]; done))
        try dsimp only
        refine wpW_det (t' := ?ct8R283) 8 (by rfl) (by kernel_rfl) (NQ_free _) (by kernel_rfl) ?cw8R283 ?ch8R283 ?ca8R283 (Eq.refl _) ?cH8R283
        case cw8R283 => (go_simp; done)
        case ch8R283 =>
          intro ds w' hS K hK
          have hc := (bcell hS).1
          have hf := (bcell hS).2
          have hz := hS.size
          try simp at hz
          go_simp
          try go_bits
          first
            | exact hK _ hS (Gr.refl _)
            | exact hK _ (by repeat (first | (with_reducible exact Below.refl _ _) | (with_reducible assumption) | ((with_reducible refine Below.setCell ?_ ?_ _); rotate_left; · (first | exact Nat.le_refl _ | (simp; done) | (simp; omega) | omega)) | ((with_reducible refine Below.alloc ?_ ?_ _); rotate_left; · (first | exact Nat.le_refl _ | (simp; done) | (simp; omega) | omega)) | (with_reducible apply Below.drew) | (with_reducible apply below_drewN') | (refine Below.trans ?_ (Below.mono (by assumption) (by first | exact Nat.le_refl _ | (simp; done) | (simp; omega) | omega))) | exact Below.refl _ _ | assumption)) (by repeat (first | (with_reducible exact Below.refl _ _) | (with_reducible assumption) | ((with_reducible refine Below.setCell ?_ ?_ _); rotate_left; · (first | exact Nat.le_refl _ | (simp; done) | (simp; omega) | omega)) | ((with_reducible refine Below.alloc ?_ ?_ _); rotate_left; · (first | exact Nat.le_refl _ | (simp; done) | (simp; omega) | omega)) | (with_reducible apply Below.drew) | (with_reducible apply below_drewN') | (refine Below.trans ?_ (Below.mono (by assumption) (by first | exact Nat.le_refl _ | (simp; done) | (simp; omega) | omega))) | exact Below.refl _ _ | assumption))
        case ca8R283 => (first | (simp [Act.put]; done) | (simp [Act.put, *]; done))
        try dsimp only
        refine wpW_branch [10] (by kernel_rfl) (by simp) ?_
        intro w4 hg4 hS4
        try replace rx := Row.gr rx hg4
        try replace b14 := b14.gr hg4
        clear hg4
        refine each_cons ?_ (each_nil)
        · refine wpOp_go (by rfl) (Eq.refl _) (by go_simp; done) ?_
          intro K hK
          obtain ⟨z0, z1, z2, z3, z4, z5', zf⟩ := blk6 b14
          have l14 := b14.lt
          go_simp
          try simp only [Act.put]
          replace b14 := b14.set6 (.string (nmV k)) (.int .i64 (x.1 * d0)) (.int .i64 ((x.1 + 1) * d0)) (.int .i64 (x.2 * d1)) (.int .i64 ((x.2 + 1) * d1)) (.int .i64 lv)
          have hg14 : Gr W _ := Below.set6 (u0 := .string (nmV k)) (u1 := .int .i64 (x.1 * d0)) (u2 := .int .i64 ((x.1 + 1) * d0)) (u3 := .int .i64 (x.2 * d1)) (u4 := .int .i64 ((x.2 + 1) * d1)) (u5 := .int .i64 lv) hS4 hq14
          refine hK _ _ hg14 ?_
          clear hK K z0 z1 z2 z3 z4 z5' zf l14
          refine wpW_det (t' := ?ct11R284) 11 (by rfl) (by kernel_rfl) (NQ_free _) (by kernel_rfl) ?cw11R284 ?ch11R284 ?ca11R284 (Eq.refl _) ?cH11R284
          case cw11R284 => (go_simp; done)
          case ch11R284 =>
            intro ds w' hS K hK
            have hc := (bcell hS).1
            have hf := (bcell hS).2
            have hz := hS.size
            try simp at hz
            go_simp
            try go_bits
            first
              | exact hK _ hS (Gr.refl _)
              | exact hK _ (by repeat (first | (with_reducible exact Below.refl _ _) | (with_reducible assumption) | ((with_reducible refine Below.setCell ?_ ?_ _); rotate_left; · (first | exact Nat.le_refl _ | (simp; done) | (simp; omega) | omega)) | ((with_reducible refine Below.alloc ?_ ?_ _); rotate_left; · (first | exact Nat.le_refl _ | (simp; done) | (simp; omega) | omega)) | (with_reducible apply Below.drew) | (with_reducible apply below_drewN') | (refine Below.trans ?_ (Below.mono (by assumption) (by first | exact Nat.le_refl _ | (simp; done) | (simp; omega) | omega))) | exact Below.refl _ _ | assumption)) (by repeat (first | (with_reducible exact Below.refl _ _) | (with_reducible assumption) | ((with_reducible refine Below.setCell ?_ ?_ _); rotate_left; · (first | exact Nat.le_refl _ | (simp; done) | (simp; omega) | omega)) | ((with_reducible refine Below.alloc ?_ ?_ _); rotate_left; · (first | exact Nat.le_refl _ | (simp; done) | (simp; omega) | omega)) | (with_reducible apply Below.drew) | (with_reducible apply below_drewN') | (refine Below.trans ?_ (Below.mono (by assumption) (by first | exact Nat.le_refl _ | (simp; done) | (simp; omega) | omega))) | exact Below.refl _ _ | assumption))
          case ca11R284 => (first | (simp [Act.put]; done) | (simp [Act.put, *]; done))
          try dsimp only
          refine wpW_end (by kernel_rfl) ?_
          intro we hg hS
          unfold NQ
          dsimp only
          exact H.out (frA [(114, _), (115, _), (116, _), (117, _), (118, _), (119, _), (120, _), (121, _), (122, _)]) N14 we hS hq14 (b14.gr hg)
  · refine wpOp_go (by rfl) (Eq.refl _) (by go_simp; done) ?_
    intro K hK
    go_simp
    try simp only [Act.put]
    have b14 := Blk.new w1 46 (mkC mk0)
    have hgA : Gr w1 (w1.alloc (.cells (mkC mk0) 46)) := (Below.refl _ _).alloc (Nat.le_refl _) _
    try replace rx := Row.gr rx hgA
    have hq14 := Below.size hS1
    obtain ⟨N14, hN14⟩ : ∃ N, w1.heap.size = N := ⟨_, rfl⟩
    rw [hN14] at b14 hq14 ⊢
    refine hK _ _ (Gr.trans hS1 hgA) ?_
    clear hK K hgA hN14
    refine wpW_branch [3] (by kernel_rfl) (by simp) ?_
    intro w2 hg2 hS2
    try replace rx := Row.gr rx hg2
    try replace b14 := b14.gr hg2
    clear hg2
    refine each_cons ?_ (each_nil)
    · refine wpOp_go (by rfl) (Eq.refl _) (by go_simp; done) ?_
      intro K hK
      go_simp
      try simp only [Act.put]
      refine (decimal_any (k : Int) (by omega) (by omega) _).mono ?_
      rintro e ws ⟨rfl, hBs⟩
      replace rx := Row.gr rx hBs
      try replace b14 := b14.gr hBs
      refine hK _ _ (Gr.trans hS2 hBs) ?_
      clear hK K hBs
      refine wpW_det (t' := ?ct4R285) 4 (by rfl) (by kernel_rfl) (NQ_free _) (by kernel_rfl) ?cw4R285 ?ch4R285 ?ca4R285 (Eq.refl _) ?cH4R285
      case cw4R285 => (go_simp; done)
      case ch4R285 =>
        intro ds w' hS K hK
        have hc := (bcell hS).1
        have hf := (bcell hS).2
        have hz := hS.size
        try simp at hz
        go_simp
        try go_bits
        first
          | exact hK _ hS (Gr.refl _)
          | exact hK _ (by repeat (first | (with_reducible exact Below.refl _ _) | (with_reducible assumption) | ((with_reducible refine Below.setCell ?_ ?_ _); rotate_left; · (first | exact Nat.le_refl _ | (simp; done) | (simp; omega) | omega)) | ((with_reducible refine Below.alloc ?_ ?_ _); rotate_left; · (first | exact Nat.le_refl _ | (simp; done) | (simp; omega) | omega)) | (with_reducible apply Below.drew) | (with_reducible apply below_drewN') | (refine Below.trans ?_ (Below.mono (by assumption) (by first | exact Nat.le_refl _ | (simp; done) | (simp; omega) | omega))) | exact Below.refl _ _ | assumption)) (by repeat (first | (with_reducible exact Below.refl _ _) | (with_reducible assumption) | ((with_reducible refine Below.setCell ?_ ?_ _); rotate_left; · (first | exact Nat.le_refl _ | (simp; done) | (simp; omega) | omega)) | ((with_reducible refine Below.alloc ?_ ?_ _); rotate_left; · (first | exact Nat.le_refl _ | (simp; done) | (simp; omega) | omega)) | (with_reducible apply Below.drew) | (with_reducible apply below_drewN') | (refine Below.trans ?_ (Below.mono (by assumption) (by first | exact Nat.le_refl _ | (simp; done) | (simp; omega) | omega))) | exact Below.refl _ _ | assumption))
      case ca4R285 => (first | (simp [Act.put]; done) | (simp [Act.put, *]; done))
      try dsimp only
      refine wpW_branch [5] (by kernel_rfl) (by simp) ?_
      intro w3 hg3 hS3
      try replace rx := Row.gr rx hg3
      try replace b14 := b14.gr hg3
      clear hg3
      refine each_cons ?_ (each_nil)
      · refine wpOp_go (by rfl) (Eq.refl _) (by go_simp; done) ?_
        intro K hK
        go_simp
        try simp only [Act.put]
        refine (markOf_any [x] (some ⟨g4, 0, none⟩) 1 _ x.1 x.2 lv d0 d1 (nmV k) _ rx (Nat.le_refl _) (by simp) (by omega)).mono ?_
        rw [HMO.out]
        rintro e ws ⟨rfl, hBs⟩
        try replace b14 := b14.gr hBs
        refine hK _ _ (Gr.trans hS3 hBs) ?_
        clear hK K hBs rx
        refine wpW_det (t' := ?ct6R286) 6 (by rfl) (by kernel_rfl) (NQ_free _) (by kernel_rfl) ?cw6R286 ?ch6R286 ?ca6R286 (Eq.refl _) ?cH6R286
        case cw6R286 => (go_simp; done)
        case ch6R286 =>
          intro ds w' hS K hK
          have hc := (bcell hS).1
          have hf := (bcell hS).2
          have hz := hS.size
          try simp at hz
          go_simp
          try go_bits
          first
            | exact hK _ hS (Gr.refl _)
            | exact hK _ (by repeat (first | (with_reducible exact Below.refl _ _) | (with_reducible assumption) | ((with_reducible refine Below.setCell ?_ ?_ _); rotate_left; · (first | exact Nat.le_refl _ | (simp; done) | (simp; omega) | omega)) | ((with_reducible refine Below.alloc ?_ ?_ _); rotate_left; · (first | exact Nat.le_refl _ | (simp; done) | (simp; omega) | omega)) | (with_reducible apply Below.drew) | (with_reducible apply below_drewN') | (refine Below.trans ?_ (Below.mono (by assumption) (by first | exact Nat.le_refl _ | (simp; done) | (simp; omega) | omega))) | exact Below.refl _ _ | assumption)) (by repeat (first | (with_reducible exact Below.refl _ _) | (with_reducible assumption) | ((with_reducible refine Below.setCell ?_ ?_ _); rotate_left; · (first | exact Nat.le_refl _ | (simp; done) | (simp; omega) | omega)) | ((with_reducible refine Below.alloc ?_ ?_ _); rotate_left; · (first | exact Nat.le_refl _ | (simp; done) | (simp; omega) | omega)) | (with_reducible apply Below.drew) | (with_reducible apply below_drewN') | (refine Below.trans ?_ (Below.mono (by assumption) (by first | exact Nat.le_refl _ | (simp; done) | (simp; omega) | omega))) | exact Below.refl _ _ | assumption))
        case ca6R286 => (first | (simp [Act.put]; done) | (simp [Act.put, *]; done))
        try dsimp only
        refine wpW_det (t' := ?ct7R286) 7 (by rfl) (by kernel_rfl) (NQ_free _) (by kernel_rfl) ?cw7R286 ?ch7R286 ?ca7R286 (Eq.refl _) ?cH7R286
        case cw7R286 => (go_simp; done)
        case ch7R286 =>
          intro ds w' hS K hK
          have hc := (bcell hS).1
          have hf := (bcell hS).2
          have hz := hS.size
          try simp at hz
          go_simp
          try go_bits
          first
            | exact hK _ hS (Gr.refl _)
            | exact hK _ (by repeat (first | (with_reducible exact Below.refl _ _) | (with_reducible assumption) | ((with_reducible refine Below.setCell ?_ ?_ _); rotate_left; · (first | exact Nat.le_refl _ | (simp; done) | (simp; omega) | omega)) | ((with_reducible refine Below.alloc ?_ ?_ _); rotate_left; · (first | exact Nat.le_refl _ | (simp; done) | (simp; omega) | omega)) | (with_reducible apply Below.drew) | (with_reducible apply below_drewN') | (refine Below.trans ?_ (Below.mono (by assumption) (by first | exact Nat.le_refl _ | (simp; done) | (simp; omega) | omega))) | exact Below.refl _ _ | assumption)) (by repeat (first | (with_reducible exact Below.refl _ _) | (with_reducible assumption) | ((with_reducible refine Below.setCell ?_ ?_ _); rotate_left; · (first | exact Nat.le_refl _ | (simp; done) | (simp; omega) | omega)) | ((with_reducible refine Below.alloc ?_ ?_ _); rotate_left; · (first | exact Nat.le_refl _ | (simp; done) | (simp; omega) | omega)) | (with_reducible apply Below.drew) | (with_reducible apply below_drewN') | (refine Below.trans ?_ (Below.mono (by assumption) (by first | exact Nat.le_refl _ | (simp; done) | (simp; omega) | omega))) | exact Below.refl _ _ | assumption))
        case ca7R286 => (first | (simp [Act.put]; done) | (simp [Act.put, *]; done))
        try dsimp only
        refine wpW_det (t' := ?ct8R286) 8 (by rfl) (by kernel_rfl) (NQ_free _) (by kernel_rfl) ?cw8R286 ?ch8R286 ?ca8R286 (Eq.refl _) ?cH8R286
        case cw8R286 => (go_simp; done)
        case ch8R286 =>
          intro ds w' hS K hK
          have hc := (bcell hS).1
          have hf := (bcell hS).2
          have hz := hS.size
          try simp at hz
          go_simp
          try go_bits
          first
            | exact hK _ hS (Gr.refl _)
            | exact hK _ (by repeat (first | (with_reducible exact Below.refl _ _) | (with_reducible assumption) | ((with_reducible refine Below.setCell ?_ ?_ _); rotate_left; · (first | exact Nat.le_refl _ | (simp; done) | (simp; omega) | omega)) | ((with_reducible refine Below.alloc ?_ ?_ _); rotate_left; · (first | exact Nat.le_refl _ | (simp; done) | (simp; omega) | omega)) | (with_reducible apply Below.drew) | (with_reducible apply below_drewN') | (refine Below.trans ?_ (Below.mono (by assumption) (by first | exact Nat.le_refl _ | (simp; done) | (simp; omega) | omega))) | exact Below.refl _ _ | assumption)) (by repeat (first | (with_reducible exact Below.refl _ _) | (with_reducible assumption) | ((with_reducible refine Below.setCell ?_ ?_ _); rotate_left; · (first | exact Nat.le_refl _ | (simp; done) | (simp; omega) | omega)) | ((with_reducible refine Below.alloc ?_ ?_ _); rotate_left; · (first | exact Nat.le_refl _ | (simp; done) | (simp; omega) | omega)) | (with_reducible apply Below.drew) | (with_reducible apply below_drewN') | (refine Below.trans ?_ (Below.mono (by assumption) (by first | exact Nat.le_refl _ | (simp; done) | (simp; omega) | omega))) | exact Below.refl _ _ | assumption))
        case ca8R286 => (first | (simp [Act.put]; done) | (simp [Act.put, *]; done))
        try dsimp only
        refine wpW_branch [10] (by kernel_rfl) (by simp) ?_
        intro w4 hg4 hS4
        try replace rx := Row.gr rx hg4
        try replace b14 := b14.gr hg4
        clear hg4
        refine each_cons ?_ (each_nil)
        · refine wpOp_go (by rfl) (Eq.refl _) (by go_simp; done) ?_
          intro K hK
          obtain ⟨z0, z1, z2, z3, z4, z5', zf⟩ := blk6 b14
          have l14 := b14.lt
          go_simp
          try simp only [Act.put]
          replace b14 := b14.set6 (.string (nmV k)) (.int .i64 (x.1 * d0)) (.int .i64 ((x.1 + 1) * d0)) (.int .i64 (x.2 * d1)) (.int .i64 ((x.2 + 1) * d1)) (.int .i64 lv)
          have hg14 : Gr W _ := Below.set6 (u0 := .string (nmV k)) (u1 := .int .i64 (x.1 * d0)) (u2 := .int .i64 ((x.1 + 1) * d0)) (u3 := .int .i64 (x.2 * d1)) (u4 := .int .i64 ((x.2 + 1) * d1)) (u5 := .int .i64 lv) hS4 hq14
          refine hK _ _ hg14 ?_
          clear hK K z0 z1 z2 z3 z4 z5' zf l14
          refine wpW_det (t' := ?ct11R287) 11 (by rfl) (by kernel_rfl) (NQ_free _) (by kernel_rfl) ?cw11R287 ?ch11R287 ?ca11R287 (Eq.refl _) ?cH11R287
          case cw11R287 => (go_simp; done)
          case ch11R287 =>
            intro ds w' hS K hK
            have hc := (bcell hS).1
            have hf := (bcell hS).2
            have hz := hS.size
            try simp at hz
            go_simp
            try go_bits
            first
              | exact hK _ hS (Gr.refl _)
              | exact hK _ (by repeat (first | (with_reducible exact Below.refl _ _) | (with_reducible assumption) | ((with_reducible refine Below.setCell ?_ ?_ _); rotate_left; · (first | exact Nat.le_refl _ | (simp; done) | (simp; omega) | omega)) | ((with_reducible refine Below.alloc ?_ ?_ _); rotate_left; · (first | exact Nat.le_refl _ | (simp; done) | (simp; omega) | omega)) | (with_reducible apply Below.drew) | (with_reducible apply below_drewN') | (refine Below.trans ?_ (Below.mono (by assumption) (by first | exact Nat.le_refl _ | (simp; done) | (simp; omega) | omega))) | exact Below.refl _ _ | assumption)) (by repeat (first | (with_reducible exact Below.refl _ _) | (with_reducible assumption) | ((with_reducible refine Below.setCell ?_ ?_ _); rotate_left; · (first | exact Nat.le_refl _ | (simp; done) | (simp; omega) | omega)) | ((with_reducible refine Below.alloc ?_ ?_ _); rotate_left; · (first | exact Nat.le_refl _ | (simp; done) | (simp; omega) | omega)) | (with_reducible apply Below.drew) | (with_reducible apply below_drewN') | (refine Below.trans ?_ (Below.mono (by assumption) (by first | exact Nat.le_refl _ | (simp; done) | (simp; omega) | omega))) | exact Below.refl _ _ | assumption))
          case ca11R287 => (first | (simp [Act.put]; done) | (simp [Act.put, *]; done))
          try dsimp only
          refine wpW_end (by kernel_rfl) ?_
          intro we hg hS
          unfold NQ
          dsimp only
          exact H.out (frA [(114, _), (115, _), (116, _), (117, _), (118, _), (119, _), (120, _), (121, _), (122, _)]) N14 we hS hq14 (b14.gr hg)

set_option maxRecDepth 100000 in
set_option maxHeartbeats 32000000 in
theorem topReg21 {W : World} {k q g4 z5 : Nat} {x : Int × Int} {d0 d1 lv : Int} (b13 : Blk W q 42 #[.slice (some ⟨g4, 0, none⟩) 1 1, .int .i64 x.1, .int .i64 x.2, .int .i64 lv]) (b5 : Blk W z5 26 #[.int .i64 d0, .int .i64 d1]) (rx : Row W W.heap.size 2 (some ⟨g4, 0, none⟩) [x].length (cellsC [x])) (hk : k < 20) (hs : inS x) (h0 : 1 ≤ d0 ∧ d0 ≤ 10000) (h1 : 1 ≤ d1 ∧ d1 ≤ 10000) (hlv : 0 ≤ lv ∧ lv ≤ 1000000000) {t0 t1 t2 t3 t4 t6 t7 t8 t9 t10 t11 t14 t15 t16 t17 t18 t19 t20 t21 t22 t23 t24 t25 t26 t27 t28 t29 t30 t31 t32 t33 t34 t35 t36 t37 t38 t39 t40 t41 t42 t43 t44 t45 t46 t47 t48 t49 t50 t51 t52 t53 t54 t55 t56 t57 t58 t59 t60 t61 t62 t63 t64 t65 t66 t67 t68 t69 t70 t71 t72 t73 t74 t75 t76 t77 t78 t79 t80 t81 t82 t83 t84 t85 t86 t87 t88 t89 t90 t91 t92 t93 t94 t95 t96 t97 t98 t99 t100 t101 t102 t103 t104 t105 t106 t107 t108 t109 t110 t111 t112 t113 t114 t115 t116 t117 t118 t119 t120 t121 t122 t123 t124 t125 t126 t127 t128 t129 t130 t131 t132 t133 t134 t135 t136 t137 t138 t139 t140 t141 t142 t143 t144 t145 t146 t147 t148 t149 t150 t151 t152 t153 t154 t155 t156 t157 t158 t159 t160 t161 t162 t163 t164 t165 t166 t167 t168 t169 t170 t171 t172 t173 t174 t175 t176 t177 t178 t179 t180 t181 t182 t183 t184 t185 t186 t187 t188 t189 t190 t191 t192 t193 t194 t195 t196 t197 t198 t199 t200 t201 t202 t203 t204 t205 t206 t207 t208 t209 t210 t211 t212 t213 t214 t215 t216 t217 t218 t219 t220 t221 t222 t223 t224 t225 t226 t227 t228 t229 t230 t231 t232 t233 t234 t235 t236 t237 t238 t239 t240 t241 t242 t243 t244 t245 t246 t247 t248 t249 t250 t251 t252 t253 t254 t255 t256 t257 t258 t259 t260 t261 t262 t263 t264 : Value} {ds : List Deferred} (Q : Exit → Act → World → Prop)
    (h : ∀ (y : Nat → Value) (q14 : Nat) (w' : World), Gr W w' → W.heap.size ≤ q14 → Blk w' q14 46 (mkC (cellMk d0 d1 x (nmV k) lv)) → Q .normal ⟨#[t0, t1, t2, t3, t4, .pointer (some ⟨z5, 0, none⟩), t6, t7, t8, t9, t10, t11, .int .i64 k, .pointer (some ⟨q, 0, none⟩), .pointer (some ⟨q14, 0, none⟩), .int .i64 0, t16, t17, t18, t19, t20, t21, t22, t23, t24, t25, t26, t27, t28, t29, t30, t31, t32, t33, t34, t35, t36, t37, t38, t39, t40, t41, t42, t43, t44, t45, t46, t47, t48, t49, t50, t51, t52, t53, t54, t55, t56, t57, t58, t59, t60, t61, t62, t63, t64, t65, t66, t67, t68, t69, t70, t71, t72, t73, t74, t75, t76, t77, t78, t79, t80, t81, t82, t83, t84, t85, t86, t87, t88, t89, t90, t91, t92, t93, t94, t95, t96, t97, t98, t99, t100, t101, t102, t103, t104, t105, t106, t107, t108, t109, t110, t111, t112, t113, y 114, y 115, y 116, y 117, y 118, y 119, y 120, y 121, y 122, t123, t124, t125, t126, t127, t128, t129, t130, t131, t132, t133, t134, t135, t136, t137, t138, t139, t140, t141, t142, t143, t144, t145, t146, t147, t148, t149, t150, t151, t152, t153, t154, t155, t156, t157, t158, t159, t160, t161, t162, t163, t164, t165, t166, t167, t168, t169, t170, t171, t172, t173, t174, t175, t176, t177, t178, t179, t180, t181, t182, t183, t184, t185, t186, t187, t188, t189, t190, t191, t192, t193, t194, t195, t196, t197, t198, t199, t200, t201, t202, t203, t204, t205, t206, t207, t208, t209, t210, t211, t212, t213, t214, t215, t216, t217, t218, t219, t220, t221, t222, t223, t224, t225, t226, t227, t228, t229, t230, t231, t232, t233, t234, t235, t236, t237, t238, t239, t240, t241, t242, t243, t244, t245, t246, t247, t248, t249, t250, t251, t252, t253, t254, t255, t256, t257, t258, t259, t260, t261, t262, t263, t264], ds⟩ w') :
    (regOf Tryz.f3 21).wp Tryz.prog Q ⟨#[t0, t1, t2, t3, t4, .pointer (some ⟨z5, 0, none⟩), t6, t7, t8, t9, t10, t11, .int .i64 k, .pointer (some ⟨q, 0, none⟩), t14, t15, t16, t17, t18, t19, t20, t21, t22, t23, t24, t25, t26, t27, t28, t29, t30, t31, t32, t33, t34, t35, t36, t37, t38, t39, t40, t41, t42, t43, t44, t45, t46, t47, t48, t49, t50, t51, t52, t53, t54, t55, t56, t57, t58, t59, t60, t61, t62, t63, t64, t65, t66, t67, t68, t69, t70, t71, t72, t73, t74, t75, t76, t77, t78, t79, t80, t81, t82, t83, t84, t85, t86, t87, t88, t89, t90, t91, t92, t93, t94, t95, t96, t97, t98, t99, t100, t101, t102, t103, t104, t105, t106, t107, t108, t109, t110, t111, t112, t113, t114, t115, t116, t117, t118, t119, t120, t121, t122, t123, t124, t125, t126, t127, t128, t129, t130, t131, t132, t133, t134, t135, t136, t137, t138, t139, t140, t141, t142, t143, t144, t145, t146, t147, t148, t149, t150, t151, t152, t153, t154, t155, t156, t157, t158, t159, t160, t161, t162, t163, t164, t165, t166, t167, t168, t169, t170, t171, t172, t173, t174, t175, t176, t177, t178, t179, t180, t181, t182, t183, t184, t185, t186, t187, t188, t189, t190, t191, t192, t193, t194, t195, t196, t197, t198, t199, t200, t201, t202, t203, t204, t205, t206, t207, t208, t209, t210, t211, t212, t213, t214, t215, t216, t217, t218, t219, t220, t221, t222, t223, t224, t225, t226, t227, t228, t229, t230, t231, t232, t233, t234, t235, t236, t237, t238, t239, t240, t241, t242, t243, t244, t245, t246, t247, t248, t249, t250, t251, t252, t253, t254, t255, t256, t257, t258, t259, t260, t261, t262, t263, t264], ds⟩ W :=
  topReg21Z (z := (frA [(0, t0), (1, t1), (2, t2), (3, t3), (4, t4), (6, t6), (7, t7), (8, t8), (9, t9), (10, t10), (11, t11), (14, t14), (15, t15), (16, t16), (17, t17), (18, t18), (19, t19), (20, t20), (21, t21), (22, t22), (23, t23), (24, t24), (25, t25), (26, t26), (27, t27), (28, t28), (29, t29), (30, t30), (31, t31), (32, t32), (33, t33), (34, t34), (35, t35), (36, t36), (37, t37), (38, t38), (39, t39), (40, t40), (41, t41), (42, t42), (43, t43), (44, t44), (45, t45), (46, t46), (47, t47), (48, t48), (49, t49), (50, t50), (51, t51), (52, t52), (53, t53), (54, t54), (55, t55), (56, t56), (57, t57), (58, t58), (59, t59), (60, t60), (61, t61), (62, t62), (63, t63), (64, t64), (65, t65), (66, t66), (67, t67), (68, t68), (69, t69), (70, t70), (71, t71), (72, t72), (73, t73), (74, t74), (75, t75), (76, t76), (77, t77), (78, t78), (79, t79), (80, t80), (81, t81), (82, t82), (83, t83), (84, t84), (85, t85), (86, t86), (87, t87), (88, t88), (89, t89), (90, t90), (91, t91), (92, t92), (93, t93), (94, t94), (95, t95), (96, t96), (97, t97), (98, t98), (99, t99), (100, t100), (101, t101), (102, t102), (103, t103), (104, t104), (105, t105), (106, t106), (107, t107), (108, t108), (109, t109), (110, t110), (111, t111), (112, t112), (113, t113), (114, t114), (115, t115), (116, t116), (117, t117), (118, t118), (119, t119), (120, t120), (121, t121), (122, t122), (123, t123), (124, t124), (125, t125), (126, t126), (127, t127), (128, t128), (129, t129), (130, t130), (131, t131), (132, t132), (133, t133), (134, t134), (135, t135), (136, t136), (137, t137), (138, t138), (139, t139), (140, t140), (141, t141), (142, t142), (143, t143), (144, t144), (145, t145), (146, t146), (147, t147), (148, t148), (149, t149), (150, t150), (151, t151), (152, t152), (153, t153), (154, t154), (155, t155), (156, t156), (157, t157), (158, t158), (159, t159), (160, t160), (161, t161), (162, t162), (163, t163), (164, t164), (165, t165), (166, t166), (167, t167), (168, t168), (169, t169), (170, t170), (171, t171), (172, t172), (173, t173), (174, t174), (175, t175), (176, t176), (177, t177), (178, t178), (179, t179), (180, t180), (181, t181), (182, t182), (183, t183), (184, t184), (185, t185), (186, t186), (187, t187), (188, t188), (189, t189), (190, t190), (191, t191), (192, t192), (193, t193), (194, t194), (195, t195), (196, t196), (197, t197), (198, t198), (199, t199), (200, t200), (201, t201), (202, t202), (203, t203), (204, t204), (205, t205), (206, t206), (207, t207), (208, t208), (209, t209), (210, t210), (211, t211), (212, t212), (213, t213), (214, t214), (215, t215), (216, t216), (217, t217), (218, t218), (219, t219), (220, t220), (221, t221), (222, t222), (223, t223), (224, t224), (225, t225), (226, t226), (227, t227), (228, t228), (229, t229), (230, t230), (231, t231), (232, t232), (233, t233), (234, t234), (235, t235), (236, t236), (237, t237), (238, t238), (239, t239), (240, t240), (241, t241), (242, t242), (243, t243), (244, t244), (245, t245), (246, t246), (247, t247), (248, t248), (249, t249), (250, t250), (251, t251), (252, t252), (253, t253), (254, t254), (255, t255), (256, t256), (257, t257), (258, t258), (259, t259), (260, t260), (261, t261), (262, t262), (263, t263), (264, t264)])) b13 b5 rx hk hs h0 h1 hlv Q h

end Go.Proofs.YtclpljbllnhhbaaGreat
