/- DERIVED: THE SHELF's CONTRACTS AT THIS DUMP, IN PLAIN WORDS (tools/lay-plain.mjs out of 'YtmdbpkomanhpoaaGreatDoorShRaw.lean', which tools/lay-shelf.mjs wrote): THE SAME DECLARATIONS UNDER THE SAME NAMES: 'import', 'namespace', 'open', 'def', 'theorem' AND NOTHING ELSE: no command of the shelf's: FOR A HAND-IN. Each laying: the table of numbers ('.._ren') and one theorem, a field a fact of the dump's own or the kernel's comparison; each contract: ONE APPLICATION. The words of a report (office.wordsOf, anewWords) and its lines. -/
import Derived.Shelf.Strings.Builder1
import Derived.Shelf.Strings.Prefix
import Derived.Test.YtmdbpkomanhpoaaGreatDoorProg
import Derived.Shelf.Strings.BuilderK
import Derived.Test.YtmdbpkomanhpoaaGreatDoorZqOeO
namespace Go.Proofs
open Go.Shelf
def Tryz.lays169_ren : Go.Shelf.Ren := ⟨fun | 169 => 34 | n => n, fun | 70 => 82 | 9 => 9 | 0 => 0 | 72 => 85 | 37 => 83 | 127 => 133 | 3 => 3 | 5 => 5 | n => n, fun | n => n⟩
theorem Tryz.lays169 : Go.Proofs.Lays.n169 Tryz.prog Tryz.lays169_ren := {
  mixed := by kernel_rfl
  f169 := Tryz.func34.trans (congrArg some (by kernel_rfl))
  t0 := Tryz.underlying0
  a0 := Tryz.isAgg0
  z0 := Tryz.sizeOf0
  v0 := Tryz.zeroValue0
  t3 := Tryz.underlying3
  a3 := Tryz.isAgg3
  z3 := Tryz.sizeOf3
  v3 := Tryz.zeroValue3
  t9 := Tryz.underlying9
  a9 := Tryz.isAgg9
  z9 := Tryz.sizeOf9
  v9 := Tryz.zeroValue9
  t37 := Tryz.underlying83
  a37 := Tryz.isAgg83
  z37 := Tryz.sizeOf83
  v37 := Tryz.zeroValue83
  t70 := Tryz.underlying82
  a70 := Tryz.isAgg82
  z70 := Tryz.sizeOf82
  v70 := Tryz.zeroValue82
  t72 := Tryz.underlying85
  a72 := Tryz.isAgg85
  z72 := Tryz.sizeOf85
  v72 := Tryz.zeroValue85
  t127 := Tryz.underlying133
  a127 := Tryz.isAgg133
  z127 := Tryz.sizeOf133
  v127 := Tryz.zeroValue133 }
theorem Tryz.Builder_Extra_169 : Builder.Extra Tryz.prog Tryz.lays169_ren := {
  sizeBuilder := by kernel_rfl
  liesBuilder := by kernel_rfl
  t5 := Tryz.underlying5
  a5 := Tryz.isAgg5
  z5 := Tryz.sizeOf5
  v5 := Tryz.zeroValue5
  infoByte := by kernel_rfl
  cellsByte := by kernel_rfl
  sizeByte := by kernel_rfl
  neB5 := by decide }
end Go.Proofs

namespace Go.Proofs.YtmdbpkomanhpoaaGreatDoor
open Go.RowKit Go.Lib Go.Shelf

theorem _root_.Go.Lib.BuilderAtF.gr {T e : TypeId} {B b : Nat} {p : Value} {bs : List Value} {w w' : World} (h : BuilderAtF T e B b p bs w) (hg : Gr w w') : BuilderAtF T e B b p bs w' := by
  obtain ⟨hB, v, hb, hown, hne⟩ := h
  have up : ∀ (k : Nat) (o : Obj), w.heap[k]? = some o → w'.heap[k]? = some o := fun k o hk => (hg.block k (Array.getElem?_eq_some_iff.1 hk).1).trans hk
  refine ⟨hB, v, up _ _ hb, ⟨hown.1, ?_⟩, hne⟩
  rcases hown.2 with hn | ⟨g, cap, cur, fz, hv, hbg, hgg, rest⟩
  · exact .inl hn
  · exact .inr ⟨g, cap, cur, fz, hv, hbg, up _ _ hgg, rest⟩
theorem _root_.Go.Lib.IsBuilderF.gr {T e : TypeId} {B b : Nat} {bs : List Value} {w w' : World} (h : IsBuilderF T e B b bs w) (hg : Gr w w') : IsBuilderF T e B b bs w' := h.imp (fun h => h.gr hg) (fun h => h.gr hg)
theorem _root_.Go.Lib.IsBuilderF.lt_ {T e : TypeId} {B b : Nat} {bs : List Value} {w : World} (h : IsBuilderF T e B b bs w) : b < w.heap.size := by
  rcases h with ⟨_, v, hb, _⟩ | ⟨_, v, hb, _⟩ <;> exact (Array.getElem?_eq_some_iff.1 hb).1
theorem wrS_any (b : Nat) (l : List UInt8) (s : ByteArray) (w : World) (h : IsBuilderF 85 5 b b (Go.Lib.byteCells l) w) (hlen : l.length + s.size ≤ 10000000) (hBw : b ≤ w.heap.size) :
    Calls Tryz.prog 30 #[.pointer (some ⟨b, 0, none⟩), .string s] w fun e w' => e = .returned (.tuple #[.int .i64 s.size, .nilIface]) ∧ IsBuilderF 85 5 b b (Go.Lib.byteCells (l ++ s.data.toList)) w' ∧ Below b w w' :=
  (Any.Builder_WriteString_k { Tryz.lays156 with } Tryz.Builder_Extra_156 b b (Go.Lib.byteCells l) s w h (by rw [Go.Lib.byteCells_length]; omega) hBw).mono fun e w' ⟨he, hb, hB, hO⟩ => ⟨he, .inr (by rw [Go.Lib.byteCells_append]; exact hb), hB⟩
theorem buStr_any (b : Nat) (l : List UInt8) (w : World) (h : IsBuilderF 85 5 b b (Go.Lib.byteCells l) w) (hBw : b ≤ w.heap.size) :
    Calls Tryz.prog 34 #[.pointer (some ⟨b, 0, none⟩)] w fun e w' => e = .returned (.string (strB l)) ∧ Below b w w' :=
  (Any.Builder_String_any_k Tryz.lays169 Tryz.Builder_Extra_169 b b l w h hBw).mono fun _ _ ⟨he, _, hB, _⟩ => ⟨he, hB⟩
theorem own_one {w : World} {g : Nat} {x : ByteArray} (h : Blk w g 9 #[.string x]) : w.ownsRow g 9 1 (.slice (some ⟨g, 0, none⟩) 1 1) 1 [.string x] :=
  ⟨rfl, .inr ⟨g, 1, #[.string x], rfl, Nat.le_refl _, h, Nat.le_refl 1, by decide, rfl, rfl⟩⟩
theorem strs_one (xs : List ByteArray) : ∀ u ∈ strsC xs, u.oneCell' = true := fun u hu => by
  obtain ⟨x, _, rfl⟩ := List.mem_map.1 hu
  rfl
set_option maxRecDepth 100000 in
set_option maxHeartbeats 4000000 in
theorem repLine_any (f : ByteArray) (xs : List ByteArray) (A : Option Addr) (c C b : Nat) (l : List UInt8) (w : World) (hR : Row w C 1 A xs.length (strsC xs)) (hC : C ≤ w.heap.size) (hA : A = none → c = 0) (hj : (join ((f :: xs).map (·.data.toList)) [32]).length ≤ 100000) (hn : xs.length ≤ 100) (hl : l.length ≤ 1000000)
    (hI : IsBuilderF 85 5 b b (Go.Lib.byteCells l) w) :
    Calls Tryz.prog 29 #[.string f, .slice A xs.length c, .pointer (some ⟨b, 0, none⟩)] w fun e w' => (∃ u, e = .returned u) ∧ IsBuilderF 85 5 b b (Go.Lib.byteCells (l ++ (join ((f :: xs).map (·.data.toList)) [32] ++ [10]))) w' ∧ Below b w w' := by
  obtain ⟨i0, hi, hz0, hz1, hz2⟩ := info_parts infoStr
  have hbw := hI.lt_
  have bn := Blk.new w 9 #[.string f]
  have hal : Gr w (w.alloc (.cells #[.string f] 9)) := (Below.refl _ _).alloc (Nat.le_refl _) _
  have own0 := own_one bn
  have HS := Lib.hid (Src.mk (hR.below hal hC) hA)
  have HI := Lib.hid hI
  clear hR hI bn
  go_enter Tryz.func29, Tryz.ntmps29
  go_wp2_with (at_builtin; refine wpList_append_row rfl _ _ 53 rfl w.heap.size 9 i0 (.string ByteArray.empty) 1 16 Tryz.underlying53 hi hz0 hz1 hz2 rfl (by decide) _ _ _ rfl own0 A xs.length c (strsC xs) rfl HS.out (strs_one _) (by unfold maxLen; omega) (by omega) (by simp) ?_)
  intro v3 w3 own3 hgrow _
  have hB3 : Below w.heap.size w w3 := below_own hal (Nat.le_refl _) own0 hgrow
  have own4 : w3.ownsRow w.heap.size 9 1 v3 (f :: xs).length (strsC (f :: xs)) := by
    have h := own3
    rw [Nat.add_comm] at h
    exact h
  clear hal own0 hgrow own3 HS
  go_wp2_with fail
  refine (join_own (f :: xs) 32 v3 _ _ own4 (by simp) (by omega) (by simp; omega)).mono ?_
  rintro e w4 ⟨rfl, hB4⟩
  have hI4 := (HI.out.gr hB3).gr hB4
  have hBB : Gr w w4 := Below.trans hB3 (Below.mono hB4 hB3.size)
  have hz4 := hBB.size
  obtain ⟨J, hJe⟩ : ∃ J, join ((f :: xs).map (·.data.toList)) [32] = J := ⟨_, rfl⟩
  rw [hJe] at hj ⊢
  have hJ : (strB J).size ≤ 100000 := by rw [strB_size]; exact hj
  go_wp2_with fail
  refine (wrS_any b l _ _ hI4 (by rw [ByteArray.size_append]; have : (⟨#[10]⟩ : ByteArray).size = 1 := rfl; omega) (by omega)).mono ?_
  rintro e w5 ⟨rfl, hI5, hB5⟩
  go_wp2
  go_end0
  refine ⟨⟨_, rfl⟩, ?_, (hBB.mono (by omega)).trans hB5⟩
  have e1 : (strB J ++ ⟨#[10]⟩ : ByteArray).data.toList = J ++ [10] := by simp [strB, ByteArray.data_append]
  rw [e1] at hI5
  try rw [hJe]
  exact hI5

/-- What the words of decisions and verdicts are. -/
structure WordsW (w : World) : Prop where
  acc : w.cell? ⟨1, 0, none⟩ = some (.string ⟨#[97, 99, 99, 101, 112, 116]⟩)
  may : w.cell? ⟨0, 1, none⟩ = some (.string ⟨#[109, 97, 121, 98, 101]⟩)
theorem WordsW.below {w w' : World} {B : Nat} (h : WordsW w) (hb : Below B w w') (hB : w.heap.size ≤ B) : WordsW w' :=
  ⟨(hb.cell (p := ⟨1, 0, none⟩) (by have := World.block_lt_of_cell? _ _ h.acc; simp only at this ⊢; omega)).trans h.acc, (hb.cell (p := ⟨0, 1, none⟩) (by have := World.block_lt_of_cell? _ _ h.may; simp only at this ⊢; omega)).trans h.may⟩
theorem blkz13 {w : World} {g t : Nat} {v0 v1 v2 v3 v4 v5 v6 v7 v8 v9 v10 v11 v12 : Value} (h : Blk w g t #[v0, v1, v2, v3, v4, v5, v6, v7, v8, v9, v10, v11, v12]) : w.cell? ⟨g, 2, none⟩ = some v2 ∧ w.cell? ⟨g, 9, none⟩ = some v9 ∧ w.cell? ⟨g, 10, none⟩ = some v10 ∧ w.cell? ⟨g, 11, none⟩ = some v11 := ⟨h.cell 2, h.cell 9, h.cell 10, h.cell 11⟩
set_option maxRecDepth 100000 in
set_option maxHeartbeats 4000000 in
theorem wordsOf_acc (nm bb sec : ByteArray) (po row : Int) (q : Nat → Int) (w : World) (hp : -1000000000 ≤ po ∧ po ≤ 1000000000) (hr : -1000000000 ≤ row ∧ row ≤ 1000000000) (hL : LibW w) (hW : WordsW w) :
    Calls Tryz.prog 32 #[.agg (mkC ⟨nm, bb, po, q, 1, row, 0, sec⟩)] w fun e w' => ∃ v, e = .returned v ∧ w'.ownsRow w.heap.size 9 1 v 3 (strsC [strB (itoa po), ⟨#[97, 99, 99, 101, 112, 116]⟩, strB (itoa row)]) ∧ Below w.heap.size w w' := by
  obtain ⟨i0, hi, hz0, hz1, hz2⟩ := info_parts infoStr
  unfold mkC
  dsimp only
  have HIT : Hid (∀ W (n : Int), Below w.heap.size w W → -1000000000 ≤ n → n ≤ 1000000000 → Calls Tryz.prog 52 #[.int .i64 n] W fun e w' => e = .returned (.string (strB (itoa n))) ∧ Below W.heap.size W w') := Lib.hid fun W n hW h0 h1 => itoa_any n (by omega) (by omega) W (hL.below hW (Nat.le_refl _))
  have HW := Lib.hid hW
  have bm := Blk.new w 95 #[.string nm, .string bb, .int .i64 po, .int .i64 (q 0), .int .i64 (q 1), .int .i64 (q 2), .int .i64 (q 3), .int .i64 (q 4), .int .i64 (q 5), .int .i64 1, .int .i64 row, .int .i64 0, .string sec]
  have hB0 : Below w.heap.size w (w.alloc (.cells #[.string nm, .string bb, .int .i64 po, .int .i64 (q 0), .int .i64 (q 1), .int .i64 (q 2), .int .i64 (q 3), .int .i64 (q 4), .int .i64 (q 5), .int .i64 1, .int .i64 row, .int .i64 0, .string sec] 95)) := (Below.refl _ _).alloc (Nat.le_refl _) _
  clear hL hW
  go_enter Tryz.func32, Tryz.ntmps32
  go_wp2_with fail
  refine (HIT.out _ po hB0 hp.1 hp.2).mono ?_
  rintro e w1 ⟨rfl, hB1⟩
  have hBB : Below w.heap.size w w1 := hB0.trans (hB1.mono hB0.size)
  replace bm := bm.below hB1 bm.lt
  clear hB0 hB1
  have hB2 := hBB.alloc hBB.size (.cells #[.string (strB (itoa po))] 9 (0, 0))
  have bn := Blk.new w1 9 #[.string (strB (itoa po))]
  replace bm := bm.alloc (.cells #[.string (strB (itoa po))] 9 (0, 0))
  have own1 := (own_one bn).mono (base' := w.heap.size) hBB.size
  clear bn
  generalize hW2 : w1.alloc (.cells #[.string (strB (itoa po))] 9) = W2 at *
  generalize w.heap.size = gb at bm ⊢
  obtain ⟨d2, d9, d10, d11⟩ := blkz13 bm
  have lm := bm.lt
  go_upto_region 7 with fail
  clear hW2 d2 d9 d10 d11 lm
  refine wp_region_w (fun w' => Below w.heap.size w w' ∧ Blk w' gb 95 #[.string nm, .string bb, .int .i64 po, .int .i64 (q 0), .int .i64 (q 1), .int .i64 (q 2), .int .i64 (q 3), .int .i64 (q 4), .int .i64 (q 5), .int .i64 1, .int .i64 row, .int .i64 0, .string sec]) (by kernel_rfl) ((And.intro hB2.drew bm.drew)) ?_
  refine wpW_det (t' := ?ct0R26) 0 (by rfl) (by kernel_rfl) (NQ_free _) (by kernel_rfl) ?cw0R26 ?ch0R26 ?ca0R26 (Eq.refl _) ?cH0R26
  case cw0R26 => (go_simp; done)
  case ch0R26 =>
    intro ds w' hS K hK
    have a0 := (HW.out.below hS.1 (Nat.le_refl _)).acc
    have la := World.block_lt_of_cell? _ _ a0
    simp only at la
    obtain ⟨d2, d9, d10, d11⟩ := blkz13 hS.2
    have lm := hS.2.lt
    go_simp
    try go_bits
    first
      | exact hK _ hS (Gr.refl _)
      | (go_at_call 52; refine (HIT.out _ row hS.1 hr.1 hr.2).mono ?_; rintro e wq ⟨rfl, hBq⟩; exact hK _ (And.intro (Below.trans hS.1 (Below.mono hBq (Below.size hS.1))) (Blk.gr hS.2 hBq)) hBq)
  case ca0R26 => (first | (simp [Act.put]; done) | (simp [Act.put, *]; done))
  try dsimp only
  refine wpW_det (t' := ?ct1R26) 1 (by rfl) (by kernel_rfl) (NQ_free _) (by kernel_rfl) ?cw1R26 ?ch1R26 ?ca1R26 (Eq.refl _) ?cH1R26
  case cw1R26 => (go_simp; done)
  case ch1R26 =>
    intro ds w' hS K hK
    have a0 := (HW.out.below hS.1 (Nat.le_refl _)).acc
    have la := World.block_lt_of_cell? _ _ a0
    simp only at la
    obtain ⟨d2, d9, d10, d11⟩ := blkz13 hS.2
    have lm := hS.2.lt
    go_simp
    try go_bits
    first
      | exact hK _ hS (Gr.refl _)
      | (go_at_call 52; refine (HIT.out _ row hS.1 hr.1 hr.2).mono ?_; rintro e wq ⟨rfl, hBq⟩; exact hK _ (And.intro (Below.trans hS.1 (Below.mono hBq (Below.size hS.1))) (Blk.gr hS.2 hBq)) hBq)
  case ca1R26 => (first | (simp [Act.put]; done) | (simp [Act.put, *]; done))
  try dsimp only
  refine wpW_det (t' := ?ct2R26) 2 (by rfl) (by kernel_rfl) (NQ_free _) (by kernel_rfl) ?cw2R26 ?ch2R26 ?ca2R26 (Eq.refl _) ?cH2R26
  case cw2R26 => (go_simp; done)
  case ch2R26 =>
    intro ds w' hS K hK
    have a0 := (HW.out.below hS.1 (Nat.le_refl _)).acc
    have la := World.block_lt_of_cell? _ _ a0
    simp only at la
    obtain ⟨d2, d9, d10, d11⟩ := blkz13 hS.2
    have lm := hS.2.lt
    go_simp
    try go_bits
    first
      | exact hK _ hS (Gr.refl _)
      | (go_at_call 52; refine (HIT.out _ row hS.1 hr.1 hr.2).mono ?_; rintro e wq ⟨rfl, hBq⟩; exact hK _ (And.intro (Below.trans hS.1 (Below.mono hBq (Below.size hS.1))) (Blk.gr hS.2 hBq)) hBq)
  case ca2R26 => (first | (simp [Act.put]; done) | (simp [Act.put, *]; done))
  try dsimp only
  refine wpW_det (t' := ?ct3R26) 3 (by rfl) (by kernel_rfl) (NQ_free _) (by kernel_rfl) ?cw3R26 ?ch3R26 ?ca3R26 (Eq.refl _) ?cH3R26
  case cw3R26 => (go_simp; done)
  case ch3R26 =>
    intro ds w' hS K hK
    have a0 := (HW.out.below hS.1 (Nat.le_refl _)).acc
    have la := World.block_lt_of_cell? _ _ a0
    simp only at la
    obtain ⟨d2, d9, d10, d11⟩ := blkz13 hS.2
    have lm := hS.2.lt
    go_simp
    try go_bits
    first
      | exact hK _ hS (Gr.refl _)
      | (go_at_call 52; refine (HIT.out _ row hS.1 hr.1 hr.2).mono ?_; rintro e wq ⟨rfl, hBq⟩; exact hK _ (And.intro (Below.trans hS.1 (Below.mono hBq (Below.size hS.1))) (Blk.gr hS.2 hBq)) hBq)
  case ca3R26 => (first | (simp [Act.put]; done) | (simp [Act.put, *]; done))
  try dsimp only
  refine wpW_det (t' := ?ct4R26) 4 (by rfl) (by kernel_rfl) (NQ_free _) (by kernel_rfl) ?cw4R26 ?ch4R26 ?ca4R26 (Eq.refl _) ?cH4R26
  case cw4R26 => (go_simp; done)
  case ch4R26 =>
    intro ds w' hS K hK
    have a0 := (HW.out.below hS.1 (Nat.le_refl _)).acc
    have la := World.block_lt_of_cell? _ _ a0
    simp only at la
    obtain ⟨d2, d9, d10, d11⟩ := blkz13 hS.2
    have lm := hS.2.lt
    go_simp
    try go_bits
    first
      | exact hK _ hS (Gr.refl _)
      | (go_at_call 52; refine (HIT.out _ row hS.1 hr.1 hr.2).mono ?_; rintro e wq ⟨rfl, hBq⟩; exact hK _ (And.intro (Below.trans hS.1 (Below.mono hBq (Below.size hS.1))) (Blk.gr hS.2 hBq)) hBq)
  case ca4R26 => (first | (simp [Act.put]; done) | (simp [Act.put, *]; done))
  try dsimp only
  refine wpW_det (t' := ?ct5R26) 5 (by rfl) (by kernel_rfl) (NQ_free _) (by kernel_rfl) ?cw5R26 ?ch5R26 ?ca5R26 (Eq.refl _) ?cH5R26
  case cw5R26 => (go_simp; done)
  case ch5R26 =>
    intro ds w' hS K hK
    have a0 := (HW.out.below hS.1 (Nat.le_refl _)).acc
    have la := World.block_lt_of_cell? _ _ a0
    simp only at la
    obtain ⟨d2, d9, d10, d11⟩ := blkz13 hS.2
    have lm := hS.2.lt
    go_simp
    try go_bits
    first
      | exact hK _ hS (Gr.refl _)
      | (go_at_call 52; refine (HIT.out _ row hS.1 hr.1 hr.2).mono ?_; rintro e wq ⟨rfl, hBq⟩; exact hK _ (And.intro (Below.trans hS.1 (Below.mono hBq (Below.size hS.1))) (Blk.gr hS.2 hBq)) hBq)
  case ca5R26 => (first | (simp [Act.put]; done) | (simp [Act.put, *]; done))
  try dsimp only
  refine wpW_det (t' := ?ct6R26) 6 (by rfl) (by kernel_rfl) (NQ_free _) (by kernel_rfl) ?cw6R26 ?ch6R26 ?ca6R26 (Eq.refl _) ?cH6R26
  case cw6R26 => (go_simp; done)
  case ch6R26 =>
    intro ds w' hS K hK
    have a0 := (HW.out.below hS.1 (Nat.le_refl _)).acc
    have la := World.block_lt_of_cell? _ _ a0
    simp only at la
    obtain ⟨d2, d9, d10, d11⟩ := blkz13 hS.2
    have lm := hS.2.lt
    go_simp
    try go_bits
    first
      | exact hK _ hS (Gr.refl _)
      | (go_at_call 52; refine (HIT.out _ row hS.1 hr.1 hr.2).mono ?_; rintro e wq ⟨rfl, hBq⟩; exact hK _ (And.intro (Below.trans hS.1 (Below.mono hBq (Below.size hS.1))) (Blk.gr hS.2 hBq)) hBq)
  case ca6R26 => (first | (simp [Act.put]; done) | (simp [Act.put, *]; done))
  try dsimp only
  refine wpW_det (t' := ?ct7R26) 7 (by rfl) (by kernel_rfl) (NQ_free _) (by kernel_rfl) ?cw7R26 ?ch7R26 ?ca7R26 (Eq.refl _) ?cH7R26
  case cw7R26 => (go_simp; done)
  case ch7R26 =>
    intro ds w' hS K hK
    have a0 := (HW.out.below hS.1 (Nat.le_refl _)).acc
    have la := World.block_lt_of_cell? _ _ a0
    simp only at la
    obtain ⟨d2, d9, d10, d11⟩ := blkz13 hS.2
    have lm := hS.2.lt
    go_simp
    try go_bits
    first
      | exact hK _ hS (Gr.refl _)
      | (go_at_call 52; refine (HIT.out _ row hS.1 hr.1 hr.2).mono ?_; rintro e wq ⟨rfl, hBq⟩; exact hK _ (And.intro (Below.trans hS.1 (Below.mono hBq (Below.size hS.1))) (Blk.gr hS.2 hBq)) hBq)
  case ca7R26 => (first | (simp [Act.put]; done) | (simp [Act.put, *]; done))
  try dsimp only
  have own1 : W2.drew.ownsRow w.heap.size 9 1 (.slice (some ⟨w1.heap.size, 0, none⟩) 1 1) 1 [.string (strB (itoa po))] := own1
  clear bm
  generalize w1.heap.size = g1 at *
  refine wpW_branch [8] (by kernel_rfl) (by simp) ?_
  intro w1 hg1 hS1
  try clear z
  have z := hS1
  replace own1 := own_below own1 hg1
  refine each_cons ?_ (each_nil)
  refine wpOp_go (by rfl) (Eq.refl _) (by go_simp; done) ?_
  intro K hK
  go_simp
  try simp only [Act.put]
  have bn := Blk.new w1 9 #[.string ⟨#[97, 99, 99, 101, 112, 116]⟩, .string (strB (itoa row))]
  have hal : Gr w1 (w1.alloc (.cells #[.string ⟨#[97, 99, 99, 101, 112, 116]⟩, .string (strB (itoa row))] 9)) := (Below.refl _ _).alloc (Nat.le_refl _) _
  replace own1 := own_below own1 hal
  replace z := And.intro (Below.trans z.1 (Below.mono hal (Below.size z.1))) (Blk.gr z.2 hal)
  clear hal
  generalize w1.heap.size = gn at *
  refine hK _ _ z ?_
  clear hK K
  refine wpW_branch [9] (by kernel_rfl) (by simp) ?_
  intro w2 hg2 hS2
  try clear z
  have z := hS2
  replace own1 := own_below own1 hg2
  replace bn := Blk.gr bn hg2
  refine each_cons ?_ (each_nil)
  refine wpOp_go (by rfl) (Eq.refl _) (by go_simp; done) ?_
  intro K hK
  have hsr : Src w2 1 (some ⟨gn, 0, none⟩) 2 2 [.string ⟨#[97, 99, 99, 101, 112, 116]⟩, .string (strB (itoa row))] := Src.mk (B := w2.heap.size) ⟨rfl, fun _ => ⟨gn, 0, rfl, bn.lt, fun j u hu => by rw [Nat.zero_add, bn.cell j, List.getElem?_toArray]; exact hu⟩⟩ (fun e => by cases e)
  refine wp_append_row _ (.tmp 20) (.tmp 28) 53 rfl w.heap.size 9 i0 _ 1 16 Tryz.underlying53 hi hz0 hz1 hz2 rfl (by decide) _ 1 [.string (strB (itoa po))] rfl own1 (some ⟨gn, 0, none⟩) 2 2 [.string ⟨#[97, 99, 99, 101, 112, 116]⟩, .string (strB (itoa row))] rfl hsr (by simp [Value.oneCell']) (by unfold maxLen; omega) (by omega) (Below.size z.1) ?_
  intro v9 wa hv9 hgrow _
  replace z := And.intro (below_own z.1 (Nat.le_refl _) own1 hgrow) (z.2.grown hgrow (own_ne_blk own1 z.2 (by decide)).symm)
  clear hgrow hsr bn own1
  try simp only [Act.put]
  try simp only [List.setIfInBounds_toArray]
  refine hK _ _ z ?_
  clear hK K
  refine wpW_branch [10] (by kernel_rfl) (by simp) ?_
  intro w3 hg3 hS3
  try clear z
  have z := hS3
  replace hv9 := own_below hv9 hg3
  refine each_cons ?_ (each_nil)
  refine wpOp_go (by rfl) (Eq.refl _) (by go_simp; done) ?_
  intro K hK
  go_simp
  try simp only [Act.put]
  refine hK _ _ z ?_
  clear hK K
  refine wpW_end (by kernel_rfl) ?_
  intro we hg hS
  unfold NQ
  dsimp only
  replace hv9 := own_below hv9 hg
  go_wp2
  go_ret
  exact ⟨_, rfl, hv9, hS.1⟩
set_option maxRecDepth 100000 in
set_option maxHeartbeats 4000000 in
theorem anewWords_nil (s : Se) (m : Me) (B base bx : Nat) (a : Ia) (st : In) (w : World) (h : Isp s m B base bx a st w) (h0 : anewR s.tk (readsL st.sc) = []) :
    Calls Tryz.prog 33 #[.pointer (some ⟨bx, 0, none⟩)] w fun e w' => e = .returned (.slice none 0 0) ∧ Below w.heap.size w w' := by
  have HA := Lib.hid (insAnew_any s m B base bx a st w h)
  rw [h0] at HA
  clear h h0
  go_enter Tryz.func33, Tryz.ntmps33
  go_wp2_with fail
  refine HA.out.mono ?_
  rintro e w1 ⟨v, rfl, hv, hB1⟩
  obtain ⟨A1, c1, rfl, _, _, _⟩ := Row.ownd hv
  clear hv HA
  simp only [List.length_nil]
  go_wp2
  go_loopw [3, 9] (fun v i wr => v = .slice none 0 0 ∧ i = .int .i64 0 ∧ Below w.heap.size w wr) (fun _ _ _ => 0)
  case atStart => exact ⟨rfl, rfl, hB1⟩
  case round =>
    obtain ⟨rfl, rfl, hBr⟩ := hrel
    go_wp2
    go_ret
    exact ⟨rfl, hBr⟩
end Go.Proofs.YtmdbpkomanhpoaaGreatDoor
