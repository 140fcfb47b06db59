/- cover.Print. -/
import Derived.Shelf.Strings.BuilderK
import Derived.Test.YtaekcfancfoccaaGreatDoorZmCuX
import Derived.Test.YtaekcfancfoccaaGreatDoorZmTxL
import Derived.Test.YtaekcfancfoccaaGreatDoorZmShTr
import Derived.Test.YtaekcfancfoccaaGreatDoorZmZkCvH
namespace Go.Proofs.YtaekcfancfoccaaGreatDoor
open Go.RowKit Go.Lib Go.Shelf

theorem _root_.Go.Lib.BuilderAtF.gr {T e : TypeId} {B b : Nat} {p : Value} {bs : List Value} {w w' : World} (h : BuilderAtF T e B b p bs w) (hg : Gr w w') : BuilderAtF T e B b p bs w' := by
  obtain ⟨hB, v, hb, hown, hne⟩ := h
  have up : ∀ (k : Nat) (o : Obj), w.heap[k]? = some o → w'.heap[k]? = some o := fun k o hk => (hg.block k (Array.getElem?_eq_some_iff.1 hk).1).trans hk
  refine ⟨hB, v, up _ _ hb, ⟨hown.1, ?_⟩, hne⟩
  rcases hown.2 with hn | ⟨g, cap, cur, fz, hv, hbg, hgg, rest⟩
  · exact .inl hn
  · exact .inr ⟨g, cap, cur, fz, hv, hbg, up _ _ hgg, rest⟩
theorem _root_.Go.Lib.IsBuilderF.gr {T e : TypeId} {B b : Nat} {bs : List Value} {w w' : World} (h : IsBuilderF T e B b bs w) (hg : Gr w w') : IsBuilderF T e B b bs w' := h.imp (fun h => h.gr hg) (fun h => h.gr hg)
theorem _root_.Go.Lib.IsBuilderF.lt_ {T e : TypeId} {B b : Nat} {bs : List Value} {w : World} (h : IsBuilderF T e B b bs w) : b < w.heap.size := by
  rcases h with ⟨_, v, hb, _⟩ | ⟨_, v, hb, _⟩ <;> exact (Array.getElem?_eq_some_iff.1 hb).1
theorem wrS_any (b : Nat) (l : List UInt8) (s : ByteArray) (w : World) (h : IsBuilderF 88 5 b b (byteCells l) w) (hlen : l.length + s.size ≤ 10000000) (hBw : b ≤ w.heap.size) :
    Calls Tryz.prog 31 #[.pointer (some ⟨b, 0, none⟩), .string s] w fun e w' => e = .returned (.tuple #[.int .i64 s.size, .nilIface]) ∧ IsBuilderF 88 5 b b (byteCells (l ++ s.data.toList)) w' ∧ Below b w w' ∧ OthersKept 5 (some b) w w' :=
  (Any.Builder_WriteString_k { Tryz.lays156 with } Tryz.Builder_Extra_156 b b (byteCells l) s w h (by rw [byteCells_length]; omega) hBw).mono fun e w' ⟨he, hb, hB, hO⟩ => ⟨he, .inr (by rw [byteCells_append]; exact hb), hB, hO⟩
theorem buStr_any (b : Nat) (l : List UInt8) (w : World) (h : IsBuilderF 88 5 b b (byteCells l) w) (hBw : b ≤ w.heap.size) :
    Calls Tryz.prog 34 #[.pointer (some ⟨b, 0, none⟩)] w fun e w' => e = .returned (.string (strB l)) ∧ Below b w w' :=
  (Any.Builder_String_any_k Tryz.lays169 Tryz.Builder_Extra_169 b b l w h hBw).mono fun _ _ ⟨he, _, hB, _⟩ => ⟨he, hB⟩
theorem kept_gr {w w' : World} (e : TypeId) (b : Option Nat) (h : Gr w w') : OthersKept e b w w' := fun k _ hk _ _ => (h.block k (Array.getElem?_eq_some_iff.1 hk).1).trans hk
theorem own_six {w : World} {g : Nat} {x0 x1 x2 x3 x4 x5 : ByteArray} (h : Blk w g 9 #[.string x0, .string x1, .string x2, .string x3, .string x4, .string x5]) : w.ownsRow 0 9 1 (.slice (some ⟨g, 0, none⟩) 6 6) [x0, x1, x2, x3, x4, x5].length (strsC [x0, x1, x2, x3, x4, x5]) :=
  ⟨rfl, .inr ⟨g, 6, #[.string x0, .string x1, .string x2, .string x3, .string x4, .string x5], rfl, Nat.zero_le _, h, Nat.le_refl 6, by decide, rfl, rfl⟩⟩
set_option maxRecDepth 100000 in
set_option maxHeartbeats 4000000 in
theorem line_any (xs : List ByteArray) (v : Value) (B' b : Nat) (l : List UInt8) (w : World) (hv : w.ownsRow B' 9 1 v xs.length (strsC xs)) (hx : xs ≠ []) (hj : (join (xs.map (·.data.toList)) [32]).length ≤ 100000) (hn : xs.length ≤ 100) (hl : l.length ≤ 1000000)
    (hI : IsBuilderF 88 5 b b (byteCells l) w) :
    Calls Tryz.prog 30 #[v, .pointer (some ⟨b, 0, none⟩)] w fun e w' => (∃ u, e = .returned u) ∧ IsBuilderF 88 5 b b (byteCells (l ++ (join (xs.map (·.data.toList)) [32] ++ [10]))) w' ∧ Below b w w' ∧ OthersKept 5 (some b) w w' := by
  have hbw := hI.lt_
  go_enter Tryz.func30, Tryz.ntmps30
  go_wp2_with fail
  refine (join_own xs 32 v B' _ hv hx (by omega) (by omega)).mono ?_
  rintro e w2 ⟨rfl, hB2⟩
  have hI2 := hI.gr hB2
  have hz2 := Below.size hB2
  obtain ⟨J, hJe⟩ : ∃ J, join (xs.map (·.data.toList)) [32] = J := ⟨_, rfl⟩
  rw [hJe] at hj ⊢
  have hJ : (strB J).size ≤ 100000 := by rw [strB_size]; exact hj
  go_wp2_with fail
  refine (wrS_any b l _ _ hI2 (by rw [ByteArray.size_append]; have : (⟨#[10]⟩ : ByteArray).size = 1 := rfl; omega) (by omega)).mono ?_
  rintro e w3 ⟨rfl, hI3, hB3, hO3⟩
  go_wp2
  go_end0
  refine ⟨⟨_, rfl⟩, ?_, (hB2.mono (by omega)).trans hB3, (kept_gr _ _ hB2).trans hO3⟩
  have e1 : (strB J ++ ⟨#[10]⟩ : ByteArray).data.toList = J ++ [10] := by simp [strB, ByteArray.data_append]
  rw [e1] at hI3
  try rw [hJe]
  exact hI3

set_option maxRecDepth 100000 in
set_option maxHeartbeats 8000000 in
theorem cpReg6 {W w0 : World} {b : Nat} {l : List UInt8} {jb c : Nat} {j : Jo} {A : Option Addr} (hj : PrOk j) (hjb : jb < b) (bj : Blk W jb 24 #[.string j.nm, .int .i64 j.thick, .int .i64 j.zone, .slice A j.fs.length c]) (hL : LibW w0) (hB0 : Below w0.heap.size w0 W) (hw0 : w0.heap.size ≤ b) (hl : l.length ≤ 100000) (hI : IsBuilderF 88 5 b b (byteCells l) W) {t0 t2 t3 t4 t7 t8 t9 t10 t11 t12 t13 t14 t15 t16 t17 t18 t19 t20 t21 t22 t23 t24 t25 t26 t27 t28 t29 t30 t31 t32 t33 t34 t35 t36 t37 t38 t39 t40 t41 t42 t43 t44 t45 t46 t47 t48 t49 t50 t51 t52 t53 t54 t55 : Value} {ds : List Deferred} (Q : Exit → Act → World → Prop)
    (h : ∀ (t15 t16 t17 t18 t19 t20 t21 t22 t23 t24 t25 : Value) (w' : World), Below b W w' → IsBuilderF 88 5 b b (byteCells (l ++ (join (headT j) [32] ++ [10]))) w' → Q .normal ⟨#[t0, .pointer (some ⟨jb, 0, none⟩), t2, t3, t4, .pointer (some ⟨b, 0, none⟩), .func (.func 30) #[] #[.pointer (some ⟨b, 0, none⟩)], t7, t8, t9, t10, t11, t12, t13, t14, t15, t16, t17, t18, t19, t20, t21, t22, t23, t24, t25, t26, t27, t28, t29, t30, t31, t32, t33, t34, t35, t36, t37, t38, t39, t40, t41, t42, t43, t44, t45, t46, t47, t48, t49, t50, t51, t52, t53, t54, t55], ds⟩ w') :
    (regOf Tryz.f7 6).wp Tryz.prog Q ⟨#[t0, .pointer (some ⟨jb, 0, none⟩), t2, t3, t4, .pointer (some ⟨b, 0, none⟩), .func (.func 30) #[] #[.pointer (some ⟨b, 0, none⟩)], t7, t8, t9, t10, t11, t12, t13, t14, t15, t16, t17, t18, t19, t20, t21, t22, t23, t24, t25, t26, t27, t28, t29, t30, t31, t32, t33, t34, t35, t36, t37, t38, t39, t40, t41, t42, t43, t44, t45, t46, t47, t48, t49, t50, t51, t52, t53, t54, t55], ds⟩ W := by
  have H := Lib.hid h; clear h
  have hbW := hI.lt_
  have h12 := hj.nm
  have ht := hj.thick
  have hz := hj.zone
  have s1 : (itoa j.thick).length ≤ 20 := itoa_le hj.thick
  have s2 : (itoa j.zone).length ≤ 20 := itoa_le hj.zone
  have HT : Hid (join (headT j) [32] = join ([⟨#[106, 111, 105, 110, 116]⟩, j.nm, ⟨#[116, 104, 105, 99, 107]⟩, strB (itoa j.thick), ⟨#[122, 111, 110, 101]⟩, strB (itoa j.zone)].map (·.data.toList)) [32]) := Lib.hid rfl
  have HLN : Hid ((join (headT j) [32]).length ≤ 100000) := Lib.hid (by
    have h1 := join_len2 (headT j)
    have a5 := arr_len j.nm
    simp only [headT, List.map_cons, List.map_nil, List.sum_cons, List.sum_nil, List.length_cons, List.length_nil] at h1 ⊢
    omega)
  rw [HT.out] at H HLN
  generalize j.nm = nm at *
  generalize j.thick = th at *
  generalize j.zone = zo at *
  conv in (regOf _ _) => whnf
  refine wp_region_w (fun w' => Below b W w') (by kernel_rfl) ((Below.refl _ _).drew) ?_
  refine wpW_det (t' := ?ct0R1) 0 (by rfl) (by kernel_rfl) (NQ_free _) (by kernel_rfl) ?cw0R1 ?ch0R1 ?ca0R1 (Eq.refl _) ?cH0R1
  case cw0R1 => (go_simp; done)
  case ch0R1 =>
    intro ds w' hS K hK
    have hSB : Below b W w' := hS
    have bjS := bj.below hS hjb
    obtain ⟨j0, j1, j2, j3, jf⟩ := blk4 bjS
    have lj := bjS.lt
    go_simp
    try go_bits
    first
      | exact hK _ hS (Gr.refl _)
      | (go_at_call 33; refine (itoa_any _ (by omega) (by omega) _ (hL.below (hB0.trans (hSB.mono hw0)) (Nat.le_refl _))).mono ?_; rintro e wq ⟨rfl, hBq⟩; exact hK _ (Below.trans hSB (Below.mono hBq (Nat.le_trans (Nat.le_of_lt hbW) hSB.size))) hBq)
  case ca0R1 => (first | (simp [Act.put]; done) | (simp [Act.put, *]; done))
  try dsimp only
  refine wpW_det (t' := ?ct1R1) 1 (by rfl) (by kernel_rfl) (NQ_free _) (by kernel_rfl) ?cw1R1 ?ch1R1 ?ca1R1 (Eq.refl _) ?cH1R1
  case cw1R1 => (go_simp; done)
  case ch1R1 =>
    intro ds w' hS K hK
    have hSB : Below b W w' := hS
    have bjS := bj.below hS hjb
    obtain ⟨j0, j1, j2, j3, jf⟩ := blk4 bjS
    have lj := bjS.lt
    go_simp
    try go_bits
    first
      | exact hK _ hS (Gr.refl _)
      | (go_at_call 33; refine (itoa_any _ (by omega) (by omega) _ (hL.below (hB0.trans (hSB.mono hw0)) (Nat.le_refl _))).mono ?_; rintro e wq ⟨rfl, hBq⟩; exact hK _ (Below.trans hSB (Below.mono hBq (Nat.le_trans (Nat.le_of_lt hbW) hSB.size))) hBq)
  case ca1R1 => (first | (simp [Act.put]; done) | (simp [Act.put, *]; done))
  try dsimp only
  refine wpW_det (t' := ?ct2R1) 2 (by rfl) (by kernel_rfl) (NQ_free _) (by kernel_rfl) ?cw2R1 ?ch2R1 ?ca2R1 (Eq.refl _) ?cH2R1
  case cw2R1 => (go_simp; done)
  case ch2R1 =>
    intro ds w' hS K hK
    have hSB : Below b W w' := hS
    have bjS := bj.below hS hjb
    obtain ⟨j0, j1, j2, j3, jf⟩ := blk4 bjS
    have lj := bjS.lt
    go_simp
    try go_bits
    first
      | exact hK _ hS (Gr.refl _)
      | (go_at_call 33; refine (itoa_any _ (by omega) (by omega) _ (hL.below (hB0.trans (hSB.mono hw0)) (Nat.le_refl _))).mono ?_; rintro e wq ⟨rfl, hBq⟩; exact hK _ (Below.trans hSB (Below.mono hBq (Nat.le_trans (Nat.le_of_lt hbW) hSB.size))) hBq)
  case ca2R1 => (first | (simp [Act.put]; done) | (simp [Act.put, *]; done))
  try dsimp only
  refine wpW_det (t' := ?ct3R1) 3 (by rfl) (by kernel_rfl) (NQ_free _) (by kernel_rfl) ?cw3R1 ?ch3R1 ?ca3R1 (Eq.refl _) ?cH3R1
  case cw3R1 => (go_simp; done)
  case ch3R1 =>
    intro ds w' hS K hK
    have hSB : Below b W w' := hS
    have bjS := bj.below hS hjb
    obtain ⟨j0, j1, j2, j3, jf⟩ := blk4 bjS
    have lj := bjS.lt
    go_simp
    try go_bits
    first
      | exact hK _ hS (Gr.refl _)
      | (go_at_call 33; refine (itoa_any _ (by omega) (by omega) _ (hL.below (hB0.trans (hSB.mono hw0)) (Nat.le_refl _))).mono ?_; rintro e wq ⟨rfl, hBq⟩; exact hK _ (Below.trans hSB (Below.mono hBq (Nat.le_trans (Nat.le_of_lt hbW) hSB.size))) hBq)
  case ca3R1 => (first | (simp [Act.put]; done) | (simp [Act.put, *]; done))
  try dsimp only
  refine wpW_det (t' := ?ct4R1) 4 (by rfl) (by kernel_rfl) (NQ_free _) (by kernel_rfl) ?cw4R1 ?ch4R1 ?ca4R1 (Eq.refl _) ?cH4R1
  case cw4R1 => (go_simp; done)
  case ch4R1 =>
    intro ds w' hS K hK
    have hSB : Below b W w' := hS
    have bjS := bj.below hS hjb
    obtain ⟨j0, j1, j2, j3, jf⟩ := blk4 bjS
    have lj := bjS.lt
    go_simp
    try go_bits
    first
      | exact hK _ hS (Gr.refl _)
      | (go_at_call 33; refine (itoa_any _ (by omega) (by omega) _ (hL.below (hB0.trans (hSB.mono hw0)) (Nat.le_refl _))).mono ?_; rintro e wq ⟨rfl, hBq⟩; exact hK _ (Below.trans hSB (Below.mono hBq (Nat.le_trans (Nat.le_of_lt hbW) hSB.size))) hBq)
  case ca4R1 => (first | (simp [Act.put]; done) | (simp [Act.put, *]; done))
  try dsimp only
  refine wpW_det (t' := ?ct5R1) 5 (by rfl) (by kernel_rfl) (NQ_free _) (by kernel_rfl) ?cw5R1 ?ch5R1 ?ca5R1 (Eq.refl _) ?cH5R1
  case cw5R1 => (go_simp; done)
  case ch5R1 =>
    intro ds w' hS K hK
    have hSB : Below b W w' := hS
    have bjS := bj.below hS hjb
    obtain ⟨j0, j1, j2, j3, jf⟩ := blk4 bjS
    have lj := bjS.lt
    go_simp
    try go_bits
    first
      | exact hK _ hS (Gr.refl _)
      | (go_at_call 33; refine (itoa_any _ (by omega) (by omega) _ (hL.below (hB0.trans (hSB.mono hw0)) (Nat.le_refl _))).mono ?_; rintro e wq ⟨rfl, hBq⟩; exact hK _ (Below.trans hSB (Below.mono hBq (Nat.le_trans (Nat.le_of_lt hbW) hSB.size))) hBq)
  case ca5R1 => (first | (simp [Act.put]; done) | (simp [Act.put, *]; done))
  try dsimp only
  refine wpW_det (t' := ?ct6R1) 6 (by rfl) (by kernel_rfl) (NQ_free _) (by kernel_rfl) ?cw6R1 ?ch6R1 ?ca6R1 (Eq.refl _) ?cH6R1
  case cw6R1 => (go_simp; done)
  case ch6R1 =>
    intro ds w' hS K hK
    have hSB : Below b W w' := hS
    have bjS := bj.below hS hjb
    obtain ⟨j0, j1, j2, j3, jf⟩ := blk4 bjS
    have lj := bjS.lt
    go_simp
    try go_bits
    first
      | exact hK _ hS (Gr.refl _)
      | (go_at_call 33; refine (itoa_any _ (by omega) (by omega) _ (hL.below (hB0.trans (hSB.mono hw0)) (Nat.le_refl _))).mono ?_; rintro e wq ⟨rfl, hBq⟩; exact hK _ (Below.trans hSB (Below.mono hBq (Nat.le_trans (Nat.le_of_lt hbW) hSB.size))) hBq)
  case ca6R1 => (first | (simp [Act.put]; done) | (simp [Act.put, *]; done))
  try dsimp only
  refine wpW_det (t' := ?ct7R1) 7 (by rfl) (by kernel_rfl) (NQ_free _) (by kernel_rfl) ?cw7R1 ?ch7R1 ?ca7R1 (Eq.refl _) ?cH7R1
  case cw7R1 => (go_simp; done)
  case ch7R1 =>
    intro ds w' hS K hK
    have hSB : Below b W w' := hS
    have bjS := bj.below hS hjb
    obtain ⟨j0, j1, j2, j3, jf⟩ := blk4 bjS
    have lj := bjS.lt
    go_simp
    try go_bits
    first
      | exact hK _ hS (Gr.refl _)
      | (go_at_call 33; refine (itoa_any _ (by omega) (by omega) _ (hL.below (hB0.trans (hSB.mono hw0)) (Nat.le_refl _))).mono ?_; rintro e wq ⟨rfl, hBq⟩; exact hK _ (Below.trans hSB (Below.mono hBq (Nat.le_trans (Nat.le_of_lt hbW) hSB.size))) hBq)
  case ca7R1 => (first | (simp [Act.put]; done) | (simp [Act.put, *]; done))
  try dsimp only
  refine wpW_det (t' := ?ct8R1) 8 (by rfl) (by kernel_rfl) (NQ_free _) (by kernel_rfl) ?cw8R1 ?ch8R1 ?ca8R1 (Eq.refl _) ?cH8R1
  case cw8R1 => (go_simp; done)
  case ch8R1 =>
    intro ds w' hS K hK
    have hSB : Below b W w' := hS
    have bjS := bj.below hS hjb
    obtain ⟨j0, j1, j2, j3, jf⟩ := blk4 bjS
    have lj := bjS.lt
    go_simp
    try go_bits
    first
      | exact hK _ hS (Gr.refl _)
      | (go_at_call 33; refine (itoa_any _ (by omega) (by omega) _ (hL.below (hB0.trans (hSB.mono hw0)) (Nat.le_refl _))).mono ?_; rintro e wq ⟨rfl, hBq⟩; exact hK _ (Below.trans hSB (Below.mono hBq (Nat.le_trans (Nat.le_of_lt hbW) hSB.size))) hBq)
  case ca8R1 => (first | (simp [Act.put]; done) | (simp [Act.put, *]; done))
  try dsimp only
  have hI : IsBuilderF 88 5 b b (byteCells l) W.drew := hI
  refine wpW_branch [9] (by kernel_rfl) (by simp) ?_
  intro w1 hg1 hS1
  try replace hI := hI.gr hg1
  try replace bw := bw.gr hg1
  refine each_cons ?_ (each_nil)
  · refine wpOp_go (by rfl) (Eq.refl _) (by go_simp; done) ?_
    intro K hK
    go_simp
    try simp only [Act.put]
    have bw := Blk.new w1 9 #[.string ⟨#[106, 111, 105, 110, 116]⟩, .string nm, .string ⟨#[116, 104, 105, 99, 107]⟩, .string (strB (itoa th)), .string ⟨#[122, 111, 110, 101]⟩, .string (strB (itoa zo))]
    have hal : Gr w1 (w1.alloc (.cells #[.string ⟨#[106, 111, 105, 110, 116]⟩, .string nm, .string ⟨#[116, 104, 105, 99, 107]⟩, .string (strB (itoa th)), .string ⟨#[122, 111, 110, 101]⟩, .string (strB (itoa zo))] 9)) := (Below.refl _ _).alloc (Nat.le_refl _) _
    have hI := (hI.gr hal)
    have hSB : Below b W w1 := hS1
    have hzb : b ≤ w1.heap.size := Nat.le_trans (Nat.le_of_lt hbW) (Below.size hSB)
    refine hK _ _ (Below.trans hS1 (hal.mono hzb)) ?_
    clear hK K hal hSB
    generalize w1.heap.size = gw at *
    refine wpW_branch [10] (by kernel_rfl) (by simp) ?_
    intro w2 hg2 hS2
    try replace hI := hI.gr hg2
    try replace bw := bw.gr hg2
    refine each_cons ?_ (each_nil)
    · refine wpOp_go (by rfl) (Eq.refl _) (by go_simp; done) ?_
      intro K hK
      go_simp
      try simp only [Act.put]
      refine (line_any [⟨#[106, 111, 105, 110, 116]⟩, nm, ⟨#[116, 104, 105, 99, 107]⟩, strB (itoa th), ⟨#[122, 111, 110, 101]⟩, strB (itoa zo)] _ 0 b l _ (own_six bw) (by simp) (HLN.out) (by simp) (by omega) hI).mono ?_
      rintro e wq ⟨⟨u, rfl⟩, hI2, hBq, hOK⟩
      refine hK _ _ (Below.trans hS2 hBq) ?_
      clear hK K hI
      refine wpW_end (by kernel_rfl) ?_
      intro we hg hS
      unfold NQ
      dsimp only
      exact H.out _ _ _ _ _ _ _ _ _ _ _ we (hS) (hI2.gr hg)

set_option maxRecDepth 100000 in
set_option maxHeartbeats 8000000 in
theorem cpReg10 {W w0 : World} {b : Nat} {l : List UInt8} {fb : Nat} {p : ByteArray × Fc} (hp : p.1.size ≤ 12 ∧ (-1000000 ≤ p.2.fx ∧ p.2.fx ≤ 1000000) ∧ (-1000000 ≤ p.2.fz ∧ p.2.fz ≤ 1000000) ∧ (-1000000 ≤ p.2.tx ∧ p.2.tx ≤ 1000000) ∧ (-1000000 ≤ p.2.tz ∧ p.2.tz ≤ 1000000)) (hfb : b < fb) (bf : Blk W fb 83 #[.string p.1, .int .i64 p.2.fx, .int .i64 p.2.fz, .int .i64 p.2.tx, .int .i64 p.2.tz]) (hL : LibW w0) (hB0 : Below w0.heap.size w0 W) (hw0 : w0.heap.size ≤ b) (hl : l.length ≤ 100000) (hI : IsBuilderF 88 5 b b (byteCells l) W) {t0 t1 t2 t3 t4 t7 t9 t10 t11 t12 t13 t14 t15 t16 t17 t18 t19 t20 t21 t22 t23 t24 t25 t26 t27 t28 t29 t30 t31 t32 t33 t34 t35 t36 t37 t38 t39 t40 t41 t42 t43 t44 t45 t46 t47 t48 t49 t50 t51 t52 t53 t54 t55 : Value} {ds : List Deferred} (Q : Exit → Act → World → Prop)
    (h : ∀ (t33 t34 t35 t36 t37 t38 t39 t40 t41 t42 t43 t44 t45 t46 t47 t48 t49 t50 t51 t52 t53 : Value) (w' : World), Below b W w' → IsBuilderF 88 5 b b (byteCells (l ++ faceLn p)) w' → Q .normal ⟨#[t0, t1, t2, t3, t4, .pointer (some ⟨b, 0, none⟩), .func (.func 30) #[] #[.pointer (some ⟨b, 0, none⟩)], t7, .pointer (some ⟨fb, 0, none⟩), t9, t10, t11, t12, t13, t14, t15, t16, t17, t18, t19, t20, t21, t22, t23, t24, t25, t26, t27, t28, t29, t30, t31, t32, t33, t34, t35, t36, t37, t38, t39, t40, t41, t42, t43, t44, t45, t46, t47, t48, t49, t50, t51, t52, t53, t54, t55], ds⟩ w') :
    (regOf Tryz.f7 10).wp Tryz.prog Q ⟨#[t0, t1, t2, t3, t4, .pointer (some ⟨b, 0, none⟩), .func (.func 30) #[] #[.pointer (some ⟨b, 0, none⟩)], t7, .pointer (some ⟨fb, 0, none⟩), t9, t10, t11, t12, t13, t14, t15, t16, t17, t18, t19, t20, t21, t22, t23, t24, t25, t26, t27, t28, t29, t30, t31, t32, t33, t34, t35, t36, t37, t38, t39, t40, t41, t42, t43, t44, t45, t46, t47, t48, t49, t50, t51, t52, t53, t54, t55], ds⟩ W := by
  have H := Lib.hid h; clear h
  have hbW := hI.lt_
  have q1 := hp.2.1
  have q2 := hp.2.2.1
  have q3 := hp.2.2.2.1
  have q4 := hp.2.2.2.2
  have HLN : Hid ((faceLn p).length ≤ 200) := Lib.hid (faceLn_len hp)
  have HT : Hid (faceLn p = join ([⟨#[102, 97, 99, 101]⟩, p.1, strB (itoa p.2.fx), strB (itoa p.2.fz), strB (itoa p.2.tx), strB (itoa p.2.tz)].map (·.data.toList)) [32] ++ [10]) := Lib.hid rfl
  rw [HT.out] at H HLN
  replace HLN : Hid ((join ([⟨#[102, 97, 99, 101]⟩, p.1, strB (itoa p.2.fx), strB (itoa p.2.fz), strB (itoa p.2.tx), strB (itoa p.2.tz)].map (·.data.toList)) [32]).length ≤ 100000) := Lib.hid (by have h1 := HLN.out; rw [List.length_append] at h1; omega)
  clear HT hp
  obtain ⟨nm, fx, fz, tx, tz⟩ := p
  simp only at *
  conv in (regOf _ _) => whnf
  refine wp_region_w (fun w' => Below b W w' ∧ Blk w' fb 83 #[.string nm, .int .i64 fx, .int .i64 fz, .int .i64 tx, .int .i64 tz]) (by kernel_rfl) (⟨(Below.refl _ _).drew, bf.drew⟩) ?_
  refine wpW_det (t' := ?ct0R2) 0 (by rfl) (by kernel_rfl) (NQ_free _) (by kernel_rfl) ?cw0R2 ?ch0R2 ?ca0R2 (Eq.refl _) ?cH0R2
  case cw0R2 => (go_simp; done)
  case ch0R2 =>
    intro ds w' hS K hK
    have hSB : Below b W w' := hS.1
    obtain ⟨f0, f1, f2, f3, f4, ff⟩ := blk5 hS.2
    have lf := hS.2.lt
    go_simp
    try go_bits
    first
      | exact hK _ hS (Gr.refl _)
      | (go_at_call 33; refine (itoa_any _ (by omega) (by omega) _ (hL.below (hB0.trans (hSB.mono hw0)) (Nat.le_refl _))).mono ?_; rintro e wq ⟨rfl, hBq⟩; exact hK _ (⟨Below.trans hSB (Below.mono hBq (Nat.le_trans (Nat.le_of_lt hbW) hSB.size)), hS.2.gr hBq⟩) hBq)
  case ca0R2 => (first | (simp [Act.put]; done) | (simp [Act.put, *]; done))
  try dsimp only
  refine wpW_det (t' := ?ct1R2) 1 (by rfl) (by kernel_rfl) (NQ_free _) (by kernel_rfl) ?cw1R2 ?ch1R2 ?ca1R2 (Eq.refl _) ?cH1R2
  case cw1R2 => (go_simp; done)
  case ch1R2 =>
    intro ds w' hS K hK
    have hSB : Below b W w' := hS.1
    obtain ⟨f0, f1, f2, f3, f4, ff⟩ := blk5 hS.2
    have lf := hS.2.lt
    go_simp
    try go_bits
    first
      | exact hK _ hS (Gr.refl _)
      | (go_at_call 33; refine (itoa_any _ (by omega) (by omega) _ (hL.below (hB0.trans (hSB.mono hw0)) (Nat.le_refl _))).mono ?_; rintro e wq ⟨rfl, hBq⟩; exact hK _ (⟨Below.trans hSB (Below.mono hBq (Nat.le_trans (Nat.le_of_lt hbW) hSB.size)), hS.2.gr hBq⟩) hBq)
  case ca1R2 => (first | (simp [Act.put]; done) | (simp [Act.put, *]; done))
  try dsimp only
  refine wpW_det (t' := ?ct2R2) 2 (by rfl) (by kernel_rfl) (NQ_free _) (by kernel_rfl) ?cw2R2 ?ch2R2 ?ca2R2 (Eq.refl _) ?cH2R2
  case cw2R2 => (go_simp; done)
  case ch2R2 =>
    intro ds w' hS K hK
    have hSB : Below b W w' := hS.1
    obtain ⟨f0, f1, f2, f3, f4, ff⟩ := blk5 hS.2
    have lf := hS.2.lt
    go_simp
    try go_bits
    first
      | exact hK _ hS (Gr.refl _)
      | (go_at_call 33; refine (itoa_any _ (by omega) (by omega) _ (hL.below (hB0.trans (hSB.mono hw0)) (Nat.le_refl _))).mono ?_; rintro e wq ⟨rfl, hBq⟩; exact hK _ (⟨Below.trans hSB (Below.mono hBq (Nat.le_trans (Nat.le_of_lt hbW) hSB.size)), hS.2.gr hBq⟩) hBq)
  case ca2R2 => (first | (simp [Act.put]; done) | (simp [Act.put, *]; done))
  try dsimp only
  refine wpW_det (t' := ?ct3R2) 3 (by rfl) (by kernel_rfl) (NQ_free _) (by kernel_rfl) ?cw3R2 ?ch3R2 ?ca3R2 (Eq.refl _) ?cH3R2
  case cw3R2 => (go_simp; done)
  case ch3R2 =>
    intro ds w' hS K hK
    have hSB : Below b W w' := hS.1
    obtain ⟨f0, f1, f2, f3, f4, ff⟩ := blk5 hS.2
    have lf := hS.2.lt
    go_simp
    try go_bits
    first
      | exact hK _ hS (Gr.refl _)
      | (go_at_call 33; refine (itoa_any _ (by omega) (by omega) _ (hL.below (hB0.trans (hSB.mono hw0)) (Nat.le_refl _))).mono ?_; rintro e wq ⟨rfl, hBq⟩; exact hK _ (⟨Below.trans hSB (Below.mono hBq (Nat.le_trans (Nat.le_of_lt hbW) hSB.size)), hS.2.gr hBq⟩) hBq)
  case ca3R2 => (first | (simp [Act.put]; done) | (simp [Act.put, *]; done))
  try dsimp only
  refine wpW_det (t' := ?ct4R2) 4 (by rfl) (by kernel_rfl) (NQ_free _) (by kernel_rfl) ?cw4R2 ?ch4R2 ?ca4R2 (Eq.refl _) ?cH4R2
  case cw4R2 => (go_simp; done)
  case ch4R2 =>
    intro ds w' hS K hK
    have hSB : Below b W w' := hS.1
    obtain ⟨f0, f1, f2, f3, f4, ff⟩ := blk5 hS.2
    have lf := hS.2.lt
    go_simp
    try go_bits
    first
      | exact hK _ hS (Gr.refl _)
      | (go_at_call 33; refine (itoa_any _ (by omega) (by omega) _ (hL.below (hB0.trans (hSB.mono hw0)) (Nat.le_refl _))).mono ?_; rintro e wq ⟨rfl, hBq⟩; exact hK _ (⟨Below.trans hSB (Below.mono hBq (Nat.le_trans (Nat.le_of_lt hbW) hSB.size)), hS.2.gr hBq⟩) hBq)
  case ca4R2 => (first | (simp [Act.put]; done) | (simp [Act.put, *]; done))
  try dsimp only
  refine wpW_det (t' := ?ct5R2) 5 (by rfl) (by kernel_rfl) (NQ_free _) (by kernel_rfl) ?cw5R2 ?ch5R2 ?ca5R2 (Eq.refl _) ?cH5R2
  case cw5R2 => (go_simp; done)
  case ch5R2 =>
    intro ds w' hS K hK
    have hSB : Below b W w' := hS.1
    obtain ⟨f0, f1, f2, f3, f4, ff⟩ := blk5 hS.2
    have lf := hS.2.lt
    go_simp
    try go_bits
    first
      | exact hK _ hS (Gr.refl _)
      | (go_at_call 33; refine (itoa_any _ (by omega) (by omega) _ (hL.below (hB0.trans (hSB.mono hw0)) (Nat.le_refl _))).mono ?_; rintro e wq ⟨rfl, hBq⟩; exact hK _ (⟨Below.trans hSB (Below.mono hBq (Nat.le_trans (Nat.le_of_lt hbW) hSB.size)), hS.2.gr hBq⟩) hBq)
  case ca5R2 => (first | (simp [Act.put]; done) | (simp [Act.put, *]; done))
  try dsimp only
  refine wpW_det (t' := ?ct6R2) 6 (by rfl) (by kernel_rfl) (NQ_free _) (by kernel_rfl) ?cw6R2 ?ch6R2 ?ca6R2 (Eq.refl _) ?cH6R2
  case cw6R2 => (go_simp; done)
  case ch6R2 =>
    intro ds w' hS K hK
    have hSB : Below b W w' := hS.1
    obtain ⟨f0, f1, f2, f3, f4, ff⟩ := blk5 hS.2
    have lf := hS.2.lt
    go_simp
    try go_bits
    first
      | exact hK _ hS (Gr.refl _)
      | (go_at_call 33; refine (itoa_any _ (by omega) (by omega) _ (hL.below (hB0.trans (hSB.mono hw0)) (Nat.le_refl _))).mono ?_; rintro e wq ⟨rfl, hBq⟩; exact hK _ (⟨Below.trans hSB (Below.mono hBq (Nat.le_trans (Nat.le_of_lt hbW) hSB.size)), hS.2.gr hBq⟩) hBq)
  case ca6R2 => (first | (simp [Act.put]; done) | (simp [Act.put, *]; done))
  try dsimp only
  refine wpW_det (t' := ?ct7R2) 7 (by rfl) (by kernel_rfl) (NQ_free _) (by kernel_rfl) ?cw7R2 ?ch7R2 ?ca7R2 (Eq.refl _) ?cH7R2
  case cw7R2 => (go_simp; done)
  case ch7R2 =>
    intro ds w' hS K hK
    have hSB : Below b W w' := hS.1
    obtain ⟨f0, f1, f2, f3, f4, ff⟩ := blk5 hS.2
    have lf := hS.2.lt
    go_simp
    try go_bits
    first
      | exact hK _ hS (Gr.refl _)
      | (go_at_call 33; refine (itoa_any _ (by omega) (by omega) _ (hL.below (hB0.trans (hSB.mono hw0)) (Nat.le_refl _))).mono ?_; rintro e wq ⟨rfl, hBq⟩; exact hK _ (⟨Below.trans hSB (Below.mono hBq (Nat.le_trans (Nat.le_of_lt hbW) hSB.size)), hS.2.gr hBq⟩) hBq)
  case ca7R2 => (first | (simp [Act.put]; done) | (simp [Act.put, *]; done))
  try dsimp only
  refine wpW_det (t' := ?ct8R2) 8 (by rfl) (by kernel_rfl) (NQ_free _) (by kernel_rfl) ?cw8R2 ?ch8R2 ?ca8R2 (Eq.refl _) ?cH8R2
  case cw8R2 => (go_simp; done)
  case ch8R2 =>
    intro ds w' hS K hK
    have hSB : Below b W w' := hS.1
    obtain ⟨f0, f1, f2, f3, f4, ff⟩ := blk5 hS.2
    have lf := hS.2.lt
    go_simp
    try go_bits
    first
      | exact hK _ hS (Gr.refl _)
      | (go_at_call 33; refine (itoa_any _ (by omega) (by omega) _ (hL.below (hB0.trans (hSB.mono hw0)) (Nat.le_refl _))).mono ?_; rintro e wq ⟨rfl, hBq⟩; exact hK _ (⟨Below.trans hSB (Below.mono hBq (Nat.le_trans (Nat.le_of_lt hbW) hSB.size)), hS.2.gr hBq⟩) hBq)
  case ca8R2 => (first | (simp [Act.put]; done) | (simp [Act.put, *]; done))
  try dsimp only
  refine wpW_det (t' := ?ct9R2) 9 (by rfl) (by kernel_rfl) (NQ_free _) (by kernel_rfl) ?cw9R2 ?ch9R2 ?ca9R2 (Eq.refl _) ?cH9R2
  case cw9R2 => (go_simp; done)
  case ch9R2 =>
    intro ds w' hS K hK
    have hSB : Below b W w' := hS.1
    obtain ⟨f0, f1, f2, f3, f4, ff⟩ := blk5 hS.2
    have lf := hS.2.lt
    go_simp
    try go_bits
    first
      | exact hK _ hS (Gr.refl _)
      | (go_at_call 33; refine (itoa_any _ (by omega) (by omega) _ (hL.below (hB0.trans (hSB.mono hw0)) (Nat.le_refl _))).mono ?_; rintro e wq ⟨rfl, hBq⟩; exact hK _ (⟨Below.trans hSB (Below.mono hBq (Nat.le_trans (Nat.le_of_lt hbW) hSB.size)), hS.2.gr hBq⟩) hBq)
  case ca9R2 => (first | (simp [Act.put]; done) | (simp [Act.put, *]; done))
  try dsimp only
  refine wpW_det (t' := ?ct10R2) 10 (by rfl) (by kernel_rfl) (NQ_free _) (by kernel_rfl) ?cw10R2 ?ch10R2 ?ca10R2 (Eq.refl _) ?cH10R2
  case cw10R2 => (go_simp; done)
  case ch10R2 =>
    intro ds w' hS K hK
    have hSB : Below b W w' := hS.1
    obtain ⟨f0, f1, f2, f3, f4, ff⟩ := blk5 hS.2
    have lf := hS.2.lt
    go_simp
    try go_bits
    first
      | exact hK _ hS (Gr.refl _)
      | (go_at_call 33; refine (itoa_any _ (by omega) (by omega) _ (hL.below (hB0.trans (hSB.mono hw0)) (Nat.le_refl _))).mono ?_; rintro e wq ⟨rfl, hBq⟩; exact hK _ (⟨Below.trans hSB (Below.mono hBq (Nat.le_trans (Nat.le_of_lt hbW) hSB.size)), hS.2.gr hBq⟩) hBq)
  case ca10R2 => (first | (simp [Act.put]; done) | (simp [Act.put, *]; done))
  try dsimp only
  refine wpW_det (t' := ?ct11R2) 11 (by rfl) (by kernel_rfl) (NQ_free _) (by kernel_rfl) ?cw11R2 ?ch11R2 ?ca11R2 (Eq.refl _) ?cH11R2
  case cw11R2 => (go_simp; done)
  case ch11R2 =>
    intro ds w' hS K hK
    have hSB : Below b W w' := hS.1
    obtain ⟨f0, f1, f2, f3, f4, ff⟩ := blk5 hS.2
    have lf := hS.2.lt
    go_simp
    try go_bits
    first
      | exact hK _ hS (Gr.refl _)
      | (go_at_call 33; refine (itoa_any _ (by omega) (by omega) _ (hL.below (hB0.trans (hSB.mono hw0)) (Nat.le_refl _))).mono ?_; rintro e wq ⟨rfl, hBq⟩; exact hK _ (⟨Below.trans hSB (Below.mono hBq (Nat.le_trans (Nat.le_of_lt hbW) hSB.size)), hS.2.gr hBq⟩) hBq)
  case ca11R2 => (first | (simp [Act.put]; done) | (simp [Act.put, *]; done))
  try dsimp only
  refine wpW_det (t' := ?ct12R2) 12 (by rfl) (by kernel_rfl) (NQ_free _) (by kernel_rfl) ?cw12R2 ?ch12R2 ?ca12R2 (Eq.refl _) ?cH12R2
  case cw12R2 => (go_simp; done)
  case ch12R2 =>
    intro ds w' hS K hK
    have hSB : Below b W w' := hS.1
    obtain ⟨f0, f1, f2, f3, f4, ff⟩ := blk5 hS.2
    have lf := hS.2.lt
    go_simp
    try go_bits
    first
      | exact hK _ hS (Gr.refl _)
      | (go_at_call 33; refine (itoa_any _ (by omega) (by omega) _ (hL.below (hB0.trans (hSB.mono hw0)) (Nat.le_refl _))).mono ?_; rintro e wq ⟨rfl, hBq⟩; exact hK _ (⟨Below.trans hSB (Below.mono hBq (Nat.le_trans (Nat.le_of_lt hbW) hSB.size)), hS.2.gr hBq⟩) hBq)
  case ca12R2 => (first | (simp [Act.put]; done) | (simp [Act.put, *]; done))
  try dsimp only
  refine wpW_det (t' := ?ct13R2) 13 (by rfl) (by kernel_rfl) (NQ_free _) (by kernel_rfl) ?cw13R2 ?ch13R2 ?ca13R2 (Eq.refl _) ?cH13R2
  case cw13R2 => (go_simp; done)
  case ch13R2 =>
    intro ds w' hS K hK
    have hSB : Below b W w' := hS.1
    obtain ⟨f0, f1, f2, f3, f4, ff⟩ := blk5 hS.2
    have lf := hS.2.lt
    go_simp
    try go_bits
    first
      | exact hK _ hS (Gr.refl _)
      | (go_at_call 33; refine (itoa_any _ (by omega) (by omega) _ (hL.below (hB0.trans (hSB.mono hw0)) (Nat.le_refl _))).mono ?_; rintro e wq ⟨rfl, hBq⟩; exact hK _ (⟨Below.trans hSB (Below.mono hBq (Nat.le_trans (Nat.le_of_lt hbW) hSB.size)), hS.2.gr hBq⟩) hBq)
  case ca13R2 => (first | (simp [Act.put]; done) | (simp [Act.put, *]; done))
  try dsimp only
  refine wpW_det (t' := ?ct14R2) 14 (by rfl) (by kernel_rfl) (NQ_free _) (by kernel_rfl) ?cw14R2 ?ch14R2 ?ca14R2 (Eq.refl _) ?cH14R2
  case cw14R2 => (go_simp; done)
  case ch14R2 =>
    intro ds w' hS K hK
    have hSB : Below b W w' := hS.1
    obtain ⟨f0, f1, f2, f3, f4, ff⟩ := blk5 hS.2
    have lf := hS.2.lt
    go_simp
    try go_bits
    first
      | exact hK _ hS (Gr.refl _)
      | (go_at_call 33; refine (itoa_any _ (by omega) (by omega) _ (hL.below (hB0.trans (hSB.mono hw0)) (Nat.le_refl _))).mono ?_; rintro e wq ⟨rfl, hBq⟩; exact hK _ (⟨Below.trans hSB (Below.mono hBq (Nat.le_trans (Nat.le_of_lt hbW) hSB.size)), hS.2.gr hBq⟩) hBq)
  case ca14R2 => (first | (simp [Act.put]; done) | (simp [Act.put, *]; done))
  try dsimp only
  refine wpW_det (t' := ?ct15R2) 15 (by rfl) (by kernel_rfl) (NQ_free _) (by kernel_rfl) ?cw15R2 ?ch15R2 ?ca15R2 (Eq.refl _) ?cH15R2
  case cw15R2 => (go_simp; done)
  case ch15R2 =>
    intro ds w' hS K hK
    have hSB : Below b W w' := hS.1
    obtain ⟨f0, f1, f2, f3, f4, ff⟩ := blk5 hS.2
    have lf := hS.2.lt
    go_simp
    try go_bits
    first
      | exact hK _ hS (Gr.refl _)
      | (go_at_call 33; refine (itoa_any _ (by omega) (by omega) _ (hL.below (hB0.trans (hSB.mono hw0)) (Nat.le_refl _))).mono ?_; rintro e wq ⟨rfl, hBq⟩; exact hK _ (⟨Below.trans hSB (Below.mono hBq (Nat.le_trans (Nat.le_of_lt hbW) hSB.size)), hS.2.gr hBq⟩) hBq)
  case ca15R2 => (first | (simp [Act.put]; done) | (simp [Act.put, *]; done))
  try dsimp only
  refine wpW_det (t' := ?ct16R2) 16 (by rfl) (by kernel_rfl) (NQ_free _) (by kernel_rfl) ?cw16R2 ?ch16R2 ?ca16R2 (Eq.refl _) ?cH16R2
  case cw16R2 => (go_simp; done)
  case ch16R2 =>
    intro ds w' hS K hK
    have hSB : Below b W w' := hS.1
    obtain ⟨f0, f1, f2, f3, f4, ff⟩ := blk5 hS.2
    have lf := hS.2.lt
    go_simp
    try go_bits
    first
      | exact hK _ hS (Gr.refl _)
      | (go_at_call 33; refine (itoa_any _ (by omega) (by omega) _ (hL.below (hB0.trans (hSB.mono hw0)) (Nat.le_refl _))).mono ?_; rintro e wq ⟨rfl, hBq⟩; exact hK _ (⟨Below.trans hSB (Below.mono hBq (Nat.le_trans (Nat.le_of_lt hbW) hSB.size)), hS.2.gr hBq⟩) hBq)
  case ca16R2 => (first | (simp [Act.put]; done) | (simp [Act.put, *]; done))
  try dsimp only
  refine wpW_det (t' := ?ct17R2) 17 (by rfl) (by kernel_rfl) (NQ_free _) (by kernel_rfl) ?cw17R2 ?ch17R2 ?ca17R2 (Eq.refl _) ?cH17R2
  case cw17R2 => (go_simp; done)
  case ch17R2 =>
    intro ds w' hS K hK
    have hSB : Below b W w' := hS.1
    obtain ⟨f0, f1, f2, f3, f4, ff⟩ := blk5 hS.2
    have lf := hS.2.lt
    go_simp
    try go_bits
    first
      | exact hK _ hS (Gr.refl _)
      | (go_at_call 33; refine (itoa_any _ (by omega) (by omega) _ (hL.below (hB0.trans (hSB.mono hw0)) (Nat.le_refl _))).mono ?_; rintro e wq ⟨rfl, hBq⟩; exact hK _ (⟨Below.trans hSB (Below.mono hBq (Nat.le_trans (Nat.le_of_lt hbW) hSB.size)), hS.2.gr hBq⟩) hBq)
  case ca17R2 => (first | (simp [Act.put]; done) | (simp [Act.put, *]; done))
  try dsimp only
  refine wpW_det (t' := ?ct18R2) 18 (by rfl) (by kernel_rfl) (NQ_free _) (by kernel_rfl) ?cw18R2 ?ch18R2 ?ca18R2 (Eq.refl _) ?cH18R2
  case cw18R2 => (go_simp; done)
  case ch18R2 =>
    intro ds w' hS K hK
    have hSB : Below b W w' := hS.1
    obtain ⟨f0, f1, f2, f3, f4, ff⟩ := blk5 hS.2
    have lf := hS.2.lt
    go_simp
    try go_bits
    first
      | exact hK _ hS (Gr.refl _)
      | (go_at_call 33; refine (itoa_any _ (by omega) (by omega) _ (hL.below (hB0.trans (hSB.mono hw0)) (Nat.le_refl _))).mono ?_; rintro e wq ⟨rfl, hBq⟩; exact hK _ (⟨Below.trans hSB (Below.mono hBq (Nat.le_trans (Nat.le_of_lt hbW) hSB.size)), hS.2.gr hBq⟩) hBq)
  case ca18R2 => (first | (simp [Act.put]; done) | (simp [Act.put, *]; done))
  try dsimp only
  have hI : IsBuilderF 88 5 b b (byteCells l) W.drew := hI
  refine wpW_branch [19] (by kernel_rfl) (by simp) ?_
  intro w1 hg1 hS1
  try replace hI := hI.gr hg1
  try replace bw := bw.gr hg1
  refine each_cons ?_ (each_nil)
  · refine wpOp_go (by rfl) (Eq.refl _) (by go_simp; done) ?_
    intro K hK
    go_simp
    try simp only [Act.put]
    have bw := Blk.new w1 9 #[.string ⟨#[102, 97, 99, 101]⟩, .string nm, .string (strB (itoa fx)), .string (strB (itoa fz)), .string (strB (itoa tx)), .string (strB (itoa tz))]
    have hal : Gr w1 (w1.alloc (.cells #[.string ⟨#[102, 97, 99, 101]⟩, .string nm, .string (strB (itoa fx)), .string (strB (itoa fz)), .string (strB (itoa tx)), .string (strB (itoa tz))] 9)) := (Below.refl _ _).alloc (Nat.le_refl _) _
    have hI := (hI.gr hal)
    have hSB : Below b W w1 := hS1.1
    have hzb : b ≤ w1.heap.size := Nat.le_trans (Nat.le_of_lt hbW) (Below.size hSB)
    refine hK _ _ (⟨Below.trans hSB (hal.mono hzb), hS1.2.gr hal⟩) ?_
    clear hK K hal hSB
    generalize w1.heap.size = gw at *
    refine wpW_branch [20] (by kernel_rfl) (by simp) ?_
    intro w2 hg2 hS2
    try replace hI := hI.gr hg2
    try replace bw := bw.gr hg2
    refine each_cons ?_ (each_nil)
    · refine wpOp_go (by rfl) (Eq.refl _) (by go_simp; done) ?_
      intro K hK
      go_simp
      try simp only [Act.put]
      refine (line_any [⟨#[102, 97, 99, 101]⟩, nm, strB (itoa fx), strB (itoa fz), strB (itoa tx), strB (itoa tz)] _ 0 b l _ (own_six bw) (by simp) (HLN.out) (by simp) (by omega) hI).mono ?_
      rintro e wq ⟨⟨u, rfl⟩, hI2, hBq, hOK⟩
      refine hK _ _ (⟨Below.trans hS2.1 hBq, hOK _ _ hS2.2 (fun e => by have := Option.some.inj e; omega) (fun c fz e => by have := (Obj.cells.inj e).2.1; revert this; decide)⟩) ?_
      clear hK K hI
      refine wpW_end (by kernel_rfl) ?_
      intro we hg hS
      unfold NQ
      dsimp only
      exact H.out _ _ _ _ _ _ _ _ _ _ _ _ _ _ _ _ _ _ _ _ _ we (hS.1) (hI2.gr hg)

set_option maxRecDepth 100000 in
set_option maxHeartbeats 8000000 in
theorem print_any (j : Jo) (A : Option Addr) (c B : Nat) (w : World) (hL : LibW w) (hs : j.nm.size ≤ 1000000000000) (hfs : ∀ p ∈ j.fs, p.1.size ≤ 1000000000000) (hn : j.fs.length ≤ c) (hc : c ≤ 9223372036854775807) (hR : Row w B 5 A j.fs.length (fcsC j.fs)) (hB : B ≤ w.heap.size) :
    Calls Tryz.prog 7 #[.agg (joC j A c)] w fun e w' => e = .returned (.tuple #[.string (if (jointE j).2 = 0 then strB (printL j) else ⟨#[]⟩), .int .i64 (jointE j).2]) ∧ Below w.heap.size w w' := by
  unfold joC
  by_cases h0 : (jointE j).2 = 0
  · rw [if_pos h0, h0]
    have hP := PrOk.of h0
    have H0 := Lib.hid h0; clear h0
    have hlen := hP.len
    have HJ := Lib.hid hP
    clear hP
    have bj := Blk.new w 24 #[.string j.nm, .int .i64 j.thick, .int .i64 j.zone, .slice A j.fs.length c]
    have hB0 : Below w.heap.size w (w.alloc (.cells #[.string j.nm, .int .i64 j.thick, .int .i64 j.zone, .slice A j.fs.length c] 24)) := ((Below.refl _ _).alloc (Nat.le_refl _) _)
    go_enter Tryz.func7, Tryz.ntmps7
    go_wp2_with fail
    refine (jointErr_any j A c B _ hs hfs hn hc (hR.alloc hB _) (by simp; omega)).mono ?_
    rintro e w1 ⟨rfl, hB1⟩
    rw [H0.out]
    have lj0 := bj.lt
    replace bj := bj.gr hB1
    replace hB0 := hB0.trans (hB1.mono (Below.size hB0))
    have hjw : w.heap.size < w1.heap.size := bj.lt
    have hLw := Lib.hid hL
    have HR := Lib.hid hR
    clear hB1 lj0 hL hR
    go_upto_region 6 with fail
    have bj2 := bj.alloc (.cells #[.pointer none, .slice none 0 0] 88)
    have hB2 := hB0.alloc (Nat.le_of_lt hjw) (.cells #[.pointer none, .slice none 0 0] 88)
    have hI2 : IsBuilderF 88 5 w1.heap.size w1.heap.size (byteCells []) (w1.alloc (.cells #[.pointer none, .slice none 0 0] 88)) := IsBuilderF.of (fresh_isBuilder 88 5 w1)
    refine cpReg6 (b := w1.heap.size) (l := []) HJ.out hjw bj2 hLw.out hB2 (Nat.le_of_lt hjw) (by simp) hI2 _ ?_
    intro t15 t16 t17 t18 t19 t20 t21 t22 t23 t24 t25 w6 hB6 hI6
    replace bj := bj2.below hB6 hjw
    have hB3 : Below w.heap.size w w6 := hB2.trans (hB6.mono (Nat.le_of_lt hjw))
    have hI3 : IsBuilderF 88 5 w1.heap.size w1.heap.size (byteCells (printK j 0)) w6 := by
      have e0 : printK j 0 = [] ++ (join (headT j) [32] ++ [10]) := by simp [printK]
      rw [e0]; exact hI6
    have hz6 := hB6.size
    simp only [World.size_alloc] at hz6
    generalize w1.heap.size = b at *
    clear bj2 hB2 hI2 hI6 hB6 hB0
    obtain ⟨j0, j1, j2, j3, jf⟩ := blk4 bj
    have lj := bj.lt
    dsimp only
    go_wp2
    clear j0 j1 j2 j3 jf lj
    go_loopw [29] (fun s29 wr => ∃ k : Nat, s29 = .int .i64 k ∧ k ≤ j.fs.length ∧ IsBuilderF 88 5 b b (byteCells (printK j k)) wr ∧ Below w.heap.size w wr) (fun s29 _ => j.fs.length - (RowKit.intOf s29).toNat)
    case atStart => exact ⟨0, rfl, Nat.zero_le _, hI3, hB3⟩
    case round =>
      clear bj hB3 hI3
      obtain ⟨k, rfl, hk, hI, hBB⟩ := hrel
      have hzB := Below.size hBB
      have hbW := hI.lt_
      by_cases hlt : k < j.fs.length
      · have hlI : (k : Int) < (j.fs.length : Int) := by omega
        obtain ⟨g, o, rfl, hgB, f0, f1, f2, f3, f4⟩ := faceCells (HR.out.below (hBB.mono hB) (Nat.le_refl _)) hlt
        have HF := Lib.hid (HJ.out.fs _ (List.getElem_mem hlt))
        have HP := Lib.hid (printK_succ j hlt)
        have HLN := Lib.hid (printK_len HJ.out k hk)
        have hgw : g < wr.heap.size := by omega
        generalize j.fs[k] = p at *
        go_upto_region 10 with fail
        have hal : Gr wr (wr.alloc (.cells #[.string p.1, .int .i64 p.2.fx, .int .i64 p.2.fz, .int .i64 p.2.tx, .int .i64 p.2.tz] 83)) := (Below.refl _ _).alloc (Nat.le_refl _) _
        refine cpReg10 (b := b) (fb := wr.heap.size) (l := printK j k) (p := p) HF.out hbW (Blk.new wr 83 #[.string p.1, .int .i64 p.2.fx, .int .i64 p.2.fz, .int .i64 p.2.tx, .int .i64 p.2.tz]) hLw.out (hBB.trans (hal.mono hzB)) (Nat.le_of_lt hjw) (by have := HLN.out; omega) (hI.gr hal) _ ?_
        intro t33 t34 t35 t36 t37 t38 t39 t40 t41 t42 t43 t44 t45 t46 t47 t48 t49 t50 t51 t52 t53 w4 hB4 hI4
        rw [← HP.out] at hI4
        have hB5 : Below w.heap.size w w4 := (hBB.trans (hal.mono hzB)).trans (hB4.mono (Nat.le_of_lt hjw))
        clear hB4 hI hBB
        dsimp only
        go_wp2
        exact ⟨⟨k + 1, by go_num, by omega, hI4, hB5⟩, by (first | (simp [RowKit.intOf]; done) | (simp [RowKit.intOf]; omega))⟩
      · obtain rfl : k = j.fs.length := by omega
        rw [printK_done] at hI
        go_wp2_with fail
        refine (buStr_any b _ _ hI (by omega)).mono ?_
        rintro e w5 ⟨rfl, hB5⟩
        go_wp2
        go_ret2
        exact ⟨rfl, hBB.trans (hB5.mono (Nat.le_of_lt hjw))⟩
  · rw [if_neg h0]
    have h1 : ((jointE j).2 != 0) = true := by simpa using h0
    have H0 := Lib.hid h0; clear h0
    go_enter Tryz.func7, Tryz.ntmps7
    go_wp2_with fail
    refine (jointErr_any j A c B _ hs hfs hn hc (hR.alloc hB _) (by simp; omega)).mono ?_
    rintro e w1 ⟨rfl, hB1⟩
    go_wp2
    go_ret2
    exact ⟨rfl, (by repeat first | (with_reducible first | exact Below.refl _ _ | assumption) | ((with_reducible first | refine Below.setCell ?_ ?_ _ | refine Below.alloc ?_ ?_ _); rotate_left; · first | exact Nat.le_refl _ | (simp; done) | (simp; omega) | omega) | (with_reducible first | apply Below.drew | apply below_drewN') | refine Below.trans ?_ (Below.mono (by assumption) (by first | exact Nat.le_refl _ | (simp; done) | (simp; omega) | omega)) | exact Below.refl _ _ | assumption)⟩
end Go.Proofs.YtaekcfancfoccaaGreatDoor
